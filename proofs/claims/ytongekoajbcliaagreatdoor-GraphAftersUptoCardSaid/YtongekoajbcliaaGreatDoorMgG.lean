/-
  DN, second part.
-/
import Derived.Test.YtongekoajbcliaaGreatDoorMgC
import Derived.Test.YtongekoajbcliaaGreatDoorMgF
set_option linter.all false
/-
 DN,part Kd:slices of slices.
-/
namespace Go.DN
open Go.AM
def bD(d:Nat):List Nat->Bool|[]=>false|x::r=>bif Nat.beq x d then true else bD d r
def bV{d:Nat}:∀{l:List Nat},bD d l=true↔d∈l|[]=>by simp[bD]|x::r=>by simp only[bD,bh];cases a:Nat.beq x d with|true=>have:=ab a;subst this;simp|false=>rw[cond_false,bV];constructor;exact .inr;rintro(e|h);subst e;rw[aW] at a;cases a;exact h
section
variable {S:eN}
def iN{t:ae S}(h:t.last=[]):aQ t:=fun d b x a=>by rw[h] at a;cases a
def inner(s:ae S):List Nat->Bool|[]=>true|x::r=>(match aB s.bS x with|none=>true|some _=>false)&&(!(TV.has.go x s.df)&&(!(gT x s.lo)&&!(dI x s.bS)))&&inner s r
def K1(s:ae S)(h kty:Nat){A:Type}(k:ae S->Option A):Option A:=none
def LB{s:ae S}{h kty:Nat}{A:Type}{k:ae S->Option A}{r:A}(a:aQ s)(e:K1 s h kty k=some r):∃t,Gh s.er t.er/\aQ t/\bG s t/\k t=some r:=by unfold K1 at e;cases e
def Lz(s:ae S)(h:Nat):Option (ae S):=none
def R9{s t:ae S}{h:Nat}(a:aQ s)(e:Lz s h=some t):Gh s.er t.er/\aQ t/\bG s t:=by unfold Lz at e;cases e
def H6(s:ae S)(h:Nat):Option (ae S):=none
def P6{s t:ae S}{h:Nat}(a:aQ s)(e:H6 s h=some t):Gh s.er t.er/\aQ t/\bG s t:=by unfold H6 at e;cases e
def M1(s:ae S)(h:Nat):Bool:=match aB s.bo h with|some (.deep _ _ _ (.rows _ _) _ _)=>true|_=>false
def M3(s:ae S)(h:Nat):Bool:=match aB s.bo h with|some (.deep ..)=>true|_=>false
def DR(s:ae S)(h:Nat):Option (ae S):=match M3 s h with|true=>(match (match M1 s h with|true=>H6 s h|false=>Lz s h) with|some a=>DT a h|none=>none)|false=>DT s h
def He{s t:ae S}{h:Nat}(b:aQ s)(hf:DR s h=some t):Gh s.er t.er/\aQ t/\bG s t:=by
 unfold DR at hf;split at hf;split at hf;rename_i c a;have d:Gh s.er c.er/\aQ c/\bG s c:=by split at a;exact P6 b a;exact R9 b a
 obtain⟨f,g,i⟩:=d;obtain⟨j,k,e⟩:=Hf g hf;exact⟨f.trans j,k,i.trans e⟩;cases hf;exact Hf b hf
def Ni(P:Program)(ok:Nat->Bool)(s:ae S)(t:TypeId)(x y:Operand){A:Type}(k:ae S->Option A):Option A:=none
def TQ{P:Program}{W:List Nat}{ok:Nat->Bool}(a:∀h,ok h=true->W.contains h=true){s:ae S}{t:TypeId}{x y:Operand}{ty:TypeId}{pos:String}{after:Array Edge}{guard:Option (Nat×Bool)}{A:Type}{k:ae S->Option A}{r:A}(b:aQ s)(h:Ni P ok s t x y k=some r):fL P W s ⟨none,.store t x y,ty,pos,after,guard⟩ k r:=by unfold Ni at h;cases h
def IS(P:Program)(ok:Nat->Bool)(s:ae S)(d:Nat)(t:TypeId)(n:Nat)(a:Array (Nat×Operand)){A:Type}(k:ae S->Option A):Option A:=none
def Rm{P:Program}{W:List Nat}{ok:Nat->Bool}(b:∀h,ok h=true->W.contains h=true){s:ae S}{d:Nat}{t:TypeId}{n:Nat}{a:Array (Nat×Operand)}{ty:TypeId}{pos:String}{after:Array Edge}{guard:Option (Nat×Bool)}{A:Type}{k:ae S->Option A}{r:A}(c:aQ s)(h:IS P ok s d t n a k=some r):fL P W s ⟨some d,.buildSlice t n a,ty,pos,after,guard⟩ k r:=by unfold IS at h;cases h
def IT(P:Program)(ok:Nat->Bool)(s:ae S)(d:Nat)(c:Call){A:Type}(k:ae S->Option A):Option A:=none
def Rn{P:Program}{W:List Nat}{ok:Nat->Bool}(b:∀h,ok h=true->W.contains h=true){s:ae S}{d:Nat}{args:Array Operand}{ts:Array TypeId}{ty:TypeId}{pos:String}{after:Array Edge}{guard:Option (Nat×Bool)}{A:Type}{k:ae S->Option A}{r:A}(c:aQ s)(a:IT P ok s d ⟨.builtin .append,args,ts⟩ k=some r):fL P W s ⟨some d,.call ⟨.builtin .append,args,ts⟩,ty,pos,after,guard⟩ k r:=by unfold IT at a;cases a
end
end Go.DN
/-
 DN,part Ke:slices that are written no more,slices that are adopted,slices whose end is cut off.
-/
namespace Go.DN
open Go.AM
section
variable {S:eN}
def TV.QK:TV S→List Nat
 | .aN h _=>[h]
 | .sub h _ _ _=>[h]
 | .agg l=>go l
 | .bE l=>go l
 | _=>[]
where go:List (TV S)→List Nat
 | []=>[]
 | x::r=>x.QK++go r
def sM:List Nat->ae S->Option (ae S)|[],s=>some s|h::r,s=>match aB s.bo h with|none=>sM r s|some _=>match DR s h with|some a=>sM r a|none=>none
def oA:∀{l:List Nat}{s t:ae S},aQ s->sM l s=some t->Gh s.er t.er/\aQ t/\bG s t|[],s,t,a,h=>by cases h;exact⟨Gh.refl _,a,bG.refl s⟩|x::r,s,t,a,h=>by simp only[sM] at h;split at h;exact oA a h;split at h;rename_i j d;obtain⟨e,f,c⟩:=He a d;obtain⟨g,i,b⟩:=oA f h;exact⟨e.trans g,i,c.trans b⟩;cases h
def QJ(s:ae S):List Operand->List Nat|[]=>[]|x::r=>(match cC s x with|some v=>v.QK|none=>[])++QJ s r
def CL{α c:Type}{f:α->List c}{z:Nat}(hf:∀a,(f a).length=z):∀(l:List α) (n:Nat),List.flatMap f (l.take n)=(List.flatMap f l).take (n*z)|[],n=>by simp|x::r,0=>by simp|x::r,n+1=>by simp only[List.take_succ_cons,cd];(have d:(n+1)*z-z=n*z:=by rw[Nat.succ_mul];omega);(have b:(f x).length<=(n+1)*z:=by rw[hf x,Nat.succ_mul];omega);rw[CL hf r n,List.take_append,hf x,d,dc (l:=f x) b]
def Gh.Z6{s:St}(n j hd:Nat)(e:TypeId)(sz:Nat){k:aw}(o:az s.st n=some k)(C:k.pure=false)(u:k.cells[j]?=some (.val (.slice none 0 0)))(hf:fresh s hd=true)(g:k.lp=none):Gh s {fr:=s.fr,st:=dJ ((hd,⟨e,true,true,true,sz,[],none⟩)::s.st) n {k with cells:=k.cells.set j (.aN hd sz 0 0)},df:=s.df}:=fun N D E a w h=>by have B:=h.GG hd ⟨e,true,true,true,sz,[],none⟩ hf rfl rfl;(have p:n≠hd:=fun e=>by subst e;obtain⟨t,_⟩:=gC hf;rw[o] at t;cases t);(have f:az ((hd,(⟨e,true,true,true,sz,[],none⟩:aw))::s.st) n=some k:=by rw[aD _ _ p];exact o);refine⟨_,B.DA (s:={fr:=s.fr,st:=(hd,⟨e,true,true,true,sz,[],none⟩)::s.st,df:=s.df}) f rfl rfl rfl (by simp) g g fun i z c=>?_,Gh.same fun x A b m y l=>?_⟩;simp only[dQ] at c;by_cases e:j=i;subst e;rw[if_pos rfl] at c;split at c;cases c;refine⟨_,u,fun v d=>?_⟩;unfold dh at d|-;simp only[C] at d|-;(cases d with|aG d=>cases d;exact .gz hd sz (cf _ _ _));cases c;rw[if_neg e] at c;refine⟨z,c,fun v d=>?_⟩;unfold dh at d|-;exact d;by_cases e1:x=hd;subst e1;rw[cf] at l;cases l;rw[bc e1] at l;rcases dz f y with ⟨r,_⟩|⟨r,q⟩;subst r;exact⟨k,o,l⟩;rw[aD _ _ e1] at q;exact⟨A,q,l⟩
def Uo{s:ae S}{h j hd:Nat}{e a:TypeId}{m:Bool}{cs:List (TV S)}{τ:Ty}(q:aQ s)(ho:aB s.st h=some (.box a m cs))(o:cs[j]?=some (.val (.slice none 0 0)))(hf:s.free hd=true):Gh s.er ((s.add hd (.arr e true true τ [])).set h (.box a m (cs.set j (.aN hd τ)))).er/\aQ ((s.add hd (.arr e true true τ [])).set h (.box a m (cs.set j (.aN hd τ)))):=by
 obtain⟨p,g⟩:=qe hf (.arr e true true τ ([]:List (S.D τ))) rfl;obtain⟨i,v,l,w,u⟩:=free_spec hf;have d:h≠hd:=fun e=>by subst e;rw[fZ ho] at i;cases i
 have b:Nat.beq hd h=false:=by cases n:Nat.beq hd h with|false=>rfl|true=>exact absurd (ab n).symm d
 have c:aB (s.add hd (.arr e true true τ [])).st h=some (.box a m cs):=by show aB ((hd,_)::s.st) h=_;simp only[aB,b,cond_false];exact ho
 obtain⟨t,_⟩:=pM (o':=.box a m (cs.set j (.aN hd τ))) c rfl;refine⟨?_,(q.add (.arr e true true τ []) hf).set c _⟩;rw[t,p];have f:TV.has.go hd cs=false:=by have:=uy (fZ ho) l;exact this
 have r:(TO.box a m (cs.set j (.aN hd τ)):TO S).er (s.add hd (.arr e true true τ [])).ln={(TO.box a m cs:TO S).er s.ln with cells:=((TO.box a m cs:TO S).er s.ln).cells.set j (.aN hd (S.sz τ) 0 0)}:=by (have k:TV.er.go (s.add hd (.arr e true true τ [])).ln (cs.set j (.aN hd τ))=(TV.er.go s.ln cs).set j (.aN hd (S.sz τ) 0 0):=by rw[cW,oe,<-cW,<-pX g cs f];congr 1;show G.aN _ _ _ ((s.add hd _).ln hd)=_;rw[show(s.add hd (.arr e true true τ [])).ln hd=_ from wF _ _];rfl);show aw.mk _ _ _ _ _ _ _=aw.mk _ _ _ _ _ _ _;rw[k];rfl
 rw[r];exact Gh.Z6 (s:=s.er) h j hd e (S.sz τ) (gv (fZ ho)) rfl (by show(TV.er.go s.ln cs)[j]?=_;rw[cW,ao,o];rfl) (gD hf) rfl
def I6(h:Nat):List (Nat×TO S)->List (Nat×TO S)|[]=>[]|(k,o)::r=>bif Nat.beq k h then I6 h r else(k,o)::I6 h r
def AU{h x:Nat}(hx:x≠h):∀{st:List (Nat×TO S)},aB (I6 h st) x=aB st x|[]=>rfl|(k,o)::r=>by simp only[I6,aB];cases b:Nat.beq k h with|true=>have:=ab b;subst this;(have c:Nat.beq k x=false:=by cases a:Nat.beq k x with|false=>rfl|true=>exact absurd (ab a).symm hx);rw[c];exact AU hx|false=>simp only[cond_false,aB];cases Nat.beq k x with|true=>rfl|false=>exact AU hx
def ae.sS(s:ae S)(h:Nat):ae S:={s with st:=I6 h s.st,last:=xC h s.last}
def VZ{s:ae S}{h:Nat}(v:aQ s)(hf:(s.sS h).free h=true):Gh s.er (s.sS h).er/\aQ (s.sS h)/\bG s (s.sS h):=by
 obtain⟨t,u,w,y,_⟩:=free_spec hf;have f:∀x,x≠h->aB (s.sS h).bo x=aB s.bo x:=by intro x j;show aB (I6 h s.st++s.bS) x=aB (s.st++s.bS) x;rw[eH,eH,AU j]
 have c:kT s.ln (s.sS h).ln h:=by intro x j;show cw s.bo x=cw (s.sS h).bo x;unfold cw;rw[f x j]
 have g:∀o:TO S,o.has h=false->xi s.er.st (s.sS h).er.st (o.er s.ln) (o.er (s.sS h).ln):=by intro o E;rw[TO.tR c o E];exact xi.refl _ _ _
 refine⟨Gh.typed (fun d n k=>⟨n,k,?_⟩) (fun x p b=>?_) (pX c s.df y),?_,⟨rfl,rfl,rfl⟩⟩;rw[tR c n (xT k u)];exact CV.refl _ _ _;have j:x≠h:=fun e=>by subst e;rw[t] at b;cases b
 exact⟨p,by rw[<-f x j];exact b,g p (uy b w)⟩;intro d q x z;obtain⟨A,B⟩:=vZ z;obtain⟨i,C,m,D,l,F,a,G,H,r⟩:=v d q x A;exact⟨i,C,m,D,l,F,a,G,(f q B).trans H,r⟩
def mQ(s:ae S)(h:Nat):ae S:=match s.free h with|true=>s|false=>match (s.sS h).free h with|true=>s.sS h|false=>s
def wJ{s:ae S}(h:Nat)(a:aQ s):Gh s.er (mQ s h).er/\aQ (mQ s h)/\bG s (mQ s h):=by unfold mQ;split;exact⟨Gh.refl _,a,bG.refl s⟩;split;rename_i b;exact VZ a b;exact⟨Gh.refl _,a,bG.refl s⟩
def Rel.shrink{N:Nat}{cx:Cx}{s:St}{μ:Mu}{a:Act}{w:World}(i:Rel N cx μ s a w){h d n c:Nat}{k:aw}(G:az s.st h=some k)(L:k.pure=true)(u:k.lp=none)(hd:get s.fr d=some (.aN h k.sz 0 n)):Rel N cx μ {fr:=(d,.aN h k.sz 0 n)::nN h s.fr,st:=(h,{k with cells:=k.cells.take c})::gJ h s.st,df:=s.df} a w:=by
 have z:∀x r,az ((h,{k with cells:=k.cells.take c})::gJ h s.st) x=some r->∃l,az s.st x=some l:=by intro x r f;by_cases e:x=h;subst e;exact⟨k,G⟩;rw[aD _ _ e] at f;obtain⟨l,o,_⟩:=dP f;exact⟨l,o⟩
 have B:∀b,¬cx.O s.st μ b->¬cx.O ((h,{k with cells:=k.cells.take c})::gJ h s.st) μ b:=by rintro b M (S|⟨x,r,R,m,f,o,F⟩);exact M (.inl S);obtain⟨l,A⟩:=z x r f;exact M (.inr ⟨x,l,R,m,A,o,F⟩)
 refine {st:={ez:=?_,dr:=?_,cy:=?_,fJ:=?_,fq:=i.st.fq,hb:=i.st.hb,os:=i.st.os,tape:=i.st.tape,output:=i.st.output,gl:=i.st.gl,dB:=i.st.dB},nd:=i.nd.mono (Kept.refl _ _) (fun b _=>B b),sz:=i.sz,fr:=?_};intro x r f;by_cases e:x=h;subst e;rw[dY] at f;cases f;have A:=i.st.ez x k G;cases C:μ x with|none=>rw[C] at A;exact .nil (by simp[A.1]) u|some T=>obtain⟨b,m⟩:=T;rw[C] at A;obtain⟨U,V,Z,q3,q4,q5,Q⟩:=A.cells u;refine .mk u (A.nv u) ⟨U,V,Z,by simp only[bA];omega,q4,q5,fun j g p=>?_⟩;(have H:k.cells[j]?=some g:=by have p:(k.cells.take c)[j]?=some g:=p;rw[br] at p;split at p;exact p;cases p);obtain⟨v,D,q⟩:=Q j g H;refine⟨v,D,?_⟩;have:=q.mono (O':=cx.O ((x,{k with cells:=k.cells.take c})::gJ x s.st) μ) (Kept.refl _ _) (fun b _=>B b);unfold dh at this|-;exact this
 rw[aD _ _ e] at f;obtain⟨l,o,rfl⟩:=dP f;exact((i.st.ez x l o).mono (fun _ _ _ _ _=>rfl) (Kept.refl _ _) (fun b _=>B b)).kill h fun _ _=>rfl;intro x O r W y b m X Y f o;obtain⟨l,E⟩:=z x r f;obtain⟨J,I⟩:=z O W o;exact i.st.dr x O l J y b m X Y E I;intro x r b m y f o F;by_cases e:x=h;subst e;rw[dY] at f;cases f;exact i.st.cy x k b m y G o F;rw[aD _ _ e] at f;obtain⟨l,E,rfl⟩:=dP f;obtain⟨a1,a2,a3,a4⟩:=i.st.cy x l b m y E o F;exact⟨a1,a2,a3,fun C=>a4 (by cases L:l.pure <;> simp only[L] at C <;> exact C)⟩;intro x r f o;obtain⟨l,E⟩:=z x r f;exact i.st.fJ x l E o;intro t g p;rw[jc] at p;cases K:Nat.beq d t with|true=>rw[K] at p;cases p;have:=ab K;subst this;obtain⟨v,D,q⟩:=i.fr d _ hd;exact⟨v,D,q.mono (Kept.refl _ _) (fun b _=>B b) (aH _)⟩|false=>rw[K] at p;obtain⟨P,f,rfl⟩:=AG p;obtain⟨v,D,q⟩:=i.fr t P f;exact⟨v,D,sG (q.mono (Kept.refl _ _) (fun b _=>B b) (aH _)) fun k G=>rfl⟩
def B7(s:ae S)(x:Operand){A:Type}(k:ae S->Option A):Option A:=match x with|.tmp t=>(match bw s.cm t with|some (.sub h b 0 n)=>(match aB s.st h with|some (.arr e m f a l)=>(match decEq a b with|isTrue _=>(match !(gT h s.lo)&&(!(dI h s.bS)&&!(TV.has.go h s.df)) with|true=>(ba (n<=l.length)).bind fun _=>k ((s.renew h (.arr e m f a (l.take n))).put t (.aN h a))|false=>none)|isFalse _=>none)|_=>none)|_=>k s)|_=>k s
def B6{s:ae S}{x:Operand}{A:Type}{k:ae S->Option A}{r:A}(o:aQ s)(h:B7 s x k=some r):∃t,Gh s.er t.er/\aQ t/\bG s t/\k t=some r:=by
 unfold B7 at h;split at h;rename_i t;split at h;rename_i d R n M;split at h;rename_i e m f c l z;split at h;rename_i u _;subst u;split at h;rename_i v;simp only[ag,aT] at v;obtain⟨g,i,p⟩:=v;obtain⟨_,q,C⟩:=bind_some h;have D:n<=l.length:=cI q;refine⟨_,?_,(o.renew d (.arr e m f c (l.take n)) g i).put t (.aN d c),⟨rfl,rfl,rfl⟩,C⟩;obtain⟨u,_,E⟩:=EV (.arr e m f c (l.take n)) rfl p g i;rw[iT,u];have F:(TV.aN d c:TV S).er (s.renew d (.arr e m f c (l.take n))).ln=.aN d (S.sz c) 0 n:=by show G.aN _ _ _ ((s.renew d _).ln d)=_;rw[E];show G.aN _ _ _ (l.take n).length=_;rw[bA,iX D]
 rw[F];have H:(TO.arr e m f c (l.take n):TO S).er s.ln={(TO.arr e m f c l:TO S).er s.ln with cells:=((TO.arr e m f c l:TO S).er s.ln).cells.take (n*S.sz c)}:=by show aw.mk _ _ _ _ _ _ _=aw.mk _ _ _ _ _ _ _;have:List.flatMap (aX S c) (l.take n)=(List.flatMap (aX S c) l).take (n*S.sz c):=CL (fun a=>tS S c a) l n;rw[this];rfl
 rw[H];have J:AM.get (iC s.ln s.cm) t=some (G.aN d (S.sz c) 0 n):=by rw[gd M];show some (G.aN _ _ (0*S.sz c) _)=_;rw[gR]
 intro N P K a w L;exact⟨K,Rel.shrink L (gv (fZ z)) rfl rfl J,Gh.same fun x I b Q j y=>by by_cases e:x=d;subst e;exact⟨_,gv (fZ z),y⟩;have j:az ((d,_)::gJ d s.er.st) x=some I:=j;rw[aD _ _ e] at j;obtain⟨O,B,_⟩:=dP j;exact⟨O,B,y⟩⟩;cases h;cases h;cases h;exact⟨s,Gh.refl _,o,bG.refl s,h⟩;exact⟨s,Gh.refl _,o,bG.refl s,h⟩
end
end Go.DN
/-
 DN,part Kc:copy.
-/
namespace Go.DN
open Go.AM
section
variable {S:eN}
def RH(P:Program)(ok:Nat->Bool)(s:ae S)(d:Nat)(c:Call){A:Type}(k:ae S->Option A):Option A:=none
section
variable {P:Program}{W:List Nat}{s:ae S}{ty:TypeId}{pos:String}{after:Array Edge}{guard:Option (Nat×Bool)}{A:Type}{k:ae S→Option A}{r:A}
def Cb{st:List (Nat×aw)}{h:Nat}{b:aw}(hb:az st h=some b):dJ st h b=st:=by induction st with|nil=>cases hb|cons x r c=>obtain⟨y,g⟩:=x;simp only[az] at hb;simp only[dJ];cases a:Nat.beq y h with|true=>rw[a] at hb;cases hb;rfl|false=>rw[a] at hb;rw[cond_false,c hb]
def Wh{ok:Nat->Bool}(a:∀h,ok h=true->W.contains h=true){d:Nat}{args:Array Operand}{ts:Array TypeId}(b:aQ s)(h:RH P ok s d ⟨.builtin .copy,args,ts⟩ k=some r):fL P W s ⟨some d,.call ⟨.builtin .copy,args,ts⟩,ty,pos,after,guard⟩ k r:=by unfold RH at h;cases h
end
end
end Go.DN
/-
 DN,part Kf:append within an object,clear.
-/
namespace Go.AM
end Go.AM
namespace Go.DN
open Go.AM
section
variable {S:eN}
def Zp(s:ae S):List Operand->Bool|[x,y]=>(match cC s x with|some (.sub h _ _ _)=>(match cC s y with|some (.sub a _ _ _)=>Nat.beq a h|_=>false)|_=>false)|_=>false
def N5(P:Program)(ok:Nat->Bool)(s:ae S)(d:Nat)(c:Call){A:Type}(k:ae S->Option A):Option A:=none
def NJ(P:Program)(ok:Nat->Bool)(s:ae S)(c:Call){A:Type}(k:ae S->Option A):Option A:=none
section
variable {P:Program}{W:List Nat}{s:ae S}{ty:TypeId}{pos:String}{after:Array Edge}{guard:Option (Nat×Bool)}{A:Type}{k:ae S→Option A}{r:A}
def Uj{ok:Nat->Bool}(a:∀h,ok h=true->W.contains h=true){d:Nat}{args:Array Operand}{ts:Array TypeId}(b:aQ s)(h:N5 P ok s d ⟨.builtin .append,args,ts⟩ k=some r):fL P W s ⟨some d,.call ⟨.builtin .append,args,ts⟩,ty,pos,after,guard⟩ k r:=by unfold N5 at h;cases h
def T6{ok:Nat->Bool}(a:∀h,ok h=true->W.contains h=true){args:Array Operand}{ts:Array TypeId}(b:aQ s)(h:NJ P ok s ⟨.builtin .clear,args,ts⟩ k=some r):fL P W s ⟨none,.call ⟨.builtin .clear,args,ts⟩,ty,pos,after,guard⟩ k r:=by unfold NJ at h;cases h
end
end
end Go.DN
/-
 DN,part Kg:slices of structs of slices:made;one of the slices is taken out,and put in.
-/
namespace Go.DN
open Go.AM
def AL{α b:Type}(f:α->List b){n:Nat}(hn:∀a,(f a).length=n):∀l:List α,(l.flatMap f).length=l.length*n|[]=>by simp|a::l=>by rw[cd,aK,hn,AL f hn l,bQ,Nat.succ_mul];omega
section
variable {S:eN}
variable {P:Program}{W:List Nat}{ok:Nat→Bool}{s:ae S}{ty:TypeId}{pos:String}{after:Array Edge}{guard:Option (Nat×Bool)}{A:Type}{k:ae S→Option A}{r:A}
def XY(S:eN)(P:Program)(t:TypeId):Bool:=match P.underlying t with|some (.slice e)=>(S.aaM e).isSome|_=>false
def IA(P:Program)(s:ae S)(d:Nat)(t:TypeId)(x y:Operand){A:Type}(k:ae S->Option A):Option A:=none
def QU{d:Nat}{t:TypeId}{x y:Operand}(a:aQ s)(h:IA P s d t x y k=some r):fL P W s ⟨some d,.makeSlice t x y,ty,pos,after,guard⟩ k r:=by unfold IA at h;cases h
def IF(s:ae S)(op:Op):Bool:=match op with|.load _ x=>(match cC s x with|some (.iU h _ _ _)=>M1 s h|_=>false)|_=>false
def Ig(P:Program)(ok:Nat->Bool)(s:ae S)(d:Nat)(t:TypeId)(x:Operand){A:Type}(k:ae S->Option A):Option A:=none
def Qs(a:∀h,ok h=true->W.contains h=true){d:Nat}{t:TypeId}{x:Operand}(b:aQ s)(h:Ig P ok s d t x k=some r):fL P W s ⟨some d,.load t x,ty,pos,after,guard⟩ k r:=by unfold Ig at h;cases h
def L0(P:Program)(ok:Nat->Bool)(s:ae S)(t:TypeId)(x y:Operand){A:Type}(k:ae S->Option A):Option A:=none
def Sz(a:∀h,ok h=true->W.contains h=true){t:TypeId}{x y:Operand}(b:aQ s)(h:L0 P ok s t x y k=some r):fL P W s ⟨none,.store t x y,ty,pos,after,guard⟩ k r:=by unfold L0 at h;cases h
end
end Go.DN
/-
 DN,part Kh:maps are made,get an entry more;a slice of one of the structs grows.
-/
namespace Go.DN
open Go.AM
section
variable {S:eN}
def MC(P:Program)(s:ae S)(d:Nat)(t:TypeId)(n:Option Operand){A:Type}(k:ae S->Option A):Option A:=none
def IC(P:Program)(ok:Nat->Bool)(s:ae S)(t:TypeId)(x y z:Operand){A:Type}(k:ae S->Option A):Option A:=none
def VD(s:ae S):List Operand->Bool|[x,_]=>(match cC s x with|some (.ks h _ _ _)=>(match aB s.st h with|some (.deep _ _ _ (.map _ _ _) .map _)=>true|_=>false)|_=>false)|_=>false
def ID(P:Program)(ok:Nat->Bool)(s:ae S)(d:Nat)(c:Call){A:Type}(k:ae S->Option A):Option A:=none
def X0(s:ae S)(x:Operand):Bool:=match cC s x with|some (.kp h _ _ _)=>(match aB s.st h with|some (.deep _ _ _ (.map _ _ _) .map _)=>true|_=>false)|_=>false
def MH(P:Program)(ok:Nat->Bool)(s:ae S)(t:TypeId)(x y:Operand){A:Type}(k:ae S->Option A):Option A:=none
def HV:List (TV S)->Bool|[]=>true|.ks _ a _ _::r=>(match a with|.st _=>false|_=>true)&&HV r|_::_=>false
def aax(s:ae S)(a:List (Nat×Operand)):Bool:=match a with|[]=>false|_=>match za s a 0 with|some b=>HV b|none=>false
def RO(P:Program)(s:ae S)(d:Nat)(t:TypeId)(n:Nat)(a:Array (Nat×Operand)){A:Type}(k:ae S->Option A):Option A:=match s.free (s.dw d) with|true=>(match P.underlying t with|some (.slice e)=>(match P.info? e with|some i=>(match i.zero with|some _=>(match decEq i.size 1 with|isTrue _=>(match za s a.toList 0 with|some (v::b)=>(match v with|.ks _ c _ _=>(match HV (v::b)&&(Nat.beq (b.length+1) n&&(Nat.ble n 16777216&&!(TV.has.go (s.dw d) (v::b)))) with|true=>k ((s.add (s.dw d) (.box e true (v::b))).put d (.sub (s.dw d) (.list c) 0 n))|false=>none)|_=>none)|_=>none)|isFalse _=>none)|none=>none)|none=>none)|_=>none)|false=>none
section
variable {P:Program}{W:List Nat}{s:ae S}{ty:TypeId}{pos:String}{after:Array Edge}{guard:Option (Nat×Bool)}{A:Type}{k:ae S→Option A}{r:A}
def S7{d:Nat}{t:TypeId}{n:Option Operand}(a:aQ s)(h:MC P s d t n k=some r):fL P W s ⟨some d,.makeMap t n,ty,pos,after,guard⟩ k r:=by unfold MC at h;cases h
def QW{ok:Nat->Bool}(a:∀h,ok h=true->W.contains h=true){t:TypeId}{x y z:Operand}(b:aQ s)(h:IC P ok s t x y z k=some r):fL P W s ⟨none,.mapUpdate t x y z,ty,pos,after,guard⟩ k r:=by unfold IC at h;cases h
def QX{ok:Nat->Bool}(a:∀h,ok h=true->W.contains h=true){d:Nat}{args:Array Operand}{ts:Array TypeId}(b:aQ s)(h:ID P ok s d ⟨.builtin .append,args,ts⟩ k=some r):fL P W s ⟨some d,.call ⟨.builtin .append,args,ts⟩,ty,pos,after,guard⟩ k r:=by unfold ID at h;cases h
def S9{ok:Nat->Bool}(a:∀h,ok h=true->W.contains h=true){t:TypeId}{x y:Operand}(b:aQ s)(h:MH P ok s t x y k=some r):fL P W s ⟨none,.store t x y,ty,pos,after,guard⟩ k r:=by unfold MH at h;cases h
def Gh.abb{fr:List (Nat×G)}{r:List (Nat×aw)}{df:List G}{h:Nat}{e:TypeId}{p m f:Bool}{n:Nat}{cs:List G}:Gh ⟨fr,(h,⟨e,p,m,f,n,cs,none⟩)::r,df⟩ ⟨fr,(h,⟨e,p,m,f,0,cs,none⟩)::r,df⟩:=by
 have s:∀x q,az ((h,(⟨e,p,m,f,0,cs,none⟩:aw))::r) x=some q->∃k,az ((h,(⟨e,p,m,f,n,cs,none⟩:aw))::r) x=some k/\(q=k\/(q=⟨e,p,m,f,0,cs,none⟩/\k=⟨e,p,m,f,n,cs,none⟩)):=by intro x q l;simp only[az] at l|-;cases o:Nat.beq h x with|true=>rw[o] at l;cases l;exact⟨_,rfl,.inr ⟨rfl,rfl⟩⟩|false=>rw[o] at l;exact⟨_,l,.inl rfl⟩
 refine Gh.of (fun N K H a w i=>?_) fun x q l=>let ⟨k,j,_⟩:=s x q l;⟨k,j⟩;have B:∀b,b<w.heap.size->¬K.O ((h,(⟨e,p,m,f,n,cs,none⟩:aw))::r) H b->¬K.O ((h,(⟨e,p,m,f,0,cs,none⟩:aw))::r) H b:=fun b _ T U=>T (U.imp id fun ⟨x,k,c,L,j,g,C⟩=>let ⟨k0,E,_⟩:=s x k j;⟨x,k0,c,L,E,g,C⟩);refine {st:={ez:=?_,dr:=?_,cy:=?_,fJ:=?_,fq:=i.st.fq,hb:=i.st.hb,os:=i.st.os,tape:=i.st.tape,output:=i.st.output,gl:=i.st.gl,dB:=i.st.dB},nd:=i.nd.mono (Kept.refl _ _) B,sz:=i.sz,fr:=fun d Q D=>let ⟨v,j,g⟩:=i.fr d Q D;⟨v,j,g.mono (Kept.refl _ _) B (aH _)⟩};intro x q l;obtain⟨k,j,g⟩:=s x q l;have o:=(i.st.ez x k j).mono (fun _ _ _ _ _=>rfl) (Kept.refl _ _) B;rcases g with g|⟨g,E⟩;rw[g];exact o;subst g;subst E;cases z:H x with|none=>rw[z] at o;exact o.zi rfl rfl rfl|some Z=>obtain⟨b,L⟩:=Z;rw[z] at o;obtain⟨cs,q1,q2,O,P,q5,R⟩:=o.cells rfl;exact .mk rfl (o.nv rfl) ⟨cs,q1,q2,O,P,fun S=>absurd rfl S,R⟩
 intro x J A V y b m W X j g;obtain⟨u,t,_⟩:=s x A j;obtain⟨F,I,_⟩:=s J V g;exact i.st.dr x J u F y b m W X t I;intro x A b m y j g C;obtain⟨k,l,c⟩:=s x A j;obtain⟨Y,a2,a3,a4⟩:=i.st.cy x k b m y l g C;refine⟨Y,a2,a3,fun z=>a4 ?_⟩;rcases c with c|⟨c,M⟩;rw[<-c];exact z;subst c;subst M;exact z;intro x A j g;obtain⟨u,t,_⟩:=s x A j;exact i.st.fJ x u t g
def N8(ln:Nat->Nat):∀{vs:List (TV S)},HV vs=true->rN 1 (TV.er.go ln vs)=true/\(TV.er.go ln vs).flatMap cZ=TV.er.go ln vs|[],_=>⟨rfl,rfl⟩|v::r,h=>by unfold HV at h;split at h;rename_i e;cases e;rename_i c _ _ d e;cases e;simp only[ag] at h;obtain⟨a,b⟩:=N8 ln h.2;simp only[TV.er.go,TV.er,rN,cd,b];refine⟨?_,rfl⟩;rw[a];rfl;cases h
def Ws{d:Nat}{t:TypeId}{n:Nat}{a:Array (Nat×Operand)}(B:aQ s)(h:RO P s d t n a k=some r):fL P W s ⟨some d,.buildSlice t n a,ty,pos,after,guard⟩ k r:=by
 unfold RO at h;split at h;rename_i f;split at h;rename_i e E;split at h;rename_i i u;split at h;rename_i z y;split at h;rename_i x _;split at h;rename_i v m w;split at h;rename_i o g j p;split at h;rename_i l;simp only[ag,aT] at l;obtain⟨A,c,q,D⟩:=l;have c:=ab c;have q:=fS q;have b:(P.info? e).map (fun i=>(i.zero,i.size,i.bytes))=some (some z,1,i.bytes):=by rw[u,cn,y,x]
 obtain⟨F,G⟩:=N8 s.ln A;obtain⟨C,_⟩:=qe f (.box e true (.ks o g j p::m)) D;refine .one _ (EF.buildSlice (sz:=1) (z:=z) (bt:=i.bytes) (s.dw d) (gs:=TV.er.go s.ln (.ks o g j p::m)) (Cm w) (by rw[cW,aJ,bQ,c]) E b (by omega) (by omega) F (gD f)) ?_ ((B.add _ f).put _ _) ⟨rfl,rfl,rfl⟩ h;rw[iT,C,G];show Gh _ ⟨(d,.aN (s.dw d) 1 (0*1) n)::s.er.fr,_,_⟩;exact Gh.abb;cases h;cases h;cases h;cases h;cases h;cases h;cases h;cases h
end
end
end Go.DN
/-
 DN,part Ki:maps of plain data are made;a key gets another value.
-/
namespace Go.DN
open Go.AM
section
variable {S:eN}
def YK(P:Program)(t:TypeId):Option Nat:=match P.underlying t with|some (.map _ _)=>S.ty t|_=>none
def YM(n:Nat):Bool:=match S.dd n with|.int .i64::_=>true|_=>false
def DV(st:List (Nat×TO S))(a:Nat):Nat->List (TV S)->Option Nat|_,[]=>none|j,.ee _ b::r=>(match aB st b with|some (.deep _ _ _ (.sm _) (.st n) _)=>bif Nat.beq n a then some j else DV st a (j+1) r|_=>DV st a (j+1) r)|j,_::r=>DV st a (j+1) r
def Nh(st:List (Nat×TO S))(a:Nat):List (Nat×TO S)->Option (Nat×Nat)|(h,.box _ _ b)::r=>(match DV st a 0 b with|some j=>some (h,j)|none=>Nh st a r)|_::r=>Nh st a r|[]=>none
def TV.xL(hd:Nat):TV S->TV S|.ee b h=>(match Nat.beq h hd with|true=>.any|false=>.ee b h)|v=>v
def G0(hd:Nat):List (Nat×TV S)->List (Nat×TV S)|[]=>[]|(d,v)::r=>(d,v.xL hd)::G0 hd r
def ae.xL(s:ae S)(hd:Nat):ae S:={s with fr:=G0 hd s.fr,last:=[]}
def Vw(hd:Nat)(v:TV S):v.xL hd=v\/v.xL hd=.any:=by cases v with|ee b h=>(show(match Nat.beq h hd with|true=>TV.any|false=>.ee b h)=_\/(match Nat.beq h hd with|true=>TV.any|false=>.ee b h)=TV.any;cases Nat.beq h hd with|true=>exact .inr rfl|false=>exact .inl rfl)|_=>exact .inl rfl
def GZ{hd:Nat}{lo:List (Nat×TV S)}:∀{fr:List (Nat×TV S)}{d:Nat}{a:TV S},bw (G0 hd fr++lo) d=some a->∃v,bw (fr++lo) d=some v/\(a=v\/a=.any)|[],_,a,h=>⟨a,h,.inl rfl⟩|(k,x)::r,d,a,h=>by simp only[G0,b7,bw] at h|-;cases b:Nat.beq k d with|true=>rw[b] at h;cases h;exact⟨x,rfl,Vw hd x⟩|false=>rw[b] at h;exact GZ h
def Vx(s:ae S)(hd:Nat):Gh s.er (s.xL hd).er/\aQ (s.xL hd)/\bG s (s.xL hd):=by refine⟨Gh.gen (fun d i c=>?_) (fun x e b=>⟨e,b,xi.refl _ _ _⟩) rfl,iN rfl,⟨rfl,rfl,rfl⟩⟩;obtain⟨h,g,rfl⟩:=AH c;obtain⟨v,f,a⟩:=GZ g;refine⟨_,gd f,?_⟩;rcases a with rfl|rfl;exact CV.refl _ _ _;exact CV.any _ _ _
def QM(s:ae S)(h j:Nat){A:Type}(k:Nat->ae S->Option A):Option A:=match aB s.st h with|some (.box e m c)=>(match c[j]? with|some (.ee b a)=>(ba (b=true)).bind fun _=>k a (mQ ((s.set h (.box e m (c.set j (.val (.map none))))).xL a) a)|_=>none)|_=>none
def QT(P:Program)(s:ae S)(d:Nat)(t:TypeId)(n:Option Operand){A:Type}(k:ae S->Option A):Option A:=match n with|none=>(match YK (S:=S) P t with|some a=>(match S.dd a with|[.list (.st n)]=>(match S.put a [⟨.list (.st n),[]⟩] with|some c=>(match Nh s.st a s.st with|none=>(match s.free (s.dw d) with|true=>k ((s.add (s.dw d) (.deep 0 true true (.sm (YM (S:=S) n)) (.st a) c)).put d (.mp (s.dw d)))|false=>none)|some (h,j)=>QM s h j fun b u=>match u.free b with|true=>k ((u.add b (.deep 0 true true (.sm (YM (S:=S) n)) (.st a) c)).put d (.mp b))|false=>none)|none=>none)|_=>none)|none=>none)|some _=>none
def LS(i:Bool)(n:Nat)(l:List (S.α n))(k:KK i)(a:S.α n):List (S.α n):=bif List.any l (fun b=>EN i k (S.cells n b)) then List.map (fun b=>bif EN i k (S.cells n b) then a else b) l else l++[a]
def Zh:(i:Bool)->KK i->bp S.α|true,k=>⟨.int .i64,k⟩|false,k=>⟨.str,k⟩
def QA(P:Program)(ok:Nat->Bool)(s:ae S)(t:TypeId)(h:Nat)(y z:Operand){A:Type}(k:ae S->Option A):Option A:=match ok h with|true=>(match aB s.st h with|some (.deep e m f (.sm i) (.st c) j)=>(match S.cells c j with|[⟨.list (.st n),l⟩]=>(match cC s y,cC s z with|some p,some (.aE _ (.int q) v)=>(match Q6 i p with|some d=>(match P.underlying t with|some (.map o u)=>(match WY P i o with|true=>(match S.dd n with|[b,.int r]=>(match decEq b (Ps i),decide (r=q) with|isTrue _,true=>(match S.put n [Zh i d,⟨.int q,v⟩] with|some a=>(match S.put c [⟨.list (.st n),LS i n l d a⟩] with|some g=>k (s.set h (.deep e m f (.sm i) (.st c) g))|none=>none)|none=>none)|_,_=>none)|_=>none)|false=>none)|_=>none)|none=>none)|_,_=>none)|_=>none)|_=>none)|false=>none
def IB(P:Program)(ok:Nat->Bool)(s:ae S)(t:TypeId)(x y z:Operand){A:Type}(k:ae S->Option A):Option A:=match cC s x with|some (.mp h)=>QA P ok s t h y z k|some (.ee b h)=>(ba (b=false)).bind fun _=>QA P ok s t h y z k|_=>none
def zU{i:Bool}{b n:Nat}{c:S.α b}{l:List (S.α n)}(h:S.cells b c=[⟨.list (.st n),l⟩]):qZ (S:=S) i (.st b) c=List.map (fun a=>rH i (S.cells n a)) l:=by show(match S.cells b c with|[⟨.list (.st n),l⟩]=>List.map (fun a=>rH i (S.cells n a)) l|_=>[])=_;rw[h]
def UO{n:Nat}{i:Bool}{q:IntKind}(ht:S.dd n=[Ps i,.int q]){k:KK i}{v:Int}{a:S.α n}(f:S.cells n a=[Zh i k,⟨.int q,v⟩])(l:List (S.α n)):List.map (fun a=>rH i (S.cells n a)) (LS i n l k a)=l4 (List.map (fun a=>rH i (S.cells n a)) l) k (.val (.int q v)):=by
 have c:rH i (S.cells n a)=(k,.val (.int q v)):=by rw[f];cases i <;> rfl
 have d:∀b:S.α n,EN i k (S.cells n b)=decide ((rH i (S.cells n b)).1=k):=fun b=>by obtain⟨x,u,g,h,_⟩:=C5 ht b;rw[g,h]
 have e:List.any l (fun b=>EN i k (S.cells n b))=sn (List.map (fun a=>rH i (S.cells n a)) l) k:=by unfold sn;rw[List.any_map];congr 1;funext b;exact d b
 unfold LS l4;rw[e];cases sn (List.map (fun a=>rH i (S.cells n a)) l) k with|true=>(rw[cond_true,cond_true,iY,iY];refine ft fun b _=>?_;show rH i (S.cells n (bif EN i k (S.cells n b) then a else b))=bif decide ((rH i (S.cells n b)).1=k) then(k,.val (.int q v)) else rH i (S.cells n b);rw[d b];cases decide ((rH i (S.cells n b)).1=k) with|true=>exact c|false=>rfl)|false=>rw[cond_false,cond_false,cS];show _++[rH i (S.cells n a)]=_;rw[c]
end
section
variable {S:eN}{P:Program}{W:List Nat}{s:ae S}{ty:TypeId}{pos:String}{after:Array Edge}{guard:Option (Nat×Bool)}{A:Type}{k:ae S→Option A}{r:A}
def Vd{h j:Nat}{k:Nat->ae S->Option A}(C:aQ s)(hx:QM s h j k=some r):∃hd u,Gh s.er u.er/\aQ u/\bG s u/\k hd u=some r:=by
 unfold QM at hx;split at hx;rename_i e m a i;split at hx;rename_i b hd g;obtain⟨_,t,hx⟩:=bind_some hx;have p:=cI t;subst p;obtain⟨x,_⟩:=pM (o':=.box e m (a.set j (.val (.map none)))) i rfl;have o:TV.er.go s.ln (a.set j (.val (.map none)))=TV.er.go s.ln a:=by rw[cW,oe,cW];apply dm;intro q;rw[dQ];split;rename_i n;subst n;rw[ao,g];split;rfl;rename_i c;have:=(ap.1 g).1;rw[aJ] at c;exact absurd this c;rfl
 have v:(TO.box e m (a.set j (.val (.map none))):TO S).er s.ln=(TO.box e m a:TO S).er s.ln:=by show aw.mk _ _ _ _ _ _ _=aw.mk _ _ _ _ _ _ _;rw[o]
 have w:(s.set h (.box e m (a.set j (.val (.map none))))).er=s.er:=by rw[x,v];have:dJ s.er.st h ((TO.box e m a:TO S).er s.ln)=s.er.st:=Cb (eG (fZ i));rw[this]
 obtain⟨l,y,f⟩:=Vx (s.set h (.box e m (a.set j (.val (.map none))))) hd;obtain⟨z,B,d⟩:=wJ hd y;rw[w] at l;exact⟨_,_,l.trans z,B,⟨d.lo.trans f.lo,d.bS.trans f.bS,d.df.trans f.df⟩,hx⟩;cases hx;cases hx
def MB{d hd a n:Nat}{i:Bool}{b:S.α a}{t:TypeId}(e:aQ s)(hf:s.free hd=true)(f:S.cells a b=[⟨.list (.st n),[]⟩])(h:k ((s.add hd (.deep 0 true true (.sm i) (.st a) b)).put d (.mp hd))=some r):fL P W s ⟨some d,.makeMap t none,ty,pos,after,guard⟩ k r:=by
 obtain⟨g,_⟩:=qe hf (.deep 0 true true (.sm i) (.st a) b) rfl;refine .one _ (EF.aaW hd (xJ i) (gD hf)) ?_ ((e.add _ hf).put _ _) ⟨rfl,rfl,rfl⟩ h;have c:(TO.deep 0 true true (.sm i) (.st a) b:TO S).er (s.ln)=OM (xJ i):=by show(⟨0,true,true,true,1,[],some (.deep (yp (xJ i) (qZ (S:=S) i (.st a) b)))⟩:aw)=_;rw[zU f];rfl
 rw[iT,g];first|(rw[c];exact Gh.refl _)|exact Gh.refl _
def Vi{d:Nat}{t:TypeId}{n:Option Operand}(b:aQ s)(h:QT P s d t n k=some r):fL P W s ⟨some d,.makeMap t n,ty,pos,after,guard⟩ k r:=by unfold QT at h;split at h;split at h;split at h;split at h;rename_i c e;split at h;split at h;rename_i a;exact MB b a (S.ig _ _ c e) h;cases h;obtain⟨j,u,i,g,f,h⟩:=Vd b h;split at h;rename_i a;exact fL.gh i f (MB g a (S.ig _ _ c e) h);cases h;cases h;cases h;cases h;cases h
def OX{ok:Nat->Bool}(d:∀h,ok h=true->W.contains h=true){t:TypeId}{F:Nat}{x y z:Operand}(L:aQ s)(hx:ev s.er x=some (.eT F))(h:QA P ok s t F y z k=some r):fL P W s ⟨none,.mapUpdate t x y z,ty,pos,after,guard⟩ k r:=by
 unfold QA at h;split at h;rename_i O;split at h;rename_i e m f i c E o;split at h;rename_i n l b;split at h;rename_i U R q v N H;split at h;rename_i u j;split at h;rename_i X T I;split at h;rename_i B;split at h;rename_i K D M;split at h;rename_i p _ w;have w:=of_decide_eq_true w;subst w;subst p;split at h;rename_i a J;split at h;rename_i g A;obtain⟨Q,V⟩:=pM (s:=s) (o':=.deep e m f (.sm i) (.st c) g) o rfl;have C:ev s.er y=some (.val (xJ i u)):=by rw[bi N,Pv j]
 have:=EF.l4 (P:=P) (W:=W) (ty:=ty) (pos:=pos) (after:=after) (guard:=guard) (s:=s.er) (key:=xJ i) (ky:=u) (v:=.int D v) (es:=qZ (S:=S) i (.st c) E) hx C (kc H) (eG (fZ o)) rfl I (MW B) (d _ O);refine .one _ this ?_ (L.set o _) ⟨rfl,rfl,rfl⟩ h;have G:qZ (S:=S) i (.st c) g=l4 (qZ (S:=S) i (.st c) E) u (.val (.int D v)):=by rw[zU (S.ig c _ g A),zU b,UO M (S.ig n _ a J)]
 rw[Q];show Gh _ ⟨_,dJ _ _ ⟨e,true,m,f,1,[],some (.deep (yp (xJ i) (qZ (S:=S) i (.st c) g)))⟩,_⟩;rw[G];exact Gh.refl _;cases h;cases h;cases h;cases h;cases h;cases h;cases h;cases h;cases h;cases h;cases h
def QV{ok:Nat->Bool}(a:∀h,ok h=true->W.contains h=true){t:TypeId}{x y z:Operand}(d:aQ s)(h:IB P ok s t x y z k=some r):fL P W s ⟨none,.mapUpdate t x y z,ty,pos,after,guard⟩ k r:=by unfold IB at h;split at h;rename_i c;exact OX a d (bi c) h;rename_i b f c;obtain⟨_,e,h⟩:=bind_some h;obtain rfl:=cI e;exact OX a d (bi c) h;cases h
end
end Go.DN
/-
 DN,part L:regions.
-/
namespace Go.DN
open Go.AM
section
variable {S:eN}
def zm(s:ae S)(c:Call):Bool:=match c.callee with|.value x=>(match cC s x with|some (.da _)=>true|_=>false)|_=>false
def YG(s:ae S):Op->Option Call|.call c=>(match zm s c with|true=>some c|false=>none)|_=>none
def Yd(s:ae S):List (Nat×Operand)->Bool|[(_,x)]=>(match cC s x with|some (.aN h a)=>(match a.jb with|true=>(match aB s.st h with|some (.arr _ m _ _ _)=>m|_=>false)|false=>false)|_=>false)|_=>false
def Hv(s:ae S):List Operand->List Nat|[]=>[]|x::r=>match cC s x with|some (.aN h _)=>(match M3 s h with|true=>h::Hv s r|false=>Hv s r)|_=>Hv s r
def Xq(s:ae S)(x:Operand):Bool:=match cC s x with|some (.loc h a)=>(match aB s.st h with|some (.box _ _ b)=>(match b[a]? with|some (.sub _ _ _ _)=>true|_=>false)|_=>false)|_=>false
noncomputable def T0(P:Program)(ok:Nat->Bool){A:Type}(cl:ae S->Option Nat->Call->(ae S->Option A)->Option A)(s:ae S)(dst:Option Nat)(op:Op)(k:ae S->Option A):Option A:=match dst with|some d=>(match op with|.box t x=>Wu s d t x k|.alloc t=>N7 P s d t k|.makeSlice t x y=>(match XY S P t with|true=>IA P s d t x y k|false=>GO P s d t x y k)|.load t x=>Ig P ok s d t x k|.makeMap t n=>(match (YK (S:=S) P t).isSome with|true=>QT P s d t n k|false=>MC P s d t n k)|.buildSlice t n a=>(match S.wN&&Yd s a.toList with|true=>IS P ok s d t n a k|false=>match aax s a.toList with|true=>RO P s d t n a k|false=>match sM (QJ s (a.toList.map (·.2))) s with|some b=>Wt P b d t n a k|none=>none)|.binOp op t x y _=>Ve P s d op t x y k|.call c=>(match c.callee with|.builtin .append=>(match c.args.toList with|x::r=>(match Zp s (x::r) with|true=>N5 P ok s d c k|false=>match VD s (x::r) with|true=>ID P ok s d c k|false=>match Hv s [x] with|[]=>(match sM (Hv s r) s with|some s=>B7 s x fun b=>WC P ok b d c k|none=>none)|_=>IT P ok s d c k)|[]=>none)|.builtin .copy=>RH P ok s d c k|.value _=>(match zm s c with|true=>none|false=>cl s (some d) c k)|_=>none)|_=>none)|none=>match op with|.store t x y=>(match cC s x with|some (.iU h _ _ _)=>(match M3 s h with|true=>(match M1 s h with|true=>L0 P ok s t x y k|false=>Ni P ok s t x y k)|false=>match sM (QJ s [y]) s with|some b=>Ca P ok b t x y k|none=>none)|_=>match X0 s x with|true=>MH P ok s t x y k|false=>match Xq s x with|true=>Ca P ok s t x y k|false=>B7 s y fun b=>Ca P ok b t x y k)|.mapUpdate t x y z=>(match YJ s x with|true=>IB P ok s t x y z k|false=>IC P ok s t x y z k)|.call c=>(match c.callee with|.builtin .clear=>NJ P ok s c k|.value _=>(match zm s c with|true=>none|false=>cl s none c k)|_=>none)|_=>none
def M2:Op->Bool|.box _ _=>true|.alloc _=>true|.makeSlice _ _ _=>true|.buildSlice _ _ _=>true|.store _ _ _=>true|.makeMap _ _=>true|.mapUpdate _ _ _ _=>true|.binOp a _ _ y _=>(match a with|.eql=>(match y with|.const (.slice none 0 0)=>true|_=>false)|.neq=>(match y with|.const (.slice none 0 0)=>true|_=>false)|_=>false)|.call c=>(match c.callee with|.builtin .append=>true|.builtin .copy=>true|.builtin .clear=>true|.value _=>true|_=>false)|_=>false
def aaZ:Op->Bool|.load _ _=>true|.lookup _ _ _ _=>true|_=>false
def aa0(s:ae S):Op->Bool|.convert _ _ x=>(match cC s x with|some (.aN _ (.int .u8))=>true|_=>false)|_=>false
def G4(s:ae S)(op:Op):Bool:=aaZ op||aa0 s op
def sR(N:Nat):Option Nat->Bool|some d=>Nat.blt d N|none=>true
def Q9(s:ae S)(op:Op):Bool:=M2 op||IF s op
noncomputable def SV(P:Program)(N:Nat)(ok:Nat->Bool){A:Type}(cl:ae S->Option Nat->Call->(ae S->Option A)->Option A)(s:ae S)(o:Oper)(k:ae S->Option A):Option A:=match sR N o.dst with|true=>(match Q9 s o.op with|true=>T0 P ok cl s o.dst o.op k|false=>match o.dst with|some d=>(match G4 s o.op with|true=>OE P [] s o.op fun v=>k (s.put d v)|false=>SI P s o.op fun v x=>k (s.EX d v x))|none=>none)|false=>none
def qj(N:Nat)(s:ae S)(o:Oper):Option (ae S):=match o.dst with|some d=>(match Nat.blt d N with|true=>some (s.put d (.bE []))|false=>none)|none=>some {s with fr:=s.fr}
noncomputable def sw(P:Program)(N:Nat)(ok:Nat->Bool)(ops:List Oper){A:Type}(cl:ae S->Option Nat->Call->(ae S->Option A)->Option A):List Oper->ae S->(ae S->Option A)->Option A|[],s,k=>k s|o::r,s,k=>match o.guard with|none=>(match YG s o.op with|some c=>cl s o.dst c fun a=>sw P N ok ops cl r a k|none=>SV P N ok cl s o fun a=>sw P N ok ops cl r a k)|some (j,e)=>match ops[j]? with|some f=>(match f.dst with|some d=>(match bw s.cm d with|some (.aE _ .bool b)=>(match e with|true=>cond b (SV P N ok cl (s.put d (.aE true .bool true)) o fun a=>sw P N ok ops cl r a k) (match qj N (s.put d (.aE true .bool false)) o with|some a=>sw P N ok ops cl r a k|none=>none)|false=>cond b (match qj N (s.put d (.aE true .bool true)) o with|some a=>sw P N ok ops cl r a k|none=>none) (SV P N ok cl (s.put d (.aE true .bool false)) o fun a=>sw P N ok ops cl r a k))|some (.bE [])=>(match qj N s o with|some a=>sw P N ok ops cl r a k|none=>none)|_=>none)|none=>none)|none=>none
section
variable {P:Program}{N:Nat}{cx:Cx}{Q:Exit→St→Prop}{W:List Nat}{ok:Nat→Bool}{A:Type}{cl:ae S→Option Nat→Call→(ae S→Option A)→Option A}{r:A}
def RY(P:Program)(W:List Nat)(s:ae S)(o:Oper){A:Type}(k:ae S->Option A)(d:List PanicEntry->ae S->Option A)(r:A):Prop:=∃(T:St->Prop) (c:List PanicEntry->St->Prop),nX P W s.er o T c/\(∀a,T a->∃t:ae S,Gh a t.er/\aQ t/\bG s t/\k t=some r)/\∀b a,c b a->∃t:ae S,Gh a t.er/\aQ t/\bG s t/\d b t=some r
def fL.p{s:ae S}{o:Oper}{k:ae S->Option A}{a:List PanicEntry->ae S->Option A}(h:fL P W s o k r):RY P W s o k a r:=let ⟨T,h1,h2⟩:=h;⟨T,_,h1.p,h2,fun _ _ h=>h.elim⟩
def nX.tell{s:St}{o:Oper}{T:St->Prop}{Tp Tp':List PanicEntry->St->Prop}(h:nX P W s o T Tp)(ht:∀b c,Tp b c->∃t,Gh c t/\Tp' b t):nX P W s o T Tp':=⟨h.1,fun N g l a w m n K Q u k=>h.2 N g l a w m n K Q u fun b d c i f p=>by obtain⟨t,q,r⟩:=ht b c p;obtain⟨e,j,_⟩:=q N g d a i f;exact k b e t i j r⟩
def Dv(P:Program)(N:Nat)(W:List Nat){A:Type}(cl:ae S->Option Nat->Call->(ae S->Option A)->Option A)(f:List PanicEntry->ae S->Option A)(r:A):Prop:=∀(s:ae S) (d:Option Nat) (c:Call) (k:ae S->Option A),aQ s->zm s c=false->cl s d c k=some r->∀(g:TypeId) (e:String) (a:Array Edge) (b:Option (Nat×Bool)),RY P W s ⟨d,.call c,g,e,a,b⟩ k f r
def Ln(P:Program)(N:Nat)(W:List Nat){A:Type}(cl:ae S->Option Nat->Call->(ae S->Option A)->Option A)(r:A):Prop:=∀(s:ae S) (d:Option Nat) (c:Call) (k:ae S->Option A),aQ s->zm s c=false->cl s d c k=some r->∀(f:TypeId) (e:String) (a:Array Edge) (b:Option (Nat×Bool)),fL P W s ⟨d,.call c,f,e,a,b⟩ k r
def Ln.p{j:List PanicEntry->ae S->Option A}(h:Ln P N W cl r):Dv P N W cl j r:=fun s i c k a b d l g e f=>(h s i c k a b d l g e f).p
def WH(P:Program)(N:Nat){A:Type}(cl:ae S->Option Nat->Call->(ae S->Option A)->Option A)(r:A):Prop:=∀(g:Cx) (s:ae S) (d:Option Nat) (c:Call) (k:ae S->Option A),aQ s->zm s c=true->cl s d c k=some r->∀(h:TypeId) (f:String) (b:Array Edge) (e:Array Oper) (a:List Oper) (Q:Exit->St->Prop),(∀t:ae S,aQ t->bG s t->k t=some r->GL P N g e Q a t.er)->GL P N g e Q (⟨d,.call c,h,f,b,none⟩::a) s.er
def Uv{s:ae S}{op:Op}{c:Call}(h:YG s op=some c):op=.call c/\zm s c=true:=by unfold YG at h;split at h;split at h;rename_i a;cases h;exact⟨rfl,a⟩;cases h;cases h
def Nt(a:∀h,ok h=true->W.contains h=true){u:List PanicEntry->ae S->Option A}(j:Dv P N W cl u r){s:ae S}{o:Oper}{k:ae S->Option A}(b:aQ s)(h:T0 P ok cl s o.dst o.op k=some r):RY P W s o k u r:=by obtain⟨v,D,E,w,n,m⟩:=o;unfold T0 at h;dsimp only at h;split at h;split at h;exact(Yr b h).p;exact(Uk b h).p;split at h;exact(QU b h).p;exact(Vk b h).p;exact(Qs a b h).p;split at h;exact(Vi b h).p;exact(S7 b h).p;split at h;exact(Rm a b h).p;split at h;exact(Ws b h).p;split at h;rename_i x g;obtain⟨d,f,e⟩:=oA b g;exact(fL.gh d e (Yq f h)).p;cases h;exact(XR b h).p;rename_i c;obtain⟨p,i,y⟩:=c;dsimp only at h;split at h;split at h;split at h;exact(Uj a b h).p;split at h;exact(QX a b h).p;split at h;split at h;rename_i F g;obtain⟨z,B,C⟩:=oA b g;obtain⟨t,d,f,e,q⟩:=B6 B h;exact(fL.gh z C (fL.gh d e (YB a f q))).p;cases h;exact(Rn a b h).p;cases h;exact(Wh a b h).p;split at h;cases h;rename_i l;exact j _ _ _ _ b l h _ _ _ _;cases h;cases h;split at h;split at h;split at h;split at h;exact(Sz a b h).p;exact(TQ a b h).p;split at h;rename_i x g;obtain⟨d,f,e⟩:=oA b g;exact(fL.gh d e (B9 a f h)).p;cases h;split at h;exact(S9 a b h).p;split at h;exact(B9 a b h).p;obtain⟨t,d,f,e,q⟩:=B6 b h;exact(fL.gh d e (B9 a f q)).p;split at h;exact(QV a b h).p;exact(QW a b h).p;rename_i c;obtain⟨p,i,y⟩:=c;dsimp only at h;split at h;exact(T6 a b h).p;split at h;cases h;rename_i l;exact j _ _ _ _ b l h _ _ _ _;cases h;cases h
def Mo(i:∀h,ok h=true->W.contains h=true){G:List PanicEntry->ae S->Option A}(D:Dv P N W cl G r){s:ae S}{ops:Array Oper}{rest:List Oper}{o:Oper}{k:ae S->Option A}(n:aQ s)(B:ey ops s.er o.guard=some true)(h:SV P N ok cl s o k=some r)(w:∀t:ae S,aQ t->bG s t->k t=some r->GL P N cx ops Q rest t.er)(q:∀f (t:ae S),aQ t->bG s t->G f t=some r->∃u,Gh t.er u/\Q (.panic f) u):GL P N cx ops Q (o::rest) s.er:=by
 unfold SV at h;split at h;rename_i m;split at h;obtain⟨T,O,H,K,y⟩:=Nt i D n h;refine GL.Yg (Tp:=fun f u=>Q (.panic f) u) B (fun d e=>?_) (nX.tell H fun f p z=>?_) (fun p z=>?_) fun _ _ h=>h;rw[e] at m;simpa[sR,gO] using m;obtain⟨t,c,g,l,C⟩:=y f p z;obtain⟨u,J,L⟩:=q f t g l C;exact⟨u,c.trans J,L⟩;obtain⟨t,c,g,l,C⟩:=K p z;exact GL.gh c (w t g l C);split at h;rename_i d e;obtain⟨I,M,F,j,b,a⟩:=o;dsimp only at e h m;subst e;have E:d<N:=by simpa[sR,gO] using m
 split at h;obtain⟨v,c,g⟩:=F8 (dst:=some d) (ty:=F) (pos:=j) (after:=b) (guard:=a) n h;exact GL.yield B rfl E c (w _ (n.put d v) ⟨rfl,rfl,rfl⟩ g);obtain⟨v,x,c,g,l⟩:=L9 (dst:=some d) (ty:=F) (pos:=j) (after:=b) (guard:=a) h;refine GL.yield B rfl E (c.yield []) ?_;rw[<-Il s d v x];exact w _ (Ik n d g) (uE s d v x) l;cases h;cases h
def EP{s t:ae S}{ops:Array Oper}{rest:List Oper}{o:Oper}(e:aQ s)(d:ey ops s.er o.guard=some false)(h:qj N s o=some t)(c:aQ t->bG s t->GL P N cx ops Q rest t.er):GL P N cx ops Q (o::rest) s.er:=by unfold qj at h;obtain⟨g,k,j,i,b,a⟩:=o;dsimp only at h;split at h;split at h;rename_i f;cases h;exact GL.abe d f (c (e.put _ _) ⟨rfl,rfl,rfl⟩);cases h;cases h;refine GL.pass d ?_;exact c e ⟨rfl,rfl,rfl⟩
def xu{ops:List Oper}{s:ae S}{j d:Nat}{a b:Bool}{c:Oper}(h1:ops[j]?=some c)(h2:c.dst=some d)(e:bw s.cm d=some (.aE true .bool b)):ey ops.toArray s.er (some (j,a))=some (b==a):=by
 have:get s.er.fr d=some (.val (.bool b)):=by rw[show get s.er.fr d=_ from gd e];exact congrArg some (iu true b)
 simp[ey,h1,h2,this]
def R3{ops:List Oper}{s:ae S}{j d:Nat}{a:Bool}{b:Oper}(h1:ops[j]?=some b)(h2:b.dst=some d)(c:bw s.cm d=some (.bE [])):ey ops.toArray s.er (some (j,a))=some false:=by
 have:get s.er.fr d=some (.bE []):=by rw[show get s.er.fr d=_ from gd c];rfl
 simp[ey,h1,h2,this]
def GS{s:ae S}{ops:Array Oper}{rest:List Oper}{d:Nat}{f b v:Bool}(h:bw s.cm d=some (.aE f .bool b))(hb:b=v)(a:GL P N cx ops Q rest (s.put d (.aE true .bool v)).er):GL P N cx ops Q rest s.er:=by refine GL.lit d (b:=b) (v:=v) ?_ hb ?_;rw[show get s.er.fr d=_ from gd h];exact congrArg some (iu f b);rw[iT] at a;have e:(TV.aE true .bool v:TV S).er s.ln=.val (.bool v):=iu true v;rw[e] at a;exact a
def rM(g:∀h,ok h=true->W.contains h=true){T:List PanicEntry->ae S->Option A}(p:Dv P N W cl T r)(y:WH P N cl r){ops:List Oper}:∀{rest:List Oper}{s:ae S}{k:ae S->Option A},aQ s->sw P N ok ops cl rest s k=some r->(∀t:ae S,aQ t->bG s t->k t=some r->Q .normal t.er)->(∀w (t:ae S),aQ t->bG s t->T w t=some r->∃u,Gh t.er u/\Q (.panic w) u)->GL P N cx ops.toArray Q rest s.er|[],s,k,F,h,z,_=>GL.nil (z s F (bG.refl s) h)|o::rest,s,k,F,h,z,q=>by simp only[sw] at h;split at h;rename_i B;split at h;rename_i c Z;obtain⟨R,X⟩:=Uv Z;obtain⟨L,op,Y,M,D,O⟩:=o;dsimp only at B R h;subst B;subst R;exact y cx s L c _ F X h Y M D _ _ _ fun t n a E=>rM g p y n E (fun m i e l=>z m i (bG.trans ⟨a.lo,a.bS,a.df⟩ e) l) fun w m i e l=>q w m i (bG.trans ⟨a.lo,a.bS,a.df⟩ e) l;exact Mo g p F (by rw[B];rfl) h (fun t n a E=>rM g p y n E (fun m i e l=>z m i (bG.trans ⟨a.lo,a.bS,a.df⟩ e) l) fun w m i e l=>q w m i (bG.trans ⟨a.lo,a.bS,a.df⟩ e) l) q;rename_i j U B;split at h;rename_i oj J;split at h;rename_i d I;split at h;rename_i f b G;have C:=fun v=>aQ.put F d (.aE true .bool v:TV S);(have K:∀v,bw (s.put d (.aE true .bool v)).cm d=some (.aE true .bool v):=fun v=>by simp only[ae.put,ae.cm,b7,bw,aW,cond_true]);split at h;(cases x:b with|true=>rw[x] at h;refine GS G x (Mo g p (C true) ?_ h (fun t n a E=>rM g p y n E (fun m i e l=>z m i (bG.trans ⟨a.lo,a.bS,a.df⟩ e) l) fun w m i e l=>q w m i (bG.trans ⟨a.lo,a.bS,a.df⟩ e) l) fun w m i e l=>q w m i ⟨e.lo,e.bS,e.df⟩ l);rw[B,xu J I (K true)];rfl|false=>rw[x] at h;dsimp only[cond_false] at h;refine GS G x ?_;split at h;rename_i V H;exact EP (C false) (by rw[B,xu J I (K false)];rfl) H fun n a=>rM g p y n h (fun m i e l=>z m i (bG.trans ⟨a.lo,a.bS,a.df⟩ e) l) fun w m i e l=>q w m i (bG.trans ⟨a.lo,a.bS,a.df⟩ e) l;cases h);(cases x:b with|true=>rw[x] at h;dsimp only[cond_true] at h;refine GS G x ?_;split at h;rename_i V H;exact EP (C true) (by rw[B,xu J I (K true)];rfl) H fun n a=>rM g p y n h (fun m i e l=>z m i (bG.trans ⟨a.lo,a.bS,a.df⟩ e) l) fun w m i e l=>q w m i (bG.trans ⟨a.lo,a.bS,a.df⟩ e) l;cases h|false=>rw[x] at h;refine GS G x (Mo g p (C false) ?_ h (fun t n a E=>rM g p y n E (fun m i e l=>z m i (bG.trans ⟨a.lo,a.bS,a.df⟩ e) l) fun w m i e l=>q w m i (bG.trans ⟨a.lo,a.bS,a.df⟩ e) l) fun w m i e l=>q w m i ⟨e.lo,e.bS,e.df⟩ l);rw[B,xu J I (K false)];rfl);rename_i G;split at h;rename_i V H;exact EP F (by rw[B,R3 J I G]) H fun n a=>rM g p y n h (fun m i e l=>z m i (bG.trans ⟨a.lo,a.bS,a.df⟩ e) l) fun w m i e l=>q w m i (bG.trans ⟨a.lo,a.bS,a.df⟩ e) l;cases h;cases h;cases h;cases h
end
end
end Go.DN
/-
 DN,part M:regions that draw their order.
-/
namespace Go.DN
open Go.AM
section
variable {S:eN}
def sy(s:ae S):List Operand->Bool|[]=>false|x::r=>match cC s x with|some (.bE [])=>true|_=>sy s r
def calm(W:List Nat)(s:ae S)(o:Oper):Bool:=match o.op with|.load _ x=>(match cC s x with|some (.ptr _ _ _)=>true|some (.loc h _)=>!(W.contains h)|some (.iU h _ _ _)=>!(W.contains h)|some (.bE [])=>true|_=>false)|.call c=>(match M2 (.call c) with|true=>sy s c.args.toList|false=>true)|.binOp a t x y b=>(match M2 (.binOp a t x y b) with|true=>sy s [x]|false=>true)|.lookup _ _ _ _=>false|.convert _ _ x=>(match cC s x with|some (.aN h (.int .u8))=>!(W.contains h)|_=>true)|a=>!(M2 a)
def off(s:ae S)(o:Oper):Bool:=match o.op with|.load _ x=>sy s [x]|.call c=>sy s c.args.toList|.binOp _ _ x _ _=>sy s [x]|_=>false
def pick(f:Oper->Bool)(ops:Array Oper)(a:Array Bool):List Nat->Option (Nat×Oper)|[]=>none|i::r=>match ops[i]? with|some o=>(match f o&&Region.free .any ops a i with|true=>some (i,o)|false=>pick f ops a r)|none=>pick f ops a r
def y9{f:Oper->Bool}{ops:Array Oper}{a:Array Bool}:∀{l:List Nat}{i:Nat}{o:Oper},pick f ops a l=some (i,o)->i∈l/\ops[i]?=some o/\f o=true/\Region.free .any ops a i=true|[],_,_,h=>by cases h|j::r,i,o,h=>by simp only[pick] at h;split at h;rename_i g e;split at h;rename_i d;cases h;simp only[ag] at d;exact⟨au,e,d.1,d.2⟩;obtain⟨c,b⟩:=y9 h;exact⟨ar _ c,b⟩;obtain⟨c,b⟩:=y9 h;exact⟨ar _ c,b⟩
def zp(N:Nat)(ops:Array Oper)(s:ae S)(o:Oper){A:Type}(run:ae S->Option A)(a:ae S->Option A):Option A:=match o.guard with|none=>run s|some (j,e)=>match ops[j]? with|some f=>(match f.dst with|some d=>(match bw s.cm d with|some (.aE _ .bool b)=>(match e with|true=>cond b (run (s.put d (.aE true .bool true))) (match qj N (s.put d (.aE true .bool false)) o with|some c=>a c|none=>none)|false=>cond b (match qj N (s.put d (.aE true .bool true)) o with|some c=>a c|none=>none) (run (s.put d (.aE true .bool false))))|some (.bE [])=>(match qj N s o with|some c=>a c|none=>none)|_=>none)|none=>none)|none=>none
open Classical in
noncomputable def cK {A:Type}(x y:Option A):Option A:=if x=y then x else none
def WD{A:Type}{x y:Option A}{r:A}(h:cK x y=some r):x=some r/\y=some r:=by unfold cK at h;split at h;rename_i e;exact⟨h,e▸h⟩;cases h
def dK{A:Type}(x:Option A):cK x x=x:=by unfold cK;simp
noncomputable def dU{A:Type}(x:Option A):Option A:=cK x x
noncomputable def RU{A:Type}(x:Option A):Option A:=cK x (cK x x)
noncomputable def Z4{A:Type}(x:Option A):Option A:=cK x (cK x (cK x x))
def dx{A:Type}(x:Option A):dU x=x:=dK x
def fU{A:Type}(x:Option A):RU x=x:=by unfold RU;rw[dK,dK]
def fT{A:Type}(x:Option A):Z4 x=x:=by unfold Z4;rw[dK,dK,dK]
noncomputable def WE{A:Type}:List (Option A)->Option A|[]=>none|[x]=>x|x::r=>cK x (WE r)
def KH{A:Type}:∀{l:List (Option A)}{r:A},WE l=some r->∀x∈l,x=some r|[],_,h,x,a=>by cases a|[y],r,h,x,a=>by simp at a;subst a;exact h|y::z::l,r,h,x,a=>by obtain⟨c,b⟩:=WD h;rcases bh.1 a with e|a;subst e;exact c;exact KH b x a
def MV(ops:Array Oper)(s:ae S)(o:Oper):Bool:=match o.guard with|none=>true|some (j,a)=>match ops[j]? with|some c=>(match c.dst with|some d=>(match bw s.cm d with|some (.aE _ .bool b)=>(match b with|true=>a|false=>!a)|_=>false)|none=>false)|none=>false
def Ti{ops:Array Oper}{s:ae S}{o:Oper}(h:MV ops s o=true):ey ops s.er o.guard=some true:=by
 unfold MV at h;split at h;rename_i c;rw[c];rfl;rename_i j a c;rw[c];split at h;rename_i l i;split at h;rename_i d g;split at h;rename_i f b k;have:get s.er.fr d=some (.val (.bool b)):=by rw[show get s.er.fr d=_ from gd k];exact congrArg some (iu f b)
 have e:ey ops s.er (some (j,a))=some (b==a):=by simp[ey,i,g,this]
 rw[e];cases b <;> cases a <;> first|rfl|cases h
 cases h;cases h;cases h
def qN(ops:Array Oper){A:Type}:List Nat->ae S->(ae S->Option A)->Option A|[],s,k=>k s|i::r,s,k=>match ops[i]? with|some o=>(match o.guard with|some (j,_)=>(match ops[j]? with|some a=>(match a.dst with|some d=>(match bw s.cm d with|some (.aE _ .bool b)=>cond b (qN ops r (s.put d (.aE true .bool true)) k) (qN ops r (s.put d (.aE true .bool false)) k)|_=>qN ops r s k)|none=>qN ops r s k)|none=>qN ops r s k)|none=>qN ops r s k)|none=>qN ops r s k
def U9(ops:Array Oper)(s:ae S)(o:Oper):Bool:=match o.guard with|none=>false|some (j,a)=>match ops[j]? with|some c=>(match c.dst with|some d=>(match bw s.cm d with|some (.aE _ .bool b)=>(match b with|true=>!a|false=>a)|some (.bE [])=>true|_=>false)|none=>false)|none=>false
noncomputable def mS(P:Program)(N:Nat)(ok:Nat->Bool)(ops:Array Oper){A:Type}(cl:ae S->Option Nat->Call->(ae S->Option A)->Option A):Nat->Array Bool->ae S->(ae S->Option A)->Option A|0,a,s,k=>(match Region.ready .any ops a with|[]=>k s|_=>none)|e+1,a,s,k=>match Region.ready .any ops a with|[]=>k s|c::f=>match pick (fun o=>sR N o.dst&&((!(G4 s o.op)&&!(M2 o.op))||off s o)&&o.dst.isSome) ops a (c::f) with|some (i,o)=>zp N ops s o (fun b=>match o.dst with|some d=>SI P b o.op fun v x=>mS P N ok ops cl e (a.setIfInBounds i true) (b.EX d v x) k|none=>none) (fun b=>mS P N ok ops cl e (a.setIfInBounds i true) b k)|none=>match f with|[]=>(match ops[c]? with|some o=>(match sR N o.dst with|true=>(match o.dst,G4 s o.op&&!(IF s o.op) with|some d,true=>zp N ops s o (fun b=>OE P [] b o.op fun v=>mS P N ok ops cl e (a.setIfInBounds c true) (b.put d v) k) (fun b=>match Region.free .any ops a c with|true=>mS P N ok ops cl e (a.setIfInBounds c true) b k|false=>none)|_,_=>match Q9 s o.op with|true=>zp N ops s o (fun b=>T0 P ok cl b o.dst o.op fun g=>mS P N ok ops cl e (a.setIfInBounds c true) g k) (fun b=>match Region.free .any ops a c with|true=>mS P N ok ops cl e (a.setIfInBounds c true) b k|false=>none)|false=>none)|false=>none)|none=>none)|_=>qN ops (c::f) s fun s=>match pick (fun o=>sR N o.dst&&U9 ops s o&&o.dst.isSome) ops a (c::f) with|some (i,o)=>(match qj N s o with|some b=>mS P N ok ops cl e (a.setIfInBounds i true) b k|none=>none)|none=>WE ((c::f).map fun i=>match ops[i]? with|some o=>(match sR N o.dst&&MV ops s o with|true=>(match o.dst,G4 s o.op&&!(IF s o.op) with|some d,true=>OE P [] s o.op fun v=>mS P N ok ops cl e (a.setIfInBounds i true) (s.put d v) k|_,_=>match Q9 s o.op with|true=>T0 P ok cl s o.dst o.op fun g=>mS P N ok ops cl e (a.setIfInBounds i true) g k|false=>none)|false=>none)|none=>none)
noncomputable def zs(P:Program)(N:Nat)(ok:Nat->Bool)(W:List Nat)(ops:Array Oper){A:Type}(cl:ae S->Option Nat->Call->(ae S->Option A)->Option A):Nat->Array Bool->ae S->(ae S->Option A)->Option A|0,a,s,k=>mS P N ok ops cl 0 a s k|c+1,a,s,k=>match pick (fun o=>sR N o.dst&&calm W s o&&o.dst.isSome) ops a (Region.ready .any ops a) with|some (i,o)=>zp N ops s o (fun b=>match o.dst with|some d=>(match G4 b o.op with|true=>OE P W b o.op fun v=>zs P N ok W ops cl c (a.setIfInBounds i true) (b.put d v) k|false=>SI P b o.op fun v x=>zs P N ok W ops cl c (a.setIfInBounds i true) (b.EX d v x) k)|none=>none) (fun b=>zs P N ok W ops cl c (a.setIfInBounds i true) b k)|none=>mS P N ok ops cl (c+1) a s k
noncomputable def xY(P:Program)(N:Nat)(ok:Nat->Bool)(W:List Nat)(ops:Array Oper){A:Type}(cl:ae S->Option Nat->Call->(ae S->Option A)->Option A)(s:ae S)(k:ae S->Option A):Option A:=match Region.noSelect ops&&tH ops.toList with|true=>zs P N ok W ops cl ops.size (Array.replicate ops.size false) s k|false=>none
section
variable {P:Program}{N:Nat}{cx:Cx}{Q:Exit→St→Prop}{W:List Nat}{ok:Nat→Bool}{A:Type}{cl:ae S→Option Nat→Call→(ae S→Option A)→Option A}{r:A}{ops:Array Oper}
def vt{s:ae S}{j d:Nat}{a b:Bool}{c:Oper}(h1:ops[j]?=some c)(h2:c.dst=some d)(e:bw s.cm d=some (.aE true .bool b)):ey ops s.er (some (j,a))=some (b==a):=by
 have:get s.er.fr d=some (.val (.bool b)):=by rw[show get s.er.fr d=_ from gd e];exact congrArg some (iu true b)
 simp[ey,h1,h2,this]
def P0{s:ae S}{j d:Nat}{a:Bool}{b:Oper}(h1:ops[j]?=some b)(h2:b.dst=some d)(c:bw s.cm d=some (.bE [])):ey ops s.er (some (j,a))=some false:=by
 have:get s.er.fr d=some (.bE []):=by rw[show get s.er.fr d=_ from gd c];rfl
 simp[ey,h1,h2,this]
def XK{s:ae S}{o:Oper}(h:U9 ops s o=true):ey ops s.er o.guard=some false:=by
 unfold U9 at h;split at h;cases h;rename_i j a k;rw[k];split at h;rename_i l e;split at h;rename_i d g;split at h;rename_i f b c;have:get s.er.fr d=some (.val (.bool b)):=by rw[show get s.er.fr d=_ from gd c];exact congrArg some (iu f b)
 have i:ey ops s.er (some (j,a))=some (b==a):=by simp[ey,e,g,this]
 rw[i];cases b <;> cases a <;> first|rfl|cases h
 rename_i c;have:get s.er.fr d=some (.bE []):=gd c;simp[ey,e,g,this];cases h;cases h;cases h
def n5{X:St->Prop}(a:∀(s:St) (t:Nat) (b v:Bool),get s.fr t=some (.val (.bool b))->b=v->X {fr:=(t,.val (.bool v))::s.fr,st:=s.st,df:=s.df}->X s):∀{l:List Nat}{s:ae S}{k:ae S->Option A},aQ s->qN ops l s k=some r->(∀t:ae S,aQ t->bG s t->k t=some r->X t.er)->X s.er|[],s,k,g,h,c=>c s g (bG.refl s) h|i::l,s,k,g,h,c=>by (have n:∀{s:ae S}{d:Nat}{f b:Bool}(v:Bool),bw s.cm d=some (.aE f .bool b)->b=v->X (s.put d (.aE true .bool v)).er->X s.er:=by intro s d f b v o e q;refine a _ d b v ?_ e ?_;rw[show get s.er.fr d=_ from gd o];exact congrArg some (iu f b);rw[iT] at q;have w:(TV.aE true .bool v:TV S).er s.ln=.val (.bool v):=iu true v;rw[w] at q;exact q);simp only[qN] at h;split at h;split at h;split at h;split at h;rename_i d _;split at h;rename_i f b o;(cases j:b with|true=>rw[j] at h;exact n true o j (n5 a (g.put d _) h fun t u m p=>c t u ⟨m.lo,m.bS,m.df⟩ p)|false=>rw[j] at h;exact n false o j (n5 a (g.put d _) h fun t u m p=>c t u ⟨m.lo,m.bS,m.df⟩ p));exact n5 a g h c;exact n5 a g h c;exact n5 a g h c;exact n5 a g h c;exact n5 a g h c
def xQ{X:St->Prop}(w:∀(s:St) (t:Nat) (b v:Bool),get s.fr t=some (.val (.bool b))->b=v->X {fr:=(t,.val (.bool v))::s.fr,st:=s.st,df:=s.df}->X s){s:ae S}{o:Oper}{run m:ae S->Option A}(z:aQ s)(h:zp N ops s o run m=some r)(g:∀t:ae S,aQ t->bG s t->ey ops t.er o.guard=some true->run t=some r->X t.er)(c:∀(t t':ae S),aQ t->bG s t->ey ops t.er o.guard=some false->qj N t o=some t'->m t'=some r->X t.er):X s.er:=by
 unfold zp at h;have i:∀{s:ae S}{d:Nat}{f b:Bool}(v:Bool),bw s.cm d=some (.aE f .bool b)->b=v->X (s.put d (.aE true .bool v)).er->X s.er:=by intro s d f b v l e B;refine w _ d b v ?_ e ?_;rw[show get s.er.fr d=_ from gd l];exact congrArg some (iu f b);rw[iT] at B;have D:(TV.aE true .bool v:TV S).er s.ln=.val (.bool v):=iu true v;rw[D] at B;exact B
 split at h;rename_i n;exact g s z (bG.refl s) (by rw[n];rfl) h;rename_i j C n;split at h;rename_i E u;split at h;rename_i d q;split at h;rename_i f b l;have k:=fun v=>aQ.put z d (.aE true .bool v:TV S);have y:∀v,bw (s.put d (.aE true .bool v)).cm d=some (.aE true .bool v):=fun v=>by simp only[ae.put,ae.cm,b7,bw,aW,cond_true]
 split at h;cases a:b with|true=>rw[a] at h;exact i true l a (g _ (k true) ⟨rfl,rfl,rfl⟩ (by rw[n,vt u q (y true)];rfl) h)|false=>rw[a] at h;dsimp only[cond_false] at h;refine i false l a ?_;split at h;rename_i x p;exact c _ x (k false) ⟨rfl,rfl,rfl⟩ (by rw[n,vt u q (y false)];rfl) p h;cases h
 cases a:b with|true=>rw[a] at h;dsimp only[cond_true] at h;refine i true l a ?_;split at h;rename_i x p;exact c _ x (k true) ⟨rfl,rfl,rfl⟩ (by rw[n,vt u q (y true)];rfl) p h;cases h|false=>rw[a] at h;exact i false l a (g _ (k false) ⟨rfl,rfl,rfl⟩ (by rw[n,vt u q (y false)];rfl) h)
 rename_i l;split at h;rename_i x p;exact c _ x z (bG.refl s) (by rw[n,P0 u q l]) p h;cases h;cases h;cases h;cases h
def sq{s t:ae S}{o:Oper}{d:Nat}(hd:o.dst=some d)(h:qj N s o=some t):d<N/\t=s.put d (.bE []):=by unfold qj at h;rw[hd] at h;dsimp only at h;split at h;rename_i a;cases h;exact⟨by simpa[gO] using a,rfl⟩;cases h
def gr.aak{s:St}{e:Nat}{b:Array Bool}(i:Nat){o:Oper}(hi:ops[i]?=some o)(n:Region.noSelect ops=true)(hf:Region.free .any ops b i=true)(l:(Region.ready .any ops b).contains i=true)(j:ey ops s o.guard=some false)(hd:o.dst=none)(h:gr P N cx ops Q W e (b.setIfInBounds i true) s):gr P N cx ops Q W (e+1) b s:=by intro k g m a w d f p;refine wpAnyH_take (v:=undef) hi n hf l (fun c r q h=>(by rw[hd] at h;exact h)) (.inr ⟨fH d j,rfl⟩) f ?_;rw[hd];exact h k g m _ w d f p
def jP(n:∀h,ok h=true->W.contains h=true){kp:List PanicEntry->ae S->Option A}(z:Dv P N W cl kp r)(H:Region.noSelect ops=true)(w:Ob Q (wQ ops)):∀{bK:Nat}{c:Array Bool}{s:ae S}{k:ae S->Option A},aQ s->mS P N ok ops cl bK c s k=some r->(∀t:ae S,aQ t->bG s t->k t=some r->Q .normal t.er)->(∀q (t:ae S),aQ t->bG s t->kp q t=some r->∃u,Gh t.er u/\Q (.panic q) u)->gr P N cx ops Q W bK c s.er|0,c,s,k,hl,h,L,f=>by unfold mS at h;split at h;rename_i M;exact gr.done M (L s hl (bG.refl s) h);cases h|bK+1,c,s,k,hl,h,L,m=>by unfold mS at h;split at h;rename_i M;exact gr.done M (L s hl (bG.refl s) h);rename_i Y rs M;split at h;rename_i i o hp;obtain⟨p1,p2,p3,p4⟩:=y9 hp;simp only[ag] at p3;obtain⟨⟨q1,q2⟩,q4⟩:=p3;(have K:(Region.ready .any ops c).contains i=true:=by rw[M];exact gP.2 p1);refine xQ (X:=fun s=>gr P N cx ops Q W (bK+1) c s) (fun s t b v G F R=>gr.lit t G F R) hl h (fun t y f I E=>?_) (fun t t' y f I C E=>?_);(cases B:o.dst with|none=>rw[B] at q4;cases q4|some d=>rw[B] at E q1;dsimp only at E;(have O:d<N:=by simpa[sR,gO] using q1);obtain⟨v,x,G,F,R⟩:=L9 (dst:=o.dst) (ty:=o.type) (pos:=o.pos) (after:=o.after) (guard:=o.guard) E;refine gr.take i w p2 H p4 K I B O G ?_;rw[<-Il t d v x];exact jP n z H w (Ik y d F) R (fun p g a j=>L p g ((f.trans (uE t d v x)).trans a) j) fun q p g a j=>m q p g ((f.trans (uE t d v x)).trans a) j);(cases B:o.dst with|none=>rw[B] at q4;cases q4|some d=>obtain⟨O,e⟩:=sq B C;subst e;exact gr.DD i w p2 H p4 K I B O (jP n z H w (y.put _ _) E (fun p g a j=>L p g (f.trans ⟨a.lo,a.bS,a.df⟩) j) fun q p g a j=>m q p g (f.trans ⟨a.lo,a.bS,a.df⟩) j));split at h;split at h;rename_i o Z;split at h;rename_i D;split at h;rename_i d B hld;(have O:d<N:=by rw[B] at D;simpa[sR,gO] using D);refine xQ (X:=fun s=>gr P N cx ops Q W (bK+1) c s) (fun s t b v G F R=>gr.lit t G F R) hl h (fun t y f I E=>?_) (fun t t' y f I C E=>?_);obtain⟨v,G,F⟩:=F8 (dst:=o.dst) (ty:=o.type) (pos:=o.pos) (after:=o.after) (guard:=o.guard) y E;exact gr.aaQ Y M Z I B O G (jP n z H w (y.put d v) F (fun p g a j=>L p g (f.trans ⟨a.lo,a.bS,a.df⟩) j) fun q p g a j=>m q p g (f.trans ⟨a.lo,a.bS,a.df⟩) j);split at E;rename_i hf;obtain⟨_,e⟩:=sq B C;subst e;exact gr.DD Y w Z H hf (by rw[M];simp) I B O (jP n z H w (y.put _ _) E (fun p g a j=>L p g (f.trans ⟨a.lo,a.bS,a.df⟩) j) fun q p g a j=>m q p g (f.trans ⟨a.lo,a.bS,a.df⟩) j);cases E;split at h;refine xQ (X:=fun s=>gr P N cx ops Q W (bK+1) c s) (fun s t b v G F R=>gr.lit t G F R) hl h (fun t y f I E=>?_) (fun t t' y f I C E=>?_);obtain⟨T,Tp,G,F,h2p⟩:=Nt n z y E;refine gr.aaR Y M Z I (fun d e=>?_) (nX.tell (Tp':=fun q u=>Q (.panic q) u) G fun q s' ht=>?_) (fun s' ht=>?_) fun _ _ h=>h;rw[e] at D;simpa[sR,gO] using D;obtain⟨p,g1,g2,U,g4⟩:=h2p q s' ht;obtain⟨u,g5,g6⟩:=m q p g2 (f.trans U) g4;exact⟨u,g1.trans g5,g6⟩;obtain⟨p,g1,g2,U,g4⟩:=F s' ht;exact gr.gh g1 (jP n z H w g2 g4 (fun t3 g a j=>L t3 g ((f.trans U).trans a) j) fun q t3 g a j=>m q t3 g ((f.trans U).trans a) j);split at E;rename_i hf;(cases B:o.dst with|none=>unfold qj at C;rw[B] at C;dsimp only at C;cases C;exact gr.aak Y Z H hf (by rw[M];simp) I B (jP n z H w y E (fun p g a j=>L p g (f.trans ⟨a.lo,a.bS,a.df⟩) j) fun q p g a j=>m q p g (f.trans ⟨a.lo,a.bS,a.df⟩) j)|some d=>obtain⟨O,e⟩:=sq B C;subst e;exact gr.DD Y w Z H hf (by rw[M];simp) I B O (jP n z H w (y.put _ _) E (fun p g a j=>L p g (f.trans ⟨a.lo,a.bS,a.df⟩) j) fun q p g a j=>m q p g (f.trans ⟨a.lo,a.bS,a.df⟩) j));cases E;cases h;cases h;cases h;refine n5 (X:=fun s=>gr P N cx ops Q W (bK+1) c s) (fun s t b v G F R=>gr.lit t G F R) hl h fun s1 V J h=>?_;split at h;rename_i i o hp;obtain⟨p1,p2,p3,p4⟩:=y9 hp;simp only[ag] at p3;obtain⟨⟨q1,q2⟩,q4⟩:=p3;(have K:(Region.ready .any ops c).contains i=true:=by rw[M];exact gP.2 p1);split at h;rename_i s' C;(cases B:o.dst with|none=>rw[B] at q4;cases q4|some d=>obtain⟨O,e⟩:=sq B C;subst e;exact gr.DD i w p2 H p4 K (XK q2) B O (jP n z H w (V.put _ _) h (fun p g a j=>L p g (J.trans ⟨a.lo,a.bS,a.df⟩) j) fun q p g a j=>m q p g (J.trans ⟨a.lo,a.bS,a.df⟩) j));cases h;have hall:=KH h;refine gr.any Y rs M ?_;(have zR:∀i,i∈Y::rs->xf P N cx ops Q W bK c s1.er i:=by intro i hi;have X:=hall _ (kX hi);split at X;rename_i o Z;split at X;rename_i hc;simp only[ag] at hc;obtain⟨D,hkn⟩:=hc;have I:=Ti hkn;split at X;rename_i d B hld;(have O:d<N:=by rw[B] at D;simpa[sR,gO] using D);obtain⟨v,G,F⟩:=F8 (dst:=o.dst) (ty:=o.type) (pos:=o.pos) (after:=o.after) (guard:=o.guard) V X;exact xf.y i Z I B O G (jP n z H w (V.put d v) F (fun p g a j=>L p g (J.trans ⟨a.lo,a.bS,a.df⟩) j) fun q p g a j=>m q p g (J.trans ⟨a.lo,a.bS,a.df⟩) j);split at X;obtain⟨T,Tp,G,F,h2p⟩:=Nt n z V X;refine xf.eP i Z I (fun d e=>?_) (nX.tell (Tp':=fun q u=>Q (.panic q) u) G fun q s' ht=>?_) (fun s' ht=>?_) fun _ _ h=>h;rw[e] at D;simpa[sR,gO] using D;obtain⟨p,g1,g2,U,g4⟩:=h2p q s' ht;obtain⟨u,g5,g6⟩:=m q p g2 (J.trans U) g4;exact⟨u,g1.trans g5,g6⟩;obtain⟨p,g1,g2,U,g4⟩:=F s' ht;exact gr.gh g1 (jP n z H w g2 g4 (fun t3 g a j=>L t3 g (J.trans (U.trans a)) j) fun q t3 g a j=>m q t3 g (J.trans (U.trans a)) j);cases X;cases X;cases X);clear M hall h;generalize Y::rs=l at zR;induction l with|nil=>exact trivial|cons x r ih=>exact⟨zR x au,ih fun i hi=>zR i (ar _ hi)⟩
def xX(g:∀h,ok h=true->W.contains h=true){U:List PanicEntry->ae S->Option A}(p:Dv P N W cl U r)(B:Region.noSelect ops=true)(j:Ob Q (wQ ops)):∀{L:Nat}{a:Array Bool}{s:ae S}{k:ae S->Option A},aQ s->zs P N ok W ops cl L a s k=some r->(∀t:ae S,aQ t->bG s t->k t=some r->Q .normal t.er)->(∀z (t:ae S),aQ t->bG s t->U z t=some r->∃u,Gh t.er u/\Q (.panic z) u)->sa P N cx ops Q W L a s.er|0,a,s,k,J,h,E,c=>sa.later (jP g p B j J h E c)|L+1,a,s,k,J,h,E,c=>by unfold zs at h;split at h;rename_i i o Y;obtain⟨Z,M,V,R⟩:=y9 Y;simp only[ag] at V;obtain⟨⟨X,q2⟩,I⟩:=V;have q:(Region.ready .any ops a).contains i=true:=gP.2 Z;refine xQ (X:=fun s=>sa P N cx ops Q W (L+1) a s) (fun s t b v G F T=>sa.lit t G F T) J h (fun t n l H D=>?_) (fun t t' n l H O D=>?_);(cases C:o.dst with|none=>rw[C] at I;cases I|some d=>rw[C] at D X;dsimp only at D;(have K:d<N:=by simpa[sR,gO] using X);split at D;obtain⟨v,G,F⟩:=F8 (dst:=o.dst) (ty:=o.type) (pos:=o.pos) (after:=o.after) (guard:=o.guard) n D;exact sa.take i j M B R q H C K G (xX g p B j (n.put d v) F (fun w y f m=>E w y (l.trans ⟨f.lo,f.bS,f.df⟩) m) fun z w y f m=>c z w y (l.trans ⟨f.lo,f.bS,f.df⟩) m);obtain⟨v,x,G,F,T⟩:=L9 (dst:=o.dst) (ty:=o.type) (pos:=o.pos) (after:=o.after) (guard:=o.guard) D;refine sa.take i j M B R q H C K (G.yield W) ?_;rw[<-Il t d v x];exact xX g p B j (Ik n d F) T (fun w y f m=>E w y ((l.trans (uE t d v x)).trans f) m) fun z w y f m=>c z w y ((l.trans (uE t d v x)).trans f) m);(cases C:o.dst with|none=>rw[C] at I;cases I|some d=>obtain⟨K,e⟩:=sq C O;subst e;exact sa.DD i j M B R q H C K (xX g p B j (n.put _ _) D (fun w y f m=>E w y (l.trans ⟨f.lo,f.bS,f.df⟩) m) fun z w y f m=>c z w y (l.trans ⟨f.lo,f.bS,f.df⟩) m));exact sa.later (jP g p B j J h E c)
def Nu{id:Nat}(o:P.follows .mixedOrders=true)(g:∀h,ok h=true->W.contains h=true){m:List PanicEntry->ae S->Option A}(i:Dv P N W cl m r){s:ae S}{k:ae S->Option A}(p:aQ s)(h:xY P N ok W ops cl s k=some r)(q:∀t:ae S,aQ t->bG s t->k t=some r->Q .normal t.er)(l:∀f (t:ae S),aQ t->bG s t->m f t=some r->∃u,Gh t.er u/\Q (.panic f) u/\∀d,d∈wQ ops->get u.fr d=none):GW P N cx (.region id ops true) Q s.er:=by unfold xY at h;split at h;rename_i j;simp only[ag] at j;refine(GW.Li (Q:=fun e s=>Q e s/\∀f,e=.panic f->∀d,d∈wQ ops->get s.fr d=none) W o (xX g i j.1 (fun c s h d v=>h.2 c rfl d v) p h (fun t a b c=>⟨q t a b c,fun f e=>by cases e⟩) fun f t a b c=>?_) j.2).mono fun e s h=>h.1;obtain⟨u,w,x,n⟩:=l f t a b c;exact⟨u,w,x,fun _ _=>n⟩;cases h
end
end
end Go.DN
