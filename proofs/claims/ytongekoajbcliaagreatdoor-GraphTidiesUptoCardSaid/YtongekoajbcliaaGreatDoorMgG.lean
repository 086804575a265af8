/-
  DN, second part.
-/
import Derived.Test.YtongekoajbcliaaGreatDoorMgC
import Derived.Test.YtongekoajbcliaaGreatDoorMgF
set_option linter.unusedSectionVars false
set_option linter.unusedSimpArgs false
set_option linter.unusedVariables false
/-
 DN,part Kd:slices of slices.
-/
namespace Go.DN
open Go.AM
def bA (d:Nat):List Nat→Bool
 | []=>false
 | x::r=>bif Nat.beq x d then true else bA d r
theorem bQ {d:Nat}:∀{l:List Nat},bA d l=true↔d∈l
 | []=>by simp[bA]
 | x::r=>by
  simp only[bA,bf];cases hb:Nat.beq x d with
  | true=>have:=ab hb;subst this;simp
  | false=>
   rw[cond_false,bQ];constructor
   ·exact .inr
   ·rintro(e | h)
    ·subst e;rw[aW] at hb;cases hb
    ·exact h
section
variable {S:eI}
theorem iD {t:ae S}(h:t.last=[]):aO t:=fun d hh x hm=>by rw[h] at hm;cases hm
def inner (s:ae S):List Nat→Bool
 | []=>true
 | x::r=>(match aA s.bN x with | none=>true | some _=>false)&&(!(TV.has.go x s.df)&&(!(gL x s.lo)&&!(dE x s.bN)))&&inner s r
def Ku (s:ae S) (h kty:Nat){A:Type}(k:ae S→Option A):Option A:=
 none
theorem K4 {s:ae S}{h kty:Nat}{A:Type}{k:ae S→Option A}{r:A}(hl:aO s) (e:Ku s h kty k=some r):∃t,Gh s.er t.er∧aO t∧bC s t∧k t=some r:=by
 unfold Ku at e;cases e
def K2 (s:ae S) (h:Nat):Option (ae S):=
 none
theorem Rv {s t:ae S}{h:Nat}(hl:aO s) (e:K2 s h=some t):Gh s.er t.er∧aO t∧bC s t:=by
 unfold K2 at e;cases e
def Hz (s:ae S) (h:Nat):Option (ae S):=
 none
theorem Pr {s t:ae S}{h:Nat}(hl:aO s) (e:Hz s h=some t):Gh s.er t.er∧aO t∧bC s t:=by
 unfold Hz at e;cases e
def Mt (s:ae S) (h:Nat):Bool:=match aA s.bl h with
 | some (.deep _ _ _ (.rows _ _) _ _)=>true
 | _=>false
def Mw (s:ae S) (h:Nat):Bool:=match aA s.bl h with
 | some (.deep ..)=>true
 | _=>false
def Dj (s:ae S) (h:Nat):Option (ae S):=
 match Mw s h with
 | true=>match (match Mt s h with | true=>Hz s h | false=>K2 s h) with
  | some s'=>Dl s' h
  | none=>none
 | false=>Dl s h
theorem GC {s t:ae S}{h:Nat}(hl:aO s) (hf:Dj s h=some t):Gh s.er t.er∧aO t∧bC s t:=by
 unfold Dj at hf;split at hf
 ·split at hf
  ·rename_i s' hs;have hs2:Gh s.er s'.er∧aO s'∧bC s s':=by
    split at hs
    ·exact Pr hl hs
    ·exact Rv hl hs
   obtain⟨a1,a2,a3⟩:=hs2;obtain⟨b1,b2,b3⟩:=GD a2 hf;exact⟨a1.trans b1,b2,a3.trans b3⟩
  ·cases hf
 ·exact GD hl hf
def MI (P:Program) (ok:Nat→Bool) (s:ae S) (t:TypeId) (x y:Operand){A:Type}(k:ae S→Option A):Option A:=
 none
theorem S8 {P:Program}{W:List Nat}{ok:Nat→Bool}(hokW:∀h,ok h=true→W.contains h=true){s:ae S}{t:TypeId}{x y:Operand}{ty:TypeId}{pos:String}{after:Array Edge}{guard:Option (Nat×Bool)}{A:Type}{k:ae S→Option A}{r:A}
  (hl:aO s) (h:MI P ok s t x y k=some r):fE P W s ⟨none,.store t x y,ty,pos,after,guard⟩ k r:=by
 unfold MI at h;cases h
def Ih (P:Program) (ok:Nat→Bool) (s:ae S) (d:Nat) (t:TypeId) (n:Nat) (parts:Array (Nat×Operand)){A:Type}(k:ae S→Option A):Option A:=
 none
theorem QK {P:Program}{W:List Nat}{ok:Nat→Bool}(hokW:∀h,ok h=true→W.contains h=true){s:ae S}{d:Nat}{t:TypeId}{n:Nat}{parts:Array (Nat×Operand)}{ty:TypeId}{pos:String}{after:Array Edge}{guard:Option (Nat×Bool)}{A:Type}{k:ae S→Option A}{r:A}
  (hl:aO s) (h:Ih P ok s d t n parts k=some r):fE P W s ⟨some d,.buildSlice t n parts,ty,pos,after,guard⟩ k r:=by
 unfold Ih at h;cases h
def Ii (P:Program) (ok:Nat→Bool) (s:ae S) (d:Nat) (c:Call){A:Type}(k:ae S→Option A):Option A:=
 none
theorem QM {P:Program}{W:List Nat}{ok:Nat→Bool}(hokW:∀h,ok h=true→W.contains h=true){s:ae S}{d:Nat}{args:Array Operand}{ts:Array TypeId}{ty:TypeId}{pos:String}{after:Array Edge}{guard:Option (Nat×Bool)}{A:Type}{k:ae S→Option A}{r:A}
  (hl:aO s) (hq:Ii P ok s d ⟨.builtin .append,args,ts⟩ k=some r):fE P W s ⟨some d,.call ⟨.builtin .append,args,ts⟩,ty,pos,after,guard⟩ k r:=by
 unfold Ii at hq;cases hq
end
end Go.DN
/-
 DN,part Ke:slices that are written no more,slices that are adopted,slices whose end is cut off.
-/
namespace Go.DN
open Go.AM
section
variable {S:eI}
def TV.P4:TV S→List Nat
 | .aL h _=>[h]
 | .sub h _ _ _=>[h]
 | .agg l=>go l
 | .bB l=>go l
 | _=>[]
where go:List (TV S)→List Nat
 | []=>[]
 | x::r=>x.P4++go r
def sv:List Nat→ae S→Option (ae S)
 | [],s=>some s
 | h::r,s=>match aA s.bl h with
  | none=>sv r s
  | some _=>match Dj s h with
   | some s'=>sv r s'
   | none=>none
theorem oc:∀{l:List Nat}{s t:ae S},aO s→sv l s=some t→Gh s.er t.er∧aO t∧bC s t
 | [],s,t,hl,h=>by cases h;exact⟨Gh.refl _,hl,bC.refl s⟩
 | x::r,s,t,hl,h=>by
  simp only[sv] at h;split at h
  ·exact oc hl h
  ·split at h
   ·rename_i s' hs;obtain⟨a1,a2,a3⟩:=GC hl hs;obtain⟨b1,b2,b3⟩:=oc a2 h;exact⟨a1.trans b1,b2,a3.trans b3⟩
   ·cases h
def P3 (s:ae S):List Operand→List Nat
 | []=>[]
 | x::r=>(match cu s x with | some v=>v.P4 | none=>[])++P3 s r
theorem Ch {α β:Type}{f:α→List β}{z:Nat}(hf:∀a,(f a).length=z):∀(l:List α) (n:Nat),List.flatMap f (l.take n)=(List.flatMap f l).take (n*z)
 | [],n=>by simp
 | x::r,0=>by simp
 | x::r,n+1=>by
  simp only[List.take_succ_cons,b6];have e1:(n+1)*z-z=n*z:=by rw[Nat.succ_mul];omega
  have e2:(f x).length≤(n+1)*z:=by rw[hf x,Nat.succ_mul];omega
  rw[Ch hf r n,List.take_append,hf x,e1,dj (l:=f x) e2]
theorem Gh.Zq {s:St}(hh j hd:Nat) (e:TypeId) (sz:Nat){k:av}(hk:ay s.st hh=some k) (hp:k.pure=false) (hj:k.cells[j]?=some (.val (.slice none 0 0))) (hf:fresh s hd=true) (hlp:k.lp=none):
  Gh s {fr:=s.fr,st:=dF ((hd,⟨e,true,true,true,sz,[],none⟩)::s.st) hh {k with cells:=k.cells.set j (.aL hd sz 0 0)},df:=s.df}:=fun N cx μ a w h=>by
 have h1:=h.F7 hd ⟨e,true,true,true,sz,[],none⟩ hf rfl rfl;have hne:hh≠hd:=fun e=>by
  subst e;obtain⟨h2,_⟩:=gr hf;rw[hk] at h2;cases h2
 have hk2:ay ((hd,(⟨e,true,true,true,sz,[],none⟩:av))::s.st) hh=some k:=by rw[aB _ _ hne];exact hk
 refine⟨_,h1.C4 (s:={fr:=s.fr,st:=(hd,⟨e,true,true,true,sz,[],none⟩)::s.st,df:=s.df}) hk2 rfl rfl rfl (by simp) hlp hlp fun i g' hg'=>?_,Gh.same fun x k1 b m hx hm=>?_⟩
 ·simp only[dN] at hg'
  by_cases e:j=i
  ·subst e;rw[if_pos rfl] at hg';split at hg'
   ·cases hg';refine⟨_,hj,fun v hv=>?_⟩;unfold cZ at hv⊢;simp only[hp] at hv⊢;cases hv with
    | aF hv=>cases hv;exact .gk hd sz (b7 _ _ _)
   ·cases hg'
  ·rw[if_neg e] at hg';refine⟨g',hg',fun v hv=>?_⟩;unfold cZ at hv⊢;exact hv
 ·by_cases e1:x=hd
  ·subst e1;rw[b7] at hm;cases hm
  ·rw[aZ e1] at hm;rcases dm hk2 hx with ⟨e2,_⟩ | ⟨e2,h3⟩
   ·subst e2;exact⟨k,hk,hm⟩
   ·rw[aB _ _ e1] at h3;exact⟨k1,h3,hm⟩
theorem TG {s:ae S}{h j hd:Nat}{e e':TypeId}{m:Bool}{cs:List (TV S)}{τ:Ty}(hl:aO s) (ho:aA s.st h=some (.box e' m cs)) (hj:cs[j]?=some (.val (.slice none 0 0))) (hf:s.free hd=true):
  Gh s.er ((s.add hd (.arr e true true τ [])).set h (.box e' m (cs.set j (.aL hd τ)))).er∧aO ((s.add hd (.arr e true true τ [])).set h (.box e' m (cs.set j (.aL hd τ)))):=by
 obtain⟨e1,hag⟩:=pV hf (.arr e true true τ ([]:List (S.D τ))) rfl;obtain⟨f1,f2,f3,f4,f5⟩:=free_spec hf;have hne:h≠hd:=fun e=>by subst e;rw[fR ho] at f1;cases f1
 have hne':Nat.beq hd h=false:=by
  cases hb:Nat.beq hd h with
  | false=>rfl
  | true=>exact absurd (ab hb).symm hne
 have ho2:aA (s.add hd (.arr e true true τ [])).st h=some (.box e' m cs):=by
  show aA ((hd,_)::s.st) h=_;simp only[aA,hne',cond_false];exact ho
 obtain⟨g1,_⟩:=pu (o':=.box e' m (cs.set j (.aL hd τ))) ho2 rfl;refine⟨?_,(hl.add (.arr e true true τ []) hf).set ho2 _⟩;rw[g1,e1];have hcs:TV.has.go hd cs=false:=by
  have:=ud (fR ho) f3;exact this
 have e3:(TO.box e' m (cs.set j (.aL hd τ)):TO S).er (s.add hd (.arr e true true τ [])).ln={(TO.box e' m cs:TO S).er s.ln with cells:=((TO.box e' m cs:TO S).er s.ln).cells.set j (.aL hd (S.sz τ) 0 0)}:=by
  have e4:TV.er.go (s.add hd (.arr e true true τ [])).ln (cs.set j (.aL hd τ))=(TV.er.go s.ln cs).set j (.aL hd (S.sz τ) 0 0):=by
   rw[cP,nP,←cP,←pJ hag cs hcs];congr 1;show G.aL _ _ _ ((s.add hd _).ln hd)=_;rw[show(s.add hd (.arr e true true τ [])).ln hd=_ from we _ _];rfl
  show av.mk _ _ _ _ _ _ _=av.mk _ _ _ _ _ _ _;rw[e4];rfl
 rw[e3];exact Gh.Zq (s:=s.er) h j hd e (S.sz τ) (ga (fR ho)) rfl (by show(TV.er.go s.ln cs)[j]?=_;rw[cP,ak,hj];rfl) (gu hf) rfl
def Iy (h:Nat):List (Nat×TO S)→List (Nat×TO S)
 | []=>[]
 | (k,o)::r=>bif Nat.beq k h then Iy h r else(k,o)::Iy h r
theorem Ap {h x:Nat}(hx:x≠h):∀{st:List (Nat×TO S)},aA (Iy h st) x=aA st x
 | []=>rfl
 | (k,o)::r=>by
  simp only[Iy,aA];cases hb:Nat.beq k h with
  | true=>
   have:=ab hb;subst this;have h2:Nat.beq k x=false:=by
    cases h3:Nat.beq k x with
    | false=>rfl
    | true=>exact absurd (ab h3).symm hx
   rw[h2];exact Ap hx
  | false=>
   simp only[cond_false,aA];cases Nat.beq k x with
   | true=>rfl
   | false=>exact Ap hx
def ae.sC (s:ae S) (h:Nat):ae S:={s with st:=Iy h s.st,last:=xd h s.last}
theorem Vl {s:ae S}{h:Nat}(hl:aO s) (hf:(s.sC h).free h=true):Gh s.er (s.sC h).er∧aO (s.sC h)∧bC s (s.sC h):=by
 obtain⟨f1,f2,f3,f4,_⟩:=free_spec hf;have hst:∀x,x≠h→aA (s.sC h).bl x=aA s.bl x:=by
  intro x hx;show aA (Iy h s.st++s.bN) x=aA (s.st++s.bN) x;rw[eC,eC,Ap hx]
 have hag:kL s.ln (s.sC h).ln h:=by
  intro x hx;show cp s.bl x=cp (s.sC h).bl x;unfold cp;rw[hst x hx]
 have hone:∀o:TO S,o.has h=false→wQ s.er.st (s.sC h).er.st (o.er s.ln) (o.er (s.sC h).ln):=by
  intro o ho;rw[TO.tw hag o ho];exact wQ.refl _ _ _
 refine⟨Gh.typed (fun d v' hv'=>⟨v',hv',?_⟩) (fun x o' ho'=>?_) (pJ hag s.df f4),?_,⟨rfl,rfl,rfl⟩⟩
 ·rw[tw hag v' (xx hv' f2)];exact CV.refl _ _ _
 ·have hx:x≠h:=fun e=>by subst e;rw[f1] at ho';cases ho'
  exact⟨o',by rw[←hst x hx];exact ho',hone o' (ud ho' f3)⟩
 ·intro d hh x hm;obtain⟨h1,h2⟩:=vH hm;obtain⟨i,bI,m,f',τ',l',a,e1,e2,e3⟩:=hl d hh x h1;exact⟨i,bI,m,f',τ',l',a,e1,(hst hh h2).trans e2,e3⟩
def mG (s:ae S) (h:Nat):ae S:=match s.free h with
 | true=>s
 | false=>match (s.sC h).free h with
  | true=>s.sC h
  | false=>s
theorem wj {s:ae S}(h:Nat) (hl:aO s):Gh s.er (mG s h).er∧aO (mG s h)∧bC s (mG s h):=by
 unfold mG;split
 ·exact⟨Gh.refl _,hl,bC.refl s⟩
 ·split
  ·rename_i hf;exact Vl hl hf
  ·exact⟨Gh.refl _,hl,bC.refl s⟩
theorem Rel.shrink {N:Nat}{cx:Cx}{s:St}{μ:Mu}{a:Act}{w:World}(hr:Rel N cx μ s a w){h d n c:Nat}{k:av}(hk:ay s.st h=some k) (hp:k.pure=true) (hlp:k.lp=none) (hd:get s.fr d=some (.aL h k.sz 0 n)):
  Rel N cx μ {fr:=(d,.aL h k.sz 0 n)::nA h s.fr,st:=(h,{k with cells:=k.cells.take c})::gA h s.st,df:=s.df} a w:=by
 have key:∀x k1,ay ((h,{k with cells:=k.cells.take c})::gA h s.st) x=some k1→∃k0,ay s.st x=some k0:=by
  intro x k1 h1
  by_cases e:x=h
  ·subst e;exact⟨k,hk⟩
  ·rw[aB _ _ e] at h1;obtain⟨k0,h2,_⟩:=dM h1;exact⟨k0,h2⟩
 have hO:∀b,¬cx.O s.st μ b→¬cx.O ((h,{k with cells:=k.cells.take c})::gA h s.st) μ b:=by
  rintro b hn (ho | ⟨x,k1,c1,m,h1,h2,hi⟩)
  ·exact hn (.inl ho)
  ·obtain⟨k0,h3⟩:=key x k1 h1;exact hn (.inr ⟨x,k0,c1,m,h3,h2,hi⟩)
 refine {st:={en:=?_,de:=?_,cq:=?_,fD:=?_,fg:=hr.st.fg,hb:=hr.st.hb,os:=hr.st.os,tape:=hr.st.tape,output:=hr.st.output,gl:=hr.st.gl,dq:=hr.st.dq},nd:=hr.nd.mono (Kept.refl _ _) (fun b _=>hO b),sz:=hr.sz,fr:=?_}
 ·intro x k1 h1
  by_cases e:x=h
  ·subst e;rw[dU] at h1;cases h1;have h3:=hr.st.en x k hk;cases hm:μ x with
   | none=>rw[hm] at h3;exact .nil (by simp[h3.1]) hlp
   | some bm=>
    obtain⟨b,m⟩:=bm;rw[hm] at h3;obtain⟨cs,q1,q2,q3,q4,q5,q6⟩:=h3.cells hlp;refine .mk hlp (h3.nf hlp) ⟨cs,q1,q2,by simp only[br];omega,q4,q5,fun j g hg=>?_⟩;have hg':k.cells[j]?=some g:=by
     have hg:(k.cells.take c)[j]?=some g:=hg;rw[bo] at hg;split at hg
     ·exact hg
     ·cases hg
    obtain⟨v,hv,hrv⟩:=q6 j g hg';refine⟨v,hv,?_⟩;have:=hrv.mono (O':=cx.O ((x,{k with cells:=k.cells.take c})::gA x s.st) μ) (Kept.refl _ _) (fun b _=>hO b);unfold cZ at this⊢;exact this
  ·rw[aB _ _ e] at h1;obtain⟨k0,h2,rfl⟩:=dM h1;exact((hr.st.en x k0 h2).mono (fun _ _ _ _ _=>rfl) (Kept.refl _ _) (fun b _=>hO b)).kill h fun _ _=>rfl
 ·intro x x' k1 k2 y b m b2 m2 h1 h2;obtain⟨k0,h5⟩:=key x k1 h1;obtain⟨k0',h5'⟩:=key x' k2 h2;exact hr.st.de x x' k0 k0' y b m b2 m2 h5 h5'
 ·intro x k1 b m y h1 h2 hi
  by_cases e:x=h
  ·subst e;rw[dU] at h1;cases h1;exact hr.st.cq x k b m y hk h2 hi
  ·rw[aB _ _ e] at h1;obtain⟨k0,h5,rfl⟩:=dM h1;obtain⟨a1,a2,a3,a4⟩:=hr.st.cq x k0 b m y h5 h2 hi;exact⟨a1,a2,a3,fun hm=>a4 (by cases hp:k0.pure <;> simp only[hp] at hm <;> exact hm)⟩
 ·intro x k1 h1 h2;obtain⟨k0,h5⟩:=key x k1 h1;exact hr.st.fD x k0 h5 h2
 ·intro t g hg;rw[iS] at hg;cases hb:Nat.beq d t with
  | true=>
   rw[hb] at hg;cases hg;have:=ab hb;subst this;obtain⟨v,hv,hrv⟩:=hr.fr d _ hd;exact⟨v,hv,hrv.mono (Kept.refl _ _) (fun b _=>hO b) (aG _)⟩
  | false=>
   rw[hb] at hg;obtain⟨g0,h1,rfl⟩:=Ab hg;obtain⟨v,hv,hrv⟩:=hr.fr t g0 h1;exact⟨v,hv,sk (hrv.mono (Kept.refl _ _) (fun b _=>hO b) (aG _)) fun k hk=>rfl⟩
def Bw (s:ae S) (x:Operand){A:Type}(k:ae S→Option A):Option A:=
 match x with
 | .tmp t=>match bp s.ca t with
  | some (.sub h τ 0 n)=>match aA s.st h with
   | some (.arr e m f τ' l)=>match decEq τ' τ with
    | isTrue _=>match !(gL h s.lo)&&(!(dE h s.bN)&&!(TV.has.go h s.df)) with
     | true=>(bj (n≤l.length)).bind fun _=>k ((s.renew h (.arr e m f τ' (l.take n))).put t (.aL h τ'))
     | false=>none
    | isFalse _=>none
   | _=>none
  | _=>k s
 | _=>k s
theorem Bv {s:ae S}{x:Operand}{A:Type}{k:ae S→Option A}{r:A}(hl:aO s) (h:Bw s x k=some r):∃t,Gh s.er t.er∧aO t∧bC s t∧k t=some r:=by
 unfold Bw at h;split at h
 ·rename_i t;split at h
  ·rename_i hh τ n hx;split at h
   ·rename_i e m f τ' l ho;split at h
    ·rename_i e1 _;subst e1;split at h
     ·rename_i hc;simp only[af,aS] at hc;obtain⟨hlo,hls,hdf⟩:=hc;obtain⟨_,hck,hk⟩:=bind_some h;have hn:n≤l.length:=cD hck;refine⟨_,?_,(hl.renew hh (.arr e m f τ' (l.take n)) hlo hls).put t (.aL hh τ'),⟨rfl,rfl,rfl⟩,hk⟩;obtain⟨e1,_,e3⟩:=Eo (.arr e m f τ' (l.take n)) rfl hdf hlo hls;rw[iJ,e1];have e4:(TV.aL hh τ':TV S).er (s.renew hh (.arr e m f τ' (l.take n))).ln=.aL hh (S.sz τ') 0 n:=by
       show G.aL _ _ _ ((s.renew hh _).ln hh)=_;rw[e3];show G.aL _ _ _ (l.take n).length=_;rw[br,iN hn]
      rw[e4];have e5:(TO.arr e m f τ' (l.take n):TO S).er s.ln={(TO.arr e m f τ' l:TO S).er s.ln with cells:=((TO.arr e m f τ' l:TO S).er s.ln).cells.take (n*S.sz τ')}:=by
       show av.mk _ _ _ _ _ _ _=av.mk _ _ _ _ _ _ _;have:List.flatMap (aX S τ') (l.take n)=(List.flatMap (aX S τ') l).take (n*S.sz τ'):=Ch (fun a=>tz S τ' a) l n;rw[this];rfl
      rw[e5];have e6:AM.get (il s.ln s.ca) t=some (G.aL hh (S.sz τ') 0 n):=by
       rw[fU hx];show some (G.aL _ _ (0*S.sz τ') _)=_;rw[gJ]
      intro N cx μ a w hr;exact⟨μ,Rel.shrink hr (ga (fR ho)) rfl rfl e6,Gh.same fun x k1 b m' h1 h2=>by
       by_cases e:x=hh
       ·subst e;exact⟨_,ga (fR ho),h2⟩
       ·have h1:ay ((hh,_)::gA hh s.er.st) x=some k1:=h1;rw[aB _ _ e] at h1;obtain⟨k0,h3,_⟩:=dM h1;exact⟨k0,h3,h2⟩⟩
     ·cases h
    ·cases h
   ·cases h
  ·exact⟨s,Gh.refl _,hl,bC.refl s,h⟩
 ·exact⟨s,Gh.refl _,hl,bC.refl s,h⟩
end
end Go.DN
/-
 DN,part Kc:copy.
-/
namespace Go.DN
open Go.AM
section
variable {S:eI}
def Q4 (P:Program) (ok:Nat→Bool) (s:ae S) (d:Nat) (c:Call){A:Type}(k:ae S→Option A):Option A:=
 none
section
variable {P:Program}{W:List Nat}{s:ae S}{ty:TypeId}{pos:String}{after:Array Edge}{guard:Option (Nat×Bool)}{A:Type}{k:ae S→Option A}{r:A}
theorem BL {st:List (Nat×av)}{h:Nat}{b:av}(hb:ay st h=some b):dF st h b=st:=by
 induction st with
 | nil=>cases hb
 | cons x r ih=>
  obtain⟨y,g⟩:=x;simp only[ay] at hb;simp only[dF];cases hy:Nat.beq y h with
  | true=>rw[hy] at hb;cases hb;rfl
  | false=>rw[hy] at hb;rw[cond_false,ih hb]
theorem VD {ok:Nat→Bool}(hokW:∀h,ok h=true→W.contains h=true){d:Nat}{args:Array Operand}{ts:Array TypeId}(hl:aO s) (h:Q4 P ok s d ⟨.builtin .copy,args,ts⟩ k=some r):
  fE P W s ⟨some d,.call ⟨.builtin .copy,args,ts⟩,ty,pos,after,guard⟩ k r:=by
 unfold Q4 at h;cases h
end
end
end Go.DN
/-
 DN,part Kf:append within an object,clear.
-/
namespace Go.AM
end Go.AM
namespace Go.DN
open Go.AM
section
variable {S:eI}
def YH (s:ae S):List Operand→Bool
 | [x,y]=>match cu s x with
  | some (.sub h _ _ _)=>match cu s y with
   | some (.sub h2 _ _ _)=>Nat.beq h2 h
   | _=>false
  | _=>false
 | _=>false
def Nw (P:Program) (ok:Nat→Bool) (s:ae S) (d:Nat) (c:Call){A:Type}(k:ae S→Option A):Option A:=
 none
def M7 (P:Program) (ok:Nat→Bool) (s:ae S) (c:Call){A:Type}(k:ae S→Option A):Option A:=
 none
section
variable {P:Program}{W:List Nat}{s:ae S}{ty:TypeId}{pos:String}{after:Array Edge}{guard:Option (Nat×Bool)}{A:Type}{k:ae S→Option A}{r:A}
theorem TC {ok:Nat→Bool}(hokW:∀h,ok h=true→W.contains h=true){d:Nat}{args:Array Operand}{ts:Array TypeId}(hl:aO s) (h:Nw P ok s d ⟨.builtin .append,args,ts⟩ k=some r):
  fE P W s ⟨some d,.call ⟨.builtin .append,args,ts⟩,ty,pos,after,guard⟩ k r:=by
 unfold Nw at h;cases h
theorem Tn {ok:Nat→Bool}(hokW:∀h,ok h=true→W.contains h=true){args:Array Operand}{ts:Array TypeId}(hl:aO s) (h:M7 P ok s ⟨.builtin .clear,args,ts⟩ k=some r):
  fE P W s ⟨none,.call ⟨.builtin .clear,args,ts⟩,ty,pos,after,guard⟩ k r:=by
 unfold M7 at h;cases h
end
end
end Go.DN
/-
 DN,part Kg:slices of structs of slices:made;one of the slices is taken out,and put in.
-/
namespace Go.DN
open Go.AM
theorem Af {α β:Type}(f:α→List β){n:Nat}(hn:∀a,(f a).length=n):∀l:List α,(l.flatMap f).length=l.length*n
 | []=>by simp
 | a::l=>by rw[b6,aI,hn,Af f hn l,bL,Nat.succ_mul];omega
section
variable {S:eI}
variable {P:Program}{W:List Nat}{ok:Nat→Bool}{s:ae S}{ty:TypeId}{pos:String}{after:Array Edge}{guard:Option (Nat×Bool)}{A:Type}{k:ae S→Option A}{r:A}
def Xl (S:eI) (P:Program) (t:TypeId):Bool:=match P.underlying t with
 | some (.slice e)=>(S.Z8 e).isSome
 | _=>false
def HX (P:Program) (s:ae S) (d:Nat) (t:TypeId) (x y:Operand){A:Type}(k:ae S→Option A):Option A:=
 none
theorem Qe {d:Nat}{t:TypeId}{x y:Operand}(hl:aO s) (h:HX P s d t x y k=some r):fE P W s ⟨some d,.makeSlice t x y,ty,pos,after,guard⟩ k r:=by
 unfold HX at h;cases h
def H3 (s:ae S) (op:Op):Bool:=match op with
 | .load _ x=>match cu s x with
  | some (.iK h _ _ _)=>Mt s h
  | _=>false
 | _=>false
def HH (P:Program) (ok:Nat→Bool) (s:ae S) (d:Nat) (t:TypeId) (x:Operand){A:Type}(k:ae S→Option A):Option A:=
 none
theorem PM (hokW:∀h,ok h=true→W.contains h=true){d:Nat}{t:TypeId}{x:Operand}(hl:aO s) (h:HH P ok s d t x k=some r):fE P W s ⟨some d,.load t x,ty,pos,after,guard⟩ k r:=by
 unfold HH at h;cases h
def Ls (P:Program) (ok:Nat→Bool) (s:ae S) (t:TypeId) (x y:Operand){A:Type}(k:ae S→Option A):Option A:=
 none
theorem RR (hokW:∀h,ok h=true→W.contains h=true){t:TypeId}{x y:Operand}(hl:aO s) (h:Ls P ok s t x y k=some r):fE P W s ⟨none,.store t x y,ty,pos,after,guard⟩ k r:=by
 unfold Ls at h;cases h
end
end Go.DN
/-
 DN,part Kh:maps are made,get an entry more;a slice of one of the structs grows.
-/
namespace Go.DN
open Go.AM
section
variable {S:eI}
def L5 (P:Program) (s:ae S) (d:Nat) (t:TypeId) (n:Option Operand){A:Type}(k:ae S→Option A):Option A:=
 none
def HZ (P:Program) (ok:Nat→Bool) (s:ae S) (t:TypeId) (x y z:Operand){A:Type}(k:ae S→Option A):Option A:=
 none
def UY (s:ae S):List Operand→Bool
 | [x,_]=>match cu s x with
  | some (.ks h _ _ _)=>match aA s.st h with
   | some (.deep _ _ _ (.map _ _ _) .map _)=>true
   | _=>false
  | _=>false
 | _=>false
def H0 (P:Program) (ok:Nat→Bool) (s:ae S) (d:Nat) (c:Call){A:Type}(k:ae S→Option A):Option A:=
 none
def Xn (s:ae S) (x:Operand):Bool:=match cu s x with
 | some (.kp h _ _ _)=>match aA s.st h with
  | some (.deep _ _ _ (.map _ _ _) .map _)=>true
  | _=>false
 | _=>false
def L9 (P:Program) (ok:Nat→Bool) (s:ae S) (t:TypeId) (x y:Operand){A:Type}(k:ae S→Option A):Option A:=
 none
def Hp:List (TV S)→Bool
 | []=>true
 | .ks _ τ _ _::r=>(match τ with | .st _=>false | _=>true)&&Hp r
 | _::_=>false
def ZT (s:ae S) (parts:List (Nat×Operand)):Bool:=
 match parts with
 | []=>false
 | _=>match yF s parts 0 with
  | some vs=>Hp vs
  | none=>false
def Rb (P:Program) (s:ae S) (d:Nat) (t:TypeId) (n:Nat) (parts:Array (Nat×Operand)){A:Type}(k:ae S→Option A):Option A:=
 match s.free (s.di d) with
 | true=>match P.underlying t with
  | some (.slice e)=>match P.info? e with
   | some i=>match i.zero with
    | some _=>match decEq i.size 1 with
     | isTrue _=>match yF s parts.toList 0 with
      | some (v::vs)=>match v with
       | .ks _ τ _ _=>match Hp (v::vs)&&(Nat.beq (vs.length+1) n&&(Nat.ble n 16777216&&!(TV.has.go (s.di d) (v::vs)))) with
        | true=>k ((s.add (s.di d) (.box e true (v::vs))).put d (.sub (s.di d) (.list τ) 0 n))
        | false=>none
       | _=>none
      | _=>none
     | isFalse _=>none
    | none=>none
   | none=>none
  | _=>none
 | false=>none
section
variable {P:Program}{W:List Nat}{s:ae S}{ty:TypeId}{pos:String}{after:Array Edge}{guard:Option (Nat×Bool)}{A:Type}{k:ae S→Option A}{r:A}
theorem Sq {d:Nat}{t:TypeId}{n:Option Operand}(hl:aO s) (h:L5 P s d t n k=some r):fE P W s ⟨some d,.makeMap t n,ty,pos,after,guard⟩ k r:=by
 unfold L5 at h;cases h
theorem Qh {ok:Nat→Bool}(hokW:∀h,ok h=true→W.contains h=true){t:TypeId}{x y z:Operand}(hl:aO s) (h:HZ P ok s t x y z k=some r):fE P W s ⟨none,.mapUpdate t x y z,ty,pos,after,guard⟩ k r:=by
 unfold HZ at h;cases h
theorem Qi {ok:Nat→Bool}(hokW:∀h,ok h=true→W.contains h=true){d:Nat}{args:Array Operand}{ts:Array TypeId}(hl:aO s) (h:H0 P ok s d ⟨.builtin .append,args,ts⟩ k=some r):
  fE P W s ⟨some d,.call ⟨.builtin .append,args,ts⟩,ty,pos,after,guard⟩ k r:=by
 unfold H0 at h;cases h
theorem Ss {ok:Nat→Bool}(hokW:∀h,ok h=true→W.contains h=true){t:TypeId}{x y:Operand}(hl:aO s) (h:L9 P ok s t x y k=some r):fE P W s ⟨none,.store t x y,ty,pos,after,guard⟩ k r:=by
 unfold L9 at h;cases h
theorem Gh.aax {fr:List (Nat×G)}{r:List (Nat×av)}{df:List G}{h:Nat}{e:TypeId}{p m f:Bool}{n:Nat}{cs:List G}:
  Gh ⟨fr,(h,⟨e,p,m,f,n,cs,none⟩)::r,df⟩ ⟨fr,(h,⟨e,p,m,f,0,cs,none⟩)::r,df⟩:=by
 have hg:∀x k',ay ((h,(⟨e,p,m,f,0,cs,none⟩:av))::r) x=some k'→∃k,ay ((h,(⟨e,p,m,f,n,cs,none⟩:av))::r) x=some k∧(k'=k∨(k'=⟨e,p,m,f,0,cs,none⟩∧k=⟨e,p,m,f,n,cs,none⟩)):=by
  intro x k' hk;simp only[ay] at hk⊢;cases hb:Nat.beq h x with
  | true=>rw[hb] at hk;cases hk;exact⟨_,rfl,.inr ⟨rfl,rfl⟩⟩
  | false=>rw[hb] at hk;exact⟨_,hk,.inl rfl⟩
 refine Gh.of (fun N cx μ a w hr=>?_) fun x k' hk=>let ⟨k,h1,_⟩:=hg x k' hk;⟨k,h1⟩;have hO:∀b,b<w.heap.size→¬cx.O ((h,(⟨e,p,m,f,n,cs,none⟩:av))::r) μ b→¬cx.O ((h,(⟨e,p,m,f,0,cs,none⟩:av))::r) μ b:=fun b _ hn ho=>hn (ho.imp id fun ⟨x,k,c,mm,h1,h2,hi⟩=>let ⟨k0,h3,_⟩:=hg x k h1;⟨x,k0,c,mm,h3,h2,hi⟩);refine {st:={en:=?_,de:=?_,cq:=?_,fD:=?_,fg:=hr.st.fg,hb:=hr.st.hb,os:=hr.st.os,tape:=hr.st.tape,output:=hr.st.output,gl:=hr.st.gl,dq:=hr.st.dq},nd:=hr.nd.mono (Kept.refl _ _) hO,sz:=hr.sz,fr:=fun d g' hg'=>let ⟨v,h1,h2⟩:=hr.fr d g' hg';⟨v,h1,h2.mono (Kept.refl _ _) hO (aG _)⟩}
 ·intro x k' hk;obtain⟨k,h1,h2⟩:=hg x k' hk;have hb:=(hr.st.en x k h1).mono (fun _ _ _ _ _=>rfl) (Kept.refl _ _) hO;rcases h2 with h2 | ⟨h2,h3⟩
  ·rw[h2];exact hb
  ·subst h2;subst h3;cases hm:μ x with
   | none=>rw[hm] at hb;exact hb.yL rfl rfl rfl
   | some bm=>
    obtain⟨b,mm⟩:=bm;rw[hm] at hb;obtain⟨cs,q1,q2,q3,q4,q5,q6⟩:=hb.cells rfl;exact .mk rfl (hb.nf rfl) ⟨cs,q1,q2,q3,q4,fun h0=>absurd rfl h0,q6⟩
 ·intro x x' k1 k2 y b m b' m' h1 h2;obtain⟨k1',h1',_⟩:=hg x k1 h1;obtain⟨k2',h2',_⟩:=hg x' k2 h2;exact hr.st.de x x' k1' k2' y b m b' m' h1' h2'
 ·intro x k1 b m y h1 h2 hi;obtain⟨k,hk,c⟩:=hg x k1 h1;obtain⟨a1,a2,a3,a4⟩:=hr.st.cq x k b m y hk h2 hi;refine⟨a1,a2,a3,fun hm=>a4 ?_⟩;rcases c with c | ⟨c,c'⟩
  ·rw[←c];exact hm
  ·subst c;subst c';exact hm
 ·intro x k1 h1 h2;obtain⟨k1',h1',_⟩:=hg x k1 h1;exact hr.st.fD x k1' h1' h2
theorem Nz (ln:Nat→Nat):∀{vs:List (TV S)},Hp vs=true→rz 1 (TV.er.go ln vs)=true∧(TV.er.go ln vs).flatMap cT=TV.er.go ln vs
 | [],_=>⟨rfl,rfl⟩
 | v::r,h=>by
  unfold Hp at h;split at h
  ·rename_i e;cases e
  ·rename_i τ _ _ r' e;cases e;simp only[af] at h;obtain⟨i1,i2⟩:=Nz ln h.2;simp only[TV.er.go,TV.er,rz,b6,i2];refine⟨?_,rfl⟩;rw[i1];rfl
  ·cases h
theorem VO {d:Nat}{t:TypeId}{n:Nat}{parts:Array (Nat×Operand)}(hl:aO s) (h:Rb P s d t n parts k=some r):fE P W s ⟨some d,.buildSlice t n parts,ty,pos,after,guard⟩ k r:=by
 unfold Rb at h;split at h
 ·rename_i hf;split at h
  ·rename_i e hu;split at h
   ·rename_i i hi;split at h
    ·rename_i z hz;split at h
     ·rename_i hs _;split at h
      ·rename_i v vs hv;split at h
       ·rename_i h0 τ i0 n0;split at h
        ·rename_i hc;simp only[af,aS] at hc;obtain⟨c1,c2,c3,c4⟩:=hc;have c2:=ab c2;have c3:=fK c3;have hinfo:(P.info? e).map (fun i=>(i.zero,i.size,i.bytes))=some (some z,1,i.bytes):=by rw[hi,cd,hz,hs]
         obtain⟨i1,i2⟩:=Nz s.ln c1;obtain⟨e1,_⟩:=pV hf (.box e true (.ks h0 τ i0 n0::vs)) c4;refine .one _ (EF.buildSlice (sz:=1) (z:=z) (bt:=i.bytes) (s.di d) (gs:=TV.er.go s.ln (.ks h0 τ i0 n0::vs)) (BV hv) (by rw[cP,aN,bL,c2]) hu hinfo (by omega) (by omega) i1 (gu hf)) ?_ ((hl.add _ hf).put _ _) ⟨rfl,rfl,rfl⟩ h;rw[iJ,e1,i2];show Gh _ ⟨(d,.aL (s.di d) 1 (0*1) n)::s.er.fr,_,_⟩;exact Gh.aax
        ·cases h
       ·cases h
      ·cases h
     ·cases h
    ·cases h
   ·cases h
  ·cases h
 ·cases h
end
end
end Go.DN
/-
 DN,part Ki:maps of plain data are made;a key gets another value.
-/
namespace Go.DN
open Go.AM
section
variable {S:eI}
def X6 (P:Program) (t:TypeId):Option Nat:=match P.underlying t with
 | some (.map _ _)=>S.ty t
 | _=>none
def X7 (n:Nat):Bool:=match S.cX n with
 | .int .i64::_=>true
 | _=>false
def Dn (st:List (Nat×TO S)) (n0:Nat):Nat→List (TV S)→Option Nat
 | _,[]=>none
 | j,.dX _ hd::r=>match aA st hd with
  | some (.deep _ _ _ (.sm _) (.st n) _)=>bif Nat.beq n n0 then some j else Dn st n0 (j+1) r
  | _=>Dn st n0 (j+1) r
 | j,_::r=>Dn st n0 (j+1) r
def MH (st:List (Nat×TO S)) (n0:Nat):List (Nat×TO S)→Option (Nat×Nat)
 | (h,.box _ _ cs)::r=>match Dn st n0 0 cs with
  | some j=>some (h,j)
  | none=>MH st n0 r
 | _::r=>MH st n0 r
 | []=>none
def TV.xn (hd:Nat):TV S→TV S
 | .dX b h=>match Nat.beq h hd with
  | true=>.any
  | false=>.dX b h
 | v=>v
def Gm (hd:Nat):List (Nat×TV S)→List (Nat×TV S)
 | []=>[]
 | (d,v)::r=>(d,v.xn hd)::Gm hd r
def ae.xn (s:ae S) (hd:Nat):ae S:={s with fr:=Gm hd s.fr,last:=[]}
theorem UQ (hd:Nat) (v:TV S):v.xn hd=v∨v.xn hd=.any:=by
 cases v with
 | dX b h=>
  show(match Nat.beq h hd with | true=>TV.any | false=>.dX b h)=_∨(match Nat.beq h hd with | true=>TV.any | false=>.dX b h)=TV.any;cases Nat.beq h hd with
  | true=>exact .inr rfl
  | false=>exact .inl rfl
 | _=>exact .inl rfl
theorem Gl {hd:Nat}{lo:List (Nat×TV S)}:∀{fr:List (Nat×TV S)}{d:Nat}{v':TV S},bp (Gm hd fr++lo) d=some v'→∃v,bp (fr++lo) d=some v∧(v'=v∨v'=.any)
 | [],_,v',h=>⟨v',h,.inl rfl⟩
 | (k,x)::r,d,v',h=>by
  simp only[Gm,bU,bp] at h⊢;cases hb:Nat.beq k d with
  | true=>
   rw[hb] at h;cases h;exact⟨x,rfl,UQ hd x⟩
  | false=>
   rw[hb] at h;exact Gl h
theorem UR (s:ae S) (hd:Nat):Gh s.er (s.xn hd).er∧aO (s.xn hd)∧bC s (s.xn hd):=by
 refine⟨Gh.gen (fun d g' hg=>?_) (fun x k' hk=>⟨k',hk,wQ.refl _ _ _⟩) rfl,iD rfl,⟨rfl,rfl,rfl⟩⟩;obtain⟨v',h1,rfl⟩:=Ac hg;obtain⟨v,h2,h3⟩:=Gl h1;refine⟨_,fU h2,?_⟩;rcases h3 with rfl | rfl
 ·exact CV.refl _ _ _
 ·exact CV.any _ _ _
def P6 (s:ae S) (h j:Nat){A:Type}(k:Nat→ae S→Option A):Option A:=match aA s.st h with
 | some (.box e m cs)=>match cs[j]? with
  | some (.dX b hd)=>(bj (b=true)).bind fun _=>k hd (mG ((s.set h (.box e m (cs.set j (.val (.map none))))).xn hd) hd)
  | _=>none
 | _=>none
def Qd (P:Program) (s:ae S) (d:Nat) (t:TypeId) (n:Option Operand){A:Type}(k:ae S→Option A):Option A:=
 match n with
 | none=>match X6 (S:=S) P t with
  | some n0=>match S.cX n0 with
   | [.list (.st n)]=>match S.put n0 [⟨.list (.st n),[]⟩] with
    | some a0=>match MH s.st n0 s.st with
     | none=>match s.free (s.di d) with
      | true=>k ((s.add (s.di d) (.deep 0 true true (.sm (X7 (S:=S) n)) (.st n0) a0)).put d (.mp (s.di d)))
      | false=>none
     | some (h,j)=>P6 s h j fun hd u=>match u.free hd with
      | true=>k ((u.add hd (.deep 0 true true (.sm (X7 (S:=S) n)) (.st n0) a0)).put d (.mp hd))
      | false=>none
    | none=>none
   | _=>none
  | none=>none
 | some _=>none
def Lj (i:Bool) (n:Nat) (l:List (S.α n)) (k:KK i) (a:S.α n):List (S.α n):=
 bif List.any l (fun b=>Eh i k (S.cells n b)) then List.map (fun b=>bif Eh i k (S.cells n b) then a else b) l else l++[a]
def Yz:(i:Bool)→KK i→bn S.α
 | true,k=>⟨.int .i64,k⟩
 | false,k=>⟨.str,k⟩
def PV (P:Program) (ok:Nat→Bool) (s:ae S) (t:TypeId) (h:Nat) (y z:Operand){A:Type}(k:ae S→Option A):Option A:=
 match ok h with
 | true=>match aA s.st h with
  | some (.deep e m f (.sm i) (.st n0) a0)=>match S.cells n0 a0 with
   | [⟨.list (.st n),l⟩]=>match cu s y,cu s z with
    | some vy,some (.aD _ (.int q) v)=>match Qt i vy with
     | some ky=>match P.underlying t with
      | some (.map kt et)=>match Wi P i kt with
       | true=>match S.cX n with
        | [τk,.int q']=>match decEq τk (OP i),decide (q'=q) with
         | isTrue _,true=>match S.put n [Yz i ky,⟨.int q,v⟩] with
          | some a=>match S.put n0 [⟨.list (.st n),Lj i n l ky a⟩] with
           | some a1=>k (s.set h (.deep e m f (.sm i) (.st n0) a1))
           | none=>none
          | none=>none
         | _,_=>none
        | _=>none
       | false=>none
      | _=>none
     | none=>none
    | _,_=>none
   | _=>none
  | _=>none
 | false=>none
def HY (P:Program) (ok:Nat→Bool) (s:ae S) (t:TypeId) (x y z:Operand){A:Type}(k:ae S→Option A):Option A:=
 match cu s x with
 | some (.mp h)=>PV P ok s t h y z k
 | some (.dX b h)=>(bj (b=false)).bind fun _=>PV P ok s t h y z k
 | _=>none
theorem zu {i:Bool}{n0 n:Nat}{a0:S.α n0}{l:List (S.α n)}(h:S.cells n0 a0=[⟨.list (.st n),l⟩]):qK (S:=S) i (.st n0) a0=List.map (fun a=>rn i (S.cells n a)) l:=by
 show(match S.cells n0 a0 with | [⟨.list (.st n),l⟩]=>List.map (fun a=>rn i (S.cells n a)) l | _=>[])=_;rw[h]
theorem T8 {n:Nat}{i:Bool}{q:IntKind}(ht:S.cX n=[OP i,.int q]){k:KK i}{v:Int}{a:S.α n}(ha:S.cells n a=[Yz i k,⟨.int q,v⟩]) (l:List (S.α n)):
  List.map (fun a=>rn i (S.cells n a)) (Lj i n l k a)=lS (List.map (fun a=>rn i (S.cells n a)) l) k (.val (.int q v)):=by
 have ea:rn i (S.cells n a)=(k,.val (.int q v)):=by rw[ha];cases i <;> rfl
 have e2:∀b:S.α n,Eh i k (S.cells n b)=decide ((rn i (S.cells n b)).1=k):=fun b=>by
  obtain⟨x,u,h1,h2,_⟩:=Cw ht b;rw[h1,h2]
 have e3:List.any l (fun b=>Eh i k (S.cells n b))=rU (List.map (fun a=>rn i (S.cells n a)) l) k:=by
  unfold rU;rw[List.any_map];congr 1;funext b;exact e2 b
 unfold Lj lS;rw[e3];cases rU (List.map (fun a=>rn i (S.cells n a)) l) k with
 | true=>
  rw[cond_true,cond_true,iO,iO];refine fh fun b _=>?_;show rn i (S.cells n (bif Eh i k (S.cells n b) then a else b))=bif decide ((rn i (S.cells n b)).1=k) then(k,.val (.int q v)) else rn i (S.cells n b);rw[e2 b];cases decide ((rn i (S.cells n b)).1=k) with
  | true=>exact ea
  | false=>rfl
 | false=>
  rw[cond_false,cond_false,dW];show _++[rn i (S.cells n a)]=_;rw[ea]
end
section
variable {S:eI}{P:Program}{W:List Nat}{s:ae S}{ty:TypeId}{pos:String}{after:Array Edge}{guard:Option (Nat×Bool)}{A:Type}{k:ae S→Option A}{r:A}
theorem Uw {h j:Nat}{k:Nat→ae S→Option A}(hl:aO s) (hx:P6 s h j k=some r):∃hd u,Gh s.er u.er∧aO u∧bC s u∧k hd u=some r:=by
 unfold P6 at hx;split at hx
 ·rename_i e m cs ho;split at hx
  ·rename_i b hd hj;obtain⟨_,hc,hx⟩:=bind_some hx;have hb:=cD hc;subst hb;obtain⟨g1,_⟩:=pu (o':=.box e m (cs.set j (.val (.map none)))) ho rfl;have e4:TV.er.go s.ln (cs.set j (.val (.map none)))=TV.er.go s.ln cs:=by
    rw[cP,nP,cP];apply du;intro q;rw[dN];split
    ·rename_i hq;subst hq;rw[ak,hj];split
     ·rfl
     ·rename_i hlt;have:=(ai.1 hj).1;rw[aN] at hlt;exact absurd this hlt
    ·rfl
   have e3:(TO.box e m (cs.set j (.val (.map none))):TO S).er s.ln=(TO.box e m cs:TO S).er s.ln:=by
    show av.mk _ _ _ _ _ _ _=av.mk _ _ _ _ _ _ _;rw[e4]
   have hs:(s.set h (.box e m (cs.set j (.val (.map none))))).er=s.er:=by
    rw[g1,e3];have:dF s.er.st h ((TO.box e m cs:TO S).er s.ln)=s.er.st:=BL (eB (fR ho));rw[this]
   obtain⟨y1,y2,y3⟩:=UR (s.set h (.box e m (cs.set j (.val (.map none))))) hd;obtain⟨z1,z2,z3⟩:=wj hd y2;rw[hs] at y1;exact⟨_,_,y1.trans z1,z2,⟨z3.lo.trans y3.lo,z3.bN.trans y3.bN,z3.df.trans y3.df⟩,hx⟩
  ·cases hx
 ·cases hx
theorem L4 {d hd n0 n:Nat}{i:Bool}{a0:S.α n0}{t:TypeId}(hl:aO s) (hf:s.free hd=true) (ha:S.cells n0 a0=[⟨.list (.st n),[]⟩]) (h:k ((s.add hd (.deep 0 true true (.sm i) (.st n0) a0)).put d (.mp hd))=some r):fE P W s ⟨some d,.makeMap t none,ty,pos,after,guard⟩ k r:=by
 obtain⟨e1,_⟩:=pV hf (.deep 0 true true (.sm i) (.st n0) a0) rfl;refine .one _ (EF.aai hd (xk i) (gu hf)) ?_ ((hl.add _ hf).put _ _) ⟨rfl,rfl,rfl⟩ h;have hb:(TO.deep 0 true true (.sm i) (.st n0) a0:TO S).er (s.ln)=N6 (xk i):=by
  show(⟨0,true,true,true,1,[],some (.deep (xR (xk i) (qK (S:=S) i (.st n0) a0)))⟩:av)=_;rw[zu ha];rfl
 rw[iJ,e1]
 first
 | (rw[hb];exact Gh.refl _)
 | exact Gh.refl _
theorem UB {d:Nat}{t:TypeId}{n:Option Operand}(hl:aO s) (h:Qd P s d t n k=some r):fE P W s ⟨some d,.makeMap t n,ty,pos,after,guard⟩ k r:=by
 unfold Qd at h;split at h
 ·split at h
  ·split at h
   ·split at h
    ·rename_i a0 ha;split at h
     ·split at h
      ·rename_i hf;exact L4 hl hf (S.gZ _ _ a0 ha) h
      ·cases h
     ·obtain⟨hd,u,z1,z2,z3,h⟩:=Uw hl h;split at h
      ·rename_i hf;exact fE.gh z1 z3 (L4 z2 hf (S.gZ _ _ a0 ha) h)
      ·cases h
    ·cases h
   ·cases h
  ·cases h
 ·cases h
theorem Oi {ok:Nat→Bool}(hokW:∀h,ok h=true→W.contains h=true){t:TypeId}{hh:Nat}{x y z:Operand}(hl:aO s) (hx:ev s.er x=some (.eN hh)) (h:PV P ok s t hh y z k=some r):fE P W s ⟨none,.mapUpdate t x y z,ty,pos,after,guard⟩ k r:=by
 unfold PV at h;split at h
 ·rename_i hW;split at h
  ·rename_i e m f i n0 a0 ho;split at h
   ·rename_i n l hcell;split at h
    ·rename_i vy f2 q v hy hz;split at h
     ·rename_i ky hky;split at h
      ·rename_i kt et hu;split at h
       ·rename_i hkd;split at h
        ·rename_i τk q' ht;split at h
         ·rename_i hτ _ hq;have hq:=of_decide_eq_true hq;subst hq;subst hτ;split at h
          ·rename_i a ha;split at h
           ·rename_i a1 ha1;obtain⟨e2,e3⟩:=pu (s:=s) (o':=.deep e m f (.sm i) (.st n0) a1) ho rfl;have hyv:ev s.er y=some (.val (xk i ky)):=by rw[bh hy,OS hky]
            have:=EF.lS (P:=P) (W:=W) (ty:=ty) (pos:=pos) (after:=after) (guard:=guard) (s:=s.er) (key:=xk i) (ky:=ky) (v:=.int q' v) (es:=qK (S:=S) i (.st n0) a0) hx hyv (jY hz) (eB (fR ho)) rfl hu (Mo hkd) (hokW _ hW);refine .one _ this ?_ (hl.set ho _) ⟨rfl,rfl,rfl⟩ h;have hb:qK (S:=S) i (.st n0) a1=lS (qK (S:=S) i (.st n0) a0) ky (.val (.int q' v)):=by
             rw[zu (S.gZ n0 _ a1 ha1),zu hcell,T8 ht (S.gZ n _ a ha)]
            rw[e2];show Gh _ ⟨_,dF _ _ ⟨e,true,m,f,1,[],some (.deep (xR (xk i) (qK (S:=S) i (.st n0) a1)))⟩,_⟩;rw[hb];exact Gh.refl _
           ·cases h
          ·cases h
         ·cases h
        ·cases h
       ·cases h
      ·cases h
     ·cases h
    ·cases h
   ·cases h
  ·cases h
 ·cases h
theorem Qg {ok:Nat→Bool}(hokW:∀h,ok h=true→W.contains h=true){t:TypeId}{x y z:Operand}(hl:aO s) (h:HY P ok s t x y z k=some r):fE P W s ⟨none,.mapUpdate t x y z,ty,pos,after,guard⟩ k r:=by
 unfold HY at h;split at h
 ·rename_i hx;exact Oi hokW hl (bh hx) h
 ·rename_i b hh hx;obtain⟨_,hc,h⟩:=bind_some h;obtain rfl:=cD hc;exact Oi hokW hl (bh hx) h
 ·cases h
end
end Go.DN
/-
 DN,part L:regions.
-/
namespace Go.DN
open Go.AM
section
variable {S:eI}
def yP (s:ae S) (c:Call):Bool:=
 match c.callee with
 | .value x=>match cu s x with
  | some (.cW _)=>true
  | _=>false
 | _=>false
def X2 (s:ae S):Op→Option Call
 | .call c=>match yP s c with
  | true=>some c
  | false=>none
 | _=>none
def XA (s:ae S):List (Nat×Operand)→Bool
 | [(_,x)]=>match cu s x with
  | some (.aL h τ)=>match τ.iR with
   | true=>match aA s.st h with
    | some (.arr _ m _ _ _)=>m
    | _=>false
   | false=>false
  | _=>false
 | _=>false
def GZ (s:ae S):List Operand→List Nat
 | []=>[]
 | x::r=>match cu s x with
  | some (.aL h _)=>match Mw s h with
   | true=>h::GZ s r
   | false=>GZ s r
  | _=>GZ s r
def WK (s:ae S) (x:Operand):Bool:=match cu s x with
 | some (.loc h off)=>match aA s.st h with
  | some (.box _ _ cs)=>match cs[off]? with
   | some (.sub _ _ _ _)=>true
   | _=>false
  | _=>false
 | _=>false
noncomputable def Ti (P:Program) (ok:Nat→Bool){A:Type}(cl:ae S→Option Nat→Call→(ae S→Option A)→Option A) (s:ae S) (dst:Option Nat) (op:Op) (k:ae S→Option A):Option A:=
 match dst with
 | some d=>match op with
  | .box t x=>VQ s d t x k
  | .alloc t=>Ny P s d t k
  | .makeSlice t x y=>match Xl S P t with
   | true=>HX P s d t x y k
   | false=>Gd P s d t x y k
  | .load t x=>HH P ok s d t x k
  | .makeMap t n=>match (X6 (S:=S) P t).isSome with
   | true=>Qd P s d t n k
   | false=>L5 P s d t n k
  | .buildSlice t n parts=>match S.wq&&XA s parts.toList with
   | true=>Ih P ok s d t n parts k
   | false=>match ZT s parts.toList with
    | true=>Rb P s d t n parts k
    | false=>match sv (P3 s (parts.toList.map (·.2))) s with
    | some s'=>VP P s' d t n parts k
    | none=>none
  | .binOp op t x y _=>Ux P s d op t x y k
  | .call c=>match c.callee with
   | .builtin .append=>match c.args.toList with
    | x::r=>match YH s (x::r) with
     | true=>Nw P ok s d c k
     | false=>match UY s (x::r) with
      | true=>H0 P ok s d c k
      | false=>match GZ s [x] with
      | []=>match sv (GZ s r) s with
       | some s=>Bw s x fun s'=>VZ P ok s' d c k
       | none=>none
      | _=>Ii P ok s d c k
    | []=>none
   | .builtin .copy=>Q4 P ok s d c k
   | .value _=>match yP s c with
    | true=>none
    | false=>cl s (some d) c k
   | _=>none
  | _=>none
 | none=>match op with
  | .store t x y=>match cu s x with
   | some (.iK h _ _ _)=>match Mw s h with
    | true=>match Mt s h with
     | true=>Ls P ok s t x y k
     | false=>MI P ok s t x y k
    | false=>match sv (P3 s [y]) s with
     | some s'=>BK P ok s' t x y k
     | none=>none
   | _=>match Xn s x with
    | true=>L9 P ok s t x y k
    | false=>match WK s x with
     | true=>BK P ok s t x y k
     | false=>Bw s y fun s'=>BK P ok s' t x y k
  | .mapUpdate t x y z=>match X5 s x with
   | true=>HY P ok s t x y z k
   | false=>HZ P ok s t x y z k
  | .call c=>match c.callee with
   | .builtin .clear=>M7 P ok s c k
   | .value _=>match yP s c with
    | true=>none
    | false=>cl s none c k
   | _=>none
  | _=>none
def Mv:Op→Bool
 | .box _ _=>true
 | .alloc _=>true
 | .makeSlice _ _ _=>true
 | .buildSlice _ _ _=>true
 | .store _ _ _=>true
 | .makeMap _ _=>true
 | .mapUpdate _ _ _ _=>true
 | .binOp op _ _ y _=>match op with
  | .eql=>match y with
   | .const (.slice none 0 0)=>true
   | _=>false
  | .neq=>match y with
   | .const (.slice none 0 0)=>true
   | _=>false
  | _=>false
 | .call c=>match c.callee with
  | .builtin .append=>true
  | .builtin .copy=>true
  | .builtin .clear=>true
  | .value _=>true
  | _=>false
 | _=>false
def aal:Op→Bool
 | .load _ _=>true
 | .lookup _ _ _ _=>true
 | _=>false
def aam (s:ae S):Op→Bool
 | .convert _ _ x=>match cu s x with
  | some (.aL _ (.int .u8))=>true
  | _=>false
 | _=>false
def Gr (s:ae S) (op:Op):Bool:=aal op||aam s op
def sB (N:Nat):Option Nat→Bool
 | some d=>Nat.blt d N
 | none=>true
def Qw (s:ae S) (op:Op):Bool:=Mv op||H3 s op
noncomputable def Sf (P:Program) (N:Nat) (ok:Nat→Bool){A:Type}(cl:ae S→Option Nat→Call→(ae S→Option A)→Option A) (s:ae S) (o:Oper) (k:ae S→Option A):Option A:=
 match sB N o.dst with
 | true=>match Qw s o.op with
  | true=>Ti P ok cl s o.dst o.op k
  | false=>match o.dst with
   | some d=>match Gr s o.op with
    | true=>N0 P [] s o.op fun v=>k (s.put d v)
    | false=>R2 P s o.op fun v x=>k (s.Er d v x)
   | none=>none
 | false=>none
def p5 (N:Nat) (s:ae S) (o:Oper):Option (ae S):=
 match o.dst with
 | some d=>match Nat.blt d N with
  | true=>some (s.put d (.bB []))
  | false=>none
 | none=>some {s with fr:=s.fr}
noncomputable def rZ (P:Program) (N:Nat) (ok:Nat→Bool) (ops:List Oper){A:Type}(cl:ae S→Option Nat→Call→(ae S→Option A)→Option A):List Oper→ae S→(ae S→Option A)→Option A
 | [],s,k=>k s
 | o::r,s,k=>match o.guard with
  | none=>match X2 s o.op with
   | some c=>cl s o.dst c fun s'=>rZ P N ok ops cl r s' k
   | none=>Sf P N ok cl s o fun s'=>rZ P N ok ops cl r s' k
  | some (j,want)=>match ops[j]? with
   | some oj=>match oj.dst with
    | some d=>match bp s.ca d with
     | some (.aD _ .bool b)=>match want with
      | true=>cond b (Sf P N ok cl (s.put d (.aD true .bool true)) o fun s'=>rZ P N ok ops cl r s' k)
       (match p5 N (s.put d (.aD true .bool false)) o with | some s'=>rZ P N ok ops cl r s' k | none=>none)
      | false=>cond b (match p5 N (s.put d (.aD true .bool true)) o with | some s'=>rZ P N ok ops cl r s' k | none=>none)
       (Sf P N ok cl (s.put d (.aD true .bool false)) o fun s'=>rZ P N ok ops cl r s' k)
     | some (.bB [])=>match p5 N s o with
      | some s'=>rZ P N ok ops cl r s' k
      | none=>none
     | _=>none
    | none=>none
   | none=>none
section
variable {P:Program}{N:Nat}{cx:Cx}{Q:Exit→St→Prop}{W:List Nat}{ok:Nat→Bool}{A:Type}{cl:ae S→Option Nat→Call→(ae S→Option A)→Option A}{r:A}
def Rj (P:Program) (W:List Nat) (s:ae S) (o:Oper){A:Type}(k:ae S→Option A) (kp:List PanicEntry→ae S→Option A) (r:A):Prop:=
 ∃(T:St→Prop) (Tp:List PanicEntry→St→Prop),nH P W s.er o T Tp∧(∀s',T s'→∃t:ae S,Gh s' t.er∧aO t∧bC s t∧k t=some r)∧∀ch s',Tp ch s'→∃t:ae S,Gh s' t.er∧aO t∧bC s t∧kp ch t=some r
theorem fE.p {s:ae S}{o:Oper}{k:ae S→Option A}{kp:List PanicEntry→ae S→Option A}(h:fE P W s o k r):Rj P W s o k kp r:=
 let ⟨T,h1,h2⟩:=h
 ⟨T,_,h1.p,h2,fun _ _ h=>h.elim⟩
theorem nH.tell {s:St}{o:Oper}{T:St→Prop}{Tp Tp':List PanicEntry→St→Prop}(h:nH P W s o T Tp) (ht:∀ch s',Tp ch s'→∃t,Gh s' t∧Tp' ch t):nH P W s o T Tp':=
 ⟨h.1,fun N cx μ a w hr hN K Q hK hp=>h.2 N cx μ a w hr hN K Q hK fun ch μ' s' w' hr' hT=>by
  obtain⟨t,h1,h2⟩:=ht ch s' hT;obtain⟨μ2,h3,_⟩:=h1 N cx μ' a w' hr';exact hp ch μ2 t w' h3 h2⟩
def CU (P:Program) (N:Nat) (W:List Nat){A:Type}(cl:ae S→Option Nat→Call→(ae S→Option A)→Option A) (kp:List PanicEntry→ae S→Option A) (r:A):Prop:=
 ∀(s:ae S) (dst:Option Nat) (c:Call) (k:ae S→Option A),aO s→yP s c=false→cl s dst c k=some r→∀(ty:TypeId) (pos:String) (after:Array Edge) (guard:Option (Nat×Bool)),Rj P W s ⟨dst,.call c,ty,pos,after,guard⟩ k kp r
def KS (P:Program) (N:Nat) (W:List Nat){A:Type}(cl:ae S→Option Nat→Call→(ae S→Option A)→Option A) (r:A):Prop:=
 ∀(s:ae S) (dst:Option Nat) (c:Call) (k:ae S→Option A),aO s→yP s c=false→cl s dst c k=some r→∀(ty:TypeId) (pos:String) (after:Array Edge) (guard:Option (Nat×Bool)),fE P W s ⟨dst,.call c,ty,pos,after,guard⟩ k r
theorem KS.p {kp:List PanicEntry→ae S→Option A}(h:KS P N W cl r):CU P N W cl kp r:=fun s dst c k a b d ty pos after guard=>(h s dst c k a b d ty pos after guard).p
def V2 (P:Program) (N:Nat){A:Type}(cl:ae S→Option Nat→Call→(ae S→Option A)→Option A) (r:A):Prop:=
 ∀(cx:Cx) (s:ae S) (dst:Option Nat) (c:Call) (k:ae S→Option A),aO s→yP s c=true→cl s dst c k=some r→∀(ty:TypeId) (pos:String) (after:Array Edge) (ops:Array Oper) (rest:List Oper) (Q:Exit→St→Prop),
  (∀t:ae S,aO t→bC s t→k t=some r→GL P N cx ops Q rest t.er)→GL P N cx ops Q (⟨dst,.call c,ty,pos,after,none⟩::rest) s.er
theorem TM {s:ae S}{op:Op}{c:Call}(h:X2 s op=some c):op=.call c∧yP s c=true:=by
 unfold X2 at h;split at h
 ·split at h
  ·rename_i hy;cases h;exact⟨rfl,hy⟩
  ·cases h
 ·cases h
theorem MS (hokW:∀h,ok h=true→W.contains h=true){kp:List PanicEntry→ae S→Option A}(hcl:CU P N W cl kp r){s:ae S}{o:Oper}{k:ae S→Option A}(hl:aO s) (h:Ti P ok cl s o.dst o.op k=some r):Rj P W s o k kp r:=by
 obtain⟨dst,op,ty,pos,after,guard⟩:=o;unfold Ti at h;dsimp only at h;split at h
 ·split at h
  ·exact(XO hl h).p
  ·exact(TD hl h).p
  ·split at h
   ·exact(Qe hl h).p
   ·exact(UD hl h).p
  ·exact(PM hokW hl h).p
  ·split at h
   ·exact(UB hl h).p
   ·exact(Sq hl h).p
  ·split at h
   ·exact(QK hokW hl h).p
   ·split at h
    ·exact(VO hl h).p
    ·split at h
     ·rename_i s' hz;obtain⟨a1,a2,a3⟩:=oc hl hz;exact(fE.gh a1 a3 (XN a2 h)).p
     ·cases h
  ·exact(Xe hl h).p
  ·rename_i c;obtain⟨cal,args,ts⟩:=c;dsimp only at h;split at h
   ·split at h
    ·split at h
     ·exact(TC hokW hl h).p
     ·split at h
      ·exact(Qi hokW hl h).p
      ·split at h
       ·split at h
        ·rename_i s1 hz;obtain⟨b1,b2,b3⟩:=oc hl hz;obtain⟨t,a1,a2,a3,a4⟩:=Bv b2 h;exact(fE.gh b1 b3 (fE.gh a1 a3 (XY hokW a2 a4))).p
        ·cases h
       ·exact(QM hokW hl h).p
    ·cases h
   ·exact(VD hokW hl h).p
   ·split at h
    ·cases h
    ·rename_i hy;exact hcl _ _ _ _ hl hy h _ _ _ _
   ·cases h
  ·cases h
 ·split at h
  ·split at h
   ·split at h
    ·split at h
     ·exact(RR hokW hl h).p
     ·exact(S8 hokW hl h).p
    ·split at h
     ·rename_i s' hz;obtain⟨a1,a2,a3⟩:=oc hl hz;exact(fE.gh a1 a3 (Bz hokW a2 h)).p
     ·cases h
   ·split at h
    ·exact(Ss hokW hl h).p
    ·split at h
     ·exact(Bz hokW hl h).p
     ·obtain⟨t,a1,a2,a3,a4⟩:=Bv hl h;exact(fE.gh a1 a3 (Bz hokW a2 a4)).p
  ·split at h
   ·exact(Qg hokW hl h).p
   ·exact(Qh hokW hl h).p
  ·rename_i c;obtain⟨cal,args,ts⟩:=c;dsimp only at h;split at h
   ·exact(Tn hokW hl h).p
   ·split at h
    ·cases h
    ·rename_i hy;exact hcl _ _ _ _ hl hy h _ _ _ _
   ·cases h
  ·cases h
theorem LS (hokW:∀h,ok h=true→W.contains h=true){kp:List PanicEntry→ae S→Option A}(hcl:CU P N W cl kp r){s:ae S}{ops:Array Oper}{rest:List Oper}{o:Oper}{k:ae S→Option A}(hl:aO s) (hw:ej ops s.er o.guard=some true)
  (h:Sf P N ok cl s o k=some r) (hk:∀t:ae S,aO t→bC s t→k t=some r→GL P N cx ops Q rest t.er)
  (hkp:∀ch (t:ae S),aO t→bC s t→kp ch t=some r→∃u,Gh t.er u∧Q (.panic ch) u):GL P N cx ops Q (o::rest) s.er:=by
 unfold Sf at h;split at h
 ·rename_i hd;split at h
  ·obtain⟨T,Tp,he,hT,hTp⟩:=MS hokW hcl hl h;refine GL.XD (Tp:=fun ch u=>Q (.panic ch) u) hw (fun d e=>?_) (nH.tell he fun ch s' ht=>?_) (fun s' ht=>?_) fun _ _ h=>h
   ·rw[e] at hd;simpa[sB,gG] using hd
   ·obtain⟨t,h1,h2,h3,h4⟩:=hTp ch s' ht;obtain⟨u,h5,h6⟩:=hkp ch t h2 h3 h4;exact⟨u,h1.trans h5,h6⟩
   ·obtain⟨t,h1,h2,h3,h4⟩:=hT s' ht;exact GL.gh h1 (hk t h2 h3 h4)
  ·split at h
   ·rename_i d e;obtain⟨dst,op,ty,pos,after,guard⟩:=o;dsimp only at e h hd;subst e;have hN:d<N:=by simpa[sB,gG] using hd
    split at h
    ·obtain⟨v,h1,h2⟩:=FE (dst:=some d) (ty:=ty) (pos:=pos) (after:=after) (guard:=guard) hl h;exact GL.yield hw rfl hN h1 (hk _ (hl.put d v) ⟨rfl,rfl,rfl⟩ h2)
    ·obtain⟨v,x,h1,h2,h3⟩:=LB (dst:=some d) (ty:=ty) (pos:=pos) (after:=after) (guard:=guard) h;refine GL.yield hw rfl hN (h1.yield []) ?_;rw[←HM s d v x];exact hk _ (HL hl d h2) (uj s d v x) h3
   ·cases h
 ·cases h
theorem Ej {s t:ae S}{ops:Array Oper}{rest:List Oper}{o:Oper}(hl:aO s) (hw:ej ops s.er o.guard=some false) (h:p5 N s o=some t) (hk:aO t→bC s t→GL P N cx ops Q rest t.er):GL P N cx ops Q (o::rest) s.er:=by
 unfold p5 at h;obtain⟨dst,op,ty,pos,after,guard⟩:=o;dsimp only at h;split at h
 ·split at h
  ·rename_i hN;cases h;exact GL.aaA hw hN (hk (hl.put _ _) ⟨rfl,rfl,rfl⟩)
  ·cases h
 ·cases h;refine GL.pass hw ?_;exact hk hl ⟨rfl,rfl,rfl⟩
theorem wZ {ops:List Oper}{s:ae S}{j d:Nat}{want b:Bool}{oj:Oper}(h1:ops[j]?=some oj) (h2:oj.dst=some d) (h3:bp s.ca d=some (.aD true .bool b)):ej ops.toArray s.er (some (j,want))=some (b==want):=by
 have:get s.er.fr d=some (.val (.bool b)):=by rw[show get s.er.fr d=_ from fU h3];exact congrArg some (ic true b)
 simp[ej,h1,h2,this]
theorem Ro {ops:List Oper}{s:ae S}{j d:Nat}{want:Bool}{oj:Oper}(h1:ops[j]?=some oj) (h2:oj.dst=some d) (h3:bp s.ca d=some (.bB [])):ej ops.toArray s.er (some (j,want))=some false:=by
 have:get s.er.fr d=some (.bB []):=by rw[show get s.er.fr d=_ from fU h3];rfl
 simp[ej,h1,h2,this]
theorem Gg {s:ae S}{ops:Array Oper}{rest:List Oper}{d:Nat}{f b v:Bool}(h:bp s.ca d=some (.aD f .bool b)) (hb:b=v) (hk:GL P N cx ops Q rest (s.put d (.aD true .bool v)).er):GL P N cx ops Q rest s.er:=by
 refine GL.lit d (b:=b) (v:=v) ?_ hb ?_
 ·rw[show get s.er.fr d=_ from fU h];exact congrArg some (ic f b)
 ·rw[iJ] at hk;have e:(TV.aD true .bool v:TV S).er s.ln=.val (.bool v):=ic true v;rw[e] at hk;exact hk
theorem ry (hokW:∀h,ok h=true→W.contains h=true){kp:List PanicEntry→ae S→Option A}(hcl:CU P N W cl kp r) (hyl:V2 P N cl r){ops:List Oper}:∀{rest:List Oper}{s:ae S}{k:ae S→Option A},aO s→rZ P N ok ops cl rest s k=some r→
  (∀t:ae S,aO t→bC s t→k t=some r→Q .normal t.er)→(∀ch (t:ae S),aO t→bC s t→kp ch t=some r→∃u,Gh t.er u∧Q (.panic ch) u)→GL P N cx ops.toArray Q rest s.er
 | [],s,k,hl,h,hk,_=>GL.nil (hk s hl (bC.refl s) h)
 | o::rest,s,k,hl,h,hk,hkp=>by
  simp only[rZ] at h;split at h
  ·rename_i hg;split at h
   ·rename_i c hc;obtain⟨e1,e2⟩:=TM hc;obtain⟨dst,op,ty,pos,after,guard⟩:=o;dsimp only at hg e1 h;subst hg;subst e1;exact hyl cx s dst c _ hl e2 h ty pos after _ _ _ fun t hl' hkp' h'=>ry hokW hcl hyl hl' h' (fun t2 a1 a2 a3=>hk t2 a1 (bC.trans ⟨hkp'.lo,hkp'.bN,hkp'.df⟩ a2) a3) fun ch t2 a1 a2 a3=>hkp ch t2 a1 (bC.trans ⟨hkp'.lo,hkp'.bN,hkp'.df⟩ a2) a3
   exact LS hokW hcl hl (by rw[hg];rfl) h (fun t hl' hkp' h'=>ry hokW hcl hyl hl' h' (fun t2 a1 a2 a3=>hk t2 a1 (bC.trans ⟨hkp'.lo,hkp'.bN,hkp'.df⟩ a2) a3) fun ch t2 a1 a2 a3=>hkp ch t2 a1 (bC.trans ⟨hkp'.lo,hkp'.bN,hkp'.df⟩ a2) a3) hkp
  ·rename_i j want hg;split at h
   ·rename_i oj hj;split at h
    ·rename_i d hd;split at h
     ·rename_i f b hb;have hlt:=fun v=>aO.put hl d (.aD true .bool v:TV S);have ht:∀v,bp (s.put d (.aD true .bool v)).ca d=some (.aD true .bool v):=fun v=>by simp only[ae.put,ae.ca,bU,bp,aW,cond_true]
      split at h
      ·cases hbv:b with
       | true=>
        rw[hbv] at h;refine Gg hb hbv (LS hokW hcl (hlt true) ?_ h (fun t hl' hkp' h'=>ry hokW hcl hyl hl' h' (fun t2 a1 a2 a3=>hk t2 a1 (bC.trans ⟨hkp'.lo,hkp'.bN,hkp'.df⟩ a2) a3) fun ch t2 a1 a2 a3=>hkp ch t2 a1 (bC.trans ⟨hkp'.lo,hkp'.bN,hkp'.df⟩ a2) a3) fun ch t2 a1 a2 a3=>hkp ch t2 a1 ⟨a2.lo,a2.bN,a2.df⟩ a3);rw[hg,wZ hj hd (ht true)];rfl
       | false=>
        rw[hbv] at h;dsimp only[cond_false] at h;refine Gg hb hbv ?_;split at h
        ·rename_i s' hs;exact Ej (hlt false) (by rw[hg,wZ hj hd (ht false)];rfl) hs fun hl' hkp'=>ry hokW hcl hyl hl' h (fun t2 a1 a2 a3=>hk t2 a1 (bC.trans ⟨hkp'.lo,hkp'.bN,hkp'.df⟩ a2) a3) fun ch t2 a1 a2 a3=>hkp ch t2 a1 (bC.trans ⟨hkp'.lo,hkp'.bN,hkp'.df⟩ a2) a3
        ·cases h
      ·cases hbv:b with
       | true=>
        rw[hbv] at h;dsimp only[cond_true] at h;refine Gg hb hbv ?_;split at h
        ·rename_i s' hs;exact Ej (hlt true) (by rw[hg,wZ hj hd (ht true)];rfl) hs fun hl' hkp'=>ry hokW hcl hyl hl' h (fun t2 a1 a2 a3=>hk t2 a1 (bC.trans ⟨hkp'.lo,hkp'.bN,hkp'.df⟩ a2) a3) fun ch t2 a1 a2 a3=>hkp ch t2 a1 (bC.trans ⟨hkp'.lo,hkp'.bN,hkp'.df⟩ a2) a3
        ·cases h
       | false=>
        rw[hbv] at h;refine Gg hb hbv (LS hokW hcl (hlt false) ?_ h (fun t hl' hkp' h'=>ry hokW hcl hyl hl' h' (fun t2 a1 a2 a3=>hk t2 a1 (bC.trans ⟨hkp'.lo,hkp'.bN,hkp'.df⟩ a2) a3) fun ch t2 a1 a2 a3=>hkp ch t2 a1 (bC.trans ⟨hkp'.lo,hkp'.bN,hkp'.df⟩ a2) a3) fun ch t2 a1 a2 a3=>hkp ch t2 a1 ⟨a2.lo,a2.bN,a2.df⟩ a3);rw[hg,wZ hj hd (ht false)];rfl
     ·rename_i hb;split at h
      ·rename_i s' hs;exact Ej hl (by rw[hg,Ro hj hd hb]) hs fun hl' hkp'=>ry hokW hcl hyl hl' h (fun t2 a1 a2 a3=>hk t2 a1 (bC.trans ⟨hkp'.lo,hkp'.bN,hkp'.df⟩ a2) a3) fun ch t2 a1 a2 a3=>hkp ch t2 a1 (bC.trans ⟨hkp'.lo,hkp'.bN,hkp'.df⟩ a2) a3
      ·cases h
     ·cases h
    ·cases h
   ·cases h
end
end
end Go.DN
/-
 DN,part M:regions that draw their order.
-/
namespace Go.DN
open Go.AM
section
variable {S:eI}
def sc (s:ae S):List Operand→Bool
 | []=>false
 | x::r=>match cu s x with
  | some (.bB [])=>true
  | _=>sc s r
def calm (W:List Nat) (s:ae S) (o:Oper):Bool:=
 match o.op with
 | .load _ x=>match cu s x with
  | some (.ptr _ _ _)=>true
  | some (.loc h _)=>!(W.contains h)
  | some (.iK h _ _ _)=>!(W.contains h)
  | some (.bB [])=>true
  | _=>false
 | .call c=>match Mv (.call c) with
  | true=>sc s c.args.toList
  | false=>true
 | .binOp op t x y t'=>match Mv (.binOp op t x y t') with
  | true=>sc s [x]
  | false=>true
 | .lookup _ _ _ _=>false
 | .convert _ _ x=>match cu s x with
  | some (.aL h (.int .u8))=>!(W.contains h)
  | _=>true
 | op=>!(Mv op)
def off (s:ae S) (o:Oper):Bool:=
 match o.op with
 | .load _ x=>sc s [x]
 | .call c=>sc s c.args.toList
 | .binOp _ _ x _ _=>sc s [x]
 | _=>false
def pick (f:Oper→Bool) (ops:Array Oper) (listed:Array Bool):List Nat→Option (Nat×Oper)
 | []=>none
 | i::r=>match ops[i]? with
  | some o=>match f o&&Region.free .any ops listed i with
   | true=>some (i,o)
   | false=>pick f ops listed r
  | none=>pick f ops listed r
theorem yE {f:Oper→Bool}{ops:Array Oper}{listed:Array Bool}:∀{l:List Nat}{i:Nat}{o:Oper},pick f ops listed l=some (i,o)→i∈l∧ops[i]?=some o∧f o=true∧Region.free .any ops listed i=true
 | [],_,_,h=>by cases h
 | j::r,i,o,h=>by
  simp only[pick] at h;split at h
  ·rename_i o' ho;split at h
   ·rename_i hc;cases h;simp only[af] at hc;exact⟨ar,ho,hc.1,hc.2⟩
   ·obtain⟨h1,h2⟩:=yE h;exact⟨ap _ h1,h2⟩
  ·obtain⟨h1,h2⟩:=yE h;exact⟨ap _ h1,h2⟩
def yS (N:Nat) (ops:Array Oper) (s:ae S) (o:Oper){A:Type}(run:ae S→Option A) (skip:ae S→Option A):Option A:=
 match o.guard with
 | none=>run s
 | some (j,want)=>match ops[j]? with
  | some oj=>match oj.dst with
   | some d=>match bp s.ca d with
    | some (.aD _ .bool b)=>match want with
     | true=>cond b (run (s.put d (.aD true .bool true))) (match p5 N (s.put d (.aD true .bool false)) o with | some s'=>skip s' | none=>none)
     | false=>cond b (match p5 N (s.put d (.aD true .bool true)) o with | some s'=>skip s' | none=>none) (run (s.put d (.aD true .bool false)))
    | some (.bB [])=>match p5 N s o with
     | some s'=>skip s'
     | none=>none
    | _=>none
   | none=>none
  | none=>none
open Classical in
noncomputable def cG {A:Type}(x y:Option A):Option A:=if x=y then x else none
theorem V0 {A:Type}{x y:Option A}{r:A}(h:cG x y=some r):x=some r∧y=some r:=by
 unfold cG at h;split at h
 ·rename_i e;exact⟨h,e▸h⟩
 ·cases h
theorem dG {A:Type}(x:Option A):cG x x=x:=by unfold cG;simp
noncomputable def ee {A:Type}(x:Option A):Option A:=cG x x
noncomputable def Rg {A:Type}(x:Option A):Option A:=cG x (cG x x)
noncomputable def Zo {A:Type}(x:Option A):Option A:=cG x (cG x (cG x x))
theorem dK {A:Type}(x:Option A):ee x=x:=dG x
theorem fM {A:Type}(x:Option A):Rg x=x:=by unfold Rg;rw[dG,dG]
theorem fL {A:Type}(x:Option A):Zo x=x:=by unfold Zo;rw[dG,dG,dG]
noncomputable def V1 {A:Type}:List (Option A)→Option A
 | []=>none
 | [x]=>x
 | x::r=>cG x (V1 r)
theorem J3 {A:Type}:∀{l:List (Option A)}{r:A},V1 l=some r→∀x∈l,x=some r
 | [],_,h,x,hx=>by cases hx
 | [y],r,h,x,hx=>by simp at hx;subst hx;exact h
 | y::z::l,r,h,x,hx=>by
  obtain⟨h1,h2⟩:=V0 h;rcases bf.1 hx with e | hx
  ·subst e;exact h1
  ·exact J3 h2 x hx
def Mn (ops:Array Oper) (s:ae S) (o:Oper):Bool:=
 match o.guard with
 | none=>true
 | some (j,want)=>match ops[j]? with
  | some oj=>match oj.dst with
   | some d=>match bp s.ca d with
    | some (.aD _ .bool b)=>match b with
     | true=>want
     | false=>!want
    | _=>false
   | none=>false
  | none=>false
theorem SC {ops:Array Oper}{s:ae S}{o:Oper}(h:Mn ops s o=true):ej ops s.er o.guard=some true:=by
 unfold Mn at h;split at h
 ·rename_i hg;rw[hg];rfl
 ·rename_i j want hg;rw[hg];split at h
  ·rename_i oj hj;split at h
   ·rename_i d hd;split at h
    ·rename_i f b hb;have:get s.er.fr d=some (.val (.bool b)):=by rw[show get s.er.fr d=_ from fU hb];exact congrArg some (ic f b)
     have hw:ej ops s.er (some (j,want))=some (b==want):=by simp[ej,hj,hd,this]
     rw[hw];cases b <;> cases want <;> first | rfl | cases h
    ·cases h
   ·cases h
  ·cases h
def qx (ops:Array Oper){A:Type}:List Nat→ae S→(ae S→Option A)→Option A
 | [],s,k=>k s
 | i::r,s,k=>match ops[i]? with
  | some o=>match o.guard with
   | some (j,_)=>match ops[j]? with
    | some oj=>match oj.dst with
     | some d=>match bp s.ca d with
      | some (.aD _ .bool b)=>cond b (qx ops r (s.put d (.aD true .bool true)) k) (qx ops r (s.put d (.aD true .bool false)) k)
      | _=>qx ops r s k
     | none=>qx ops r s k
    | none=>qx ops r s k
   | none=>qx ops r s k
  | none=>qx ops r s k
def Ut (ops:Array Oper) (s:ae S) (o:Oper):Bool:=
 match o.guard with
 | none=>false
 | some (j,want)=>match ops[j]? with
  | some oj=>match oj.dst with
   | some d=>match bp s.ca d with
    | some (.aD _ .bool b)=>match b with
     | true=>!want
     | false=>want
    | some (.bB [])=>true
    | _=>false
   | none=>false
  | none=>false
noncomputable def mI (P:Program) (N:Nat) (ok:Nat→Bool) (ops:Array Oper){A:Type}(cl:ae S→Option Nat→Call→(ae S→Option A)→Option A):Nat→Array Bool→ae S→(ae S→Option A)→Option A
 | 0,listed,s,k=>match Region.ready .any ops listed with
  | []=>k s
  | _=>none
 | bG+1,listed,s,k=>match Region.ready .any ops listed with
  | []=>k s
  | i0::rs=>match pick (fun o=>sB N o.dst&&((!(Gr s o.op)&&!(Mv o.op))||off s o)&&o.dst.isSome) ops listed (i0::rs) with
   | some (i,o)=>yS N ops s o (fun s'=>match o.dst with
     | some d=>R2 P s' o.op fun v x=>mI P N ok ops cl bG (listed.setIfInBounds i true) (s'.Er d v x) k
     | none=>none) (fun s'=>mI P N ok ops cl bG (listed.setIfInBounds i true) s' k)
   | none=>match rs with
    | []=>match ops[i0]? with
     | some o=>match sB N o.dst with
      | true=>match o.dst,Gr s o.op&&!(H3 s o.op) with
       | some d,true=>yS N ops s o (fun s'=>N0 P [] s' o.op fun v=>mI P N ok ops cl bG (listed.setIfInBounds i0 true) (s'.put d v) k) (fun s'=>match Region.free .any ops listed i0 with
        | true=>mI P N ok ops cl bG (listed.setIfInBounds i0 true) s' k
        | false=>none)
       | _,_=>match Qw s o.op with
        | true=>yS N ops s o (fun s'=>Ti P ok cl s' o.dst o.op fun s2=>mI P N ok ops cl bG (listed.setIfInBounds i0 true) s2 k) (fun s'=>match Region.free .any ops listed i0 with
         | true=>mI P N ok ops cl bG (listed.setIfInBounds i0 true) s' k
         | false=>none)
        | false=>none
      | false=>none
     | none=>none
    | _=>qx ops (i0::rs) s fun s=>match pick (fun o=>sB N o.dst&&Ut ops s o&&o.dst.isSome) ops listed (i0::rs) with
     | some (i,o)=>match p5 N s o with
      | some s'=>mI P N ok ops cl bG (listed.setIfInBounds i true) s' k
      | none=>none
     | none=>V1 ((i0::rs).map fun i=>match ops[i]? with
      | some o=>match sB N o.dst&&Mn ops s o with
       | true=>match o.dst,Gr s o.op&&!(H3 s o.op) with
        | some d,true=>N0 P [] s o.op fun v=>mI P N ok ops cl bG (listed.setIfInBounds i true) (s.put d v) k
        | _,_=>match Qw s o.op with
         | true=>Ti P ok cl s o.dst o.op fun s2=>mI P N ok ops cl bG (listed.setIfInBounds i true) s2 k
         | false=>none
       | false=>none
      | none=>none)
noncomputable def yV (P:Program) (N:Nat) (ok:Nat→Bool) (W:List Nat) (ops:Array Oper){A:Type}(cl:ae S→Option Nat→Call→(ae S→Option A)→Option A):Nat→Array Bool→ae S→(ae S→Option A)→Option A
 | 0,listed,s,k=>mI P N ok ops cl 0 listed s k
 | bG+1,listed,s,k=>match pick (fun o=>sB N o.dst&&calm W s o&&o.dst.isSome) ops listed (Region.ready .any ops listed) with
  | some (i,o)=>yS N ops s o (fun s'=>match o.dst with
    | some d=>match Gr s' o.op with
     | true=>N0 P W s' o.op fun v=>yV P N ok W ops cl bG (listed.setIfInBounds i true) (s'.put d v) k
     | false=>R2 P s' o.op fun v x=>yV P N ok W ops cl bG (listed.setIfInBounds i true) (s'.Er d v x) k
    | none=>none) (fun s'=>yV P N ok W ops cl bG (listed.setIfInBounds i true) s' k)
  | none=>mI P N ok ops cl (bG+1) listed s k
noncomputable def xC (P:Program) (N:Nat) (ok:Nat→Bool) (W:List Nat) (ops:Array Oper){A:Type}(cl:ae S→Option Nat→Call→(ae S→Option A)→Option A) (s:ae S) (k:ae S→Option A):Option A:=
 match Region.noSelect ops&&tg ops.toList with
 | true=>yV P N ok W ops cl ops.size (Array.replicate ops.size false) s k
 | false=>none
section
variable {P:Program}{N:Nat}{cx:Cx}{Q:Exit→St→Prop}{W:List Nat}{ok:Nat→Bool}{A:Type}{cl:ae S→Option Nat→Call→(ae S→Option A)→Option A}{r:A}{ops:Array Oper}
theorem u5 {s:ae S}{j d:Nat}{want b:Bool}{oj:Oper}(h1:ops[j]?=some oj) (h2:oj.dst=some d) (h3:bp s.ca d=some (.aD true .bool b)):ej ops s.er (some (j,want))=some (b==want):=by
 have:get s.er.fr d=some (.val (.bool b)):=by rw[show get s.er.fr d=_ from fU h3];exact congrArg some (ic true b)
 simp[ej,h1,h2,this]
theorem Pk {s:ae S}{j d:Nat}{want:Bool}{oj:Oper}(h1:ops[j]?=some oj) (h2:oj.dst=some d) (h3:bp s.ca d=some (.bB [])):ej ops s.er (some (j,want))=some false:=by
 have:get s.er.fr d=some (.bB []):=by rw[show get s.er.fr d=_ from fU h3];rfl
 simp[ej,h1,h2,this]
theorem W9 {s:ae S}{o:Oper}(h:Ut ops s o=true):ej ops s.er o.guard=some false:=by
 unfold Ut at h;split at h
 ·cases h
 ·rename_i j want hg;rw[hg];split at h
  ·rename_i oj hj;split at h
   ·rename_i d hd;split at h
    ·rename_i f b hb;have:get s.er.fr d=some (.val (.bool b)):=by rw[show get s.er.fr d=_ from fU hb];exact congrArg some (ic f b)
     have hw:ej ops s.er (some (j,want))=some (b==want):=by simp[ej,hj,hd,this]
     rw[hw];cases b <;> cases want <;> first | rfl | cases h
    ·rename_i hb;have:get s.er.fr d=some (.bB []):=fU hb;simp[ej,hj,hd,this]
    ·cases h
   ·cases h
  ·cases h
theorem nK {X:St→Prop}(hlit:∀(s:St) (t:Nat) (b v:Bool),get s.fr t=some (.val (.bool b))→b=v→X {fr:=(t,.val (.bool v))::s.fr,st:=s.st,df:=s.df}→X s):∀{l:List Nat}{s:ae S}{k:ae S→Option A},aO s→qx ops l s k=some r→
  (∀t:ae S,aO t→bC s t→k t=some r→X t.er)→X s.er
 | [],s,k,hl,h,hk=>hk s hl (bC.refl s) h
 | i::l,s,k,hl,h,hk=>by
  have lit:∀{s:ae S}{d:Nat}{f b:Bool}(v:Bool),bp s.ca d=some (.aD f .bool b)→b=v→X (s.put d (.aD true .bool v)).er→X s.er:=by
   intro s d f b v hb e hX;refine hlit _ d b v ?_ e ?_
   ·rw[show get s.er.fr d=_ from fU hb];exact congrArg some (ic f b)
   ·rw[iJ] at hX;have e2:(TV.aD true .bool v:TV S).er s.ln=.val (.bool v):=ic true v;rw[e2] at hX;exact hX
  simp only[qx] at h;split at h
  ·split at h
   ·split at h
    ·split at h
     ·rename_i d _;split at h
      ·rename_i f b hb;cases hbv:b with
       | true=>
        rw[hbv] at h;exact lit true hb hbv (nK hlit (hl.put d _) h fun t a1 a2 a3=>hk t a1 ⟨a2.lo,a2.bN,a2.df⟩ a3)
       | false=>
        rw[hbv] at h;exact lit false hb hbv (nK hlit (hl.put d _) h fun t a1 a2 a3=>hk t a1 ⟨a2.lo,a2.bN,a2.df⟩ a3)
      ·exact nK hlit hl h hk
     ·exact nK hlit hl h hk
    ·exact nK hlit hl h hk
   ·exact nK hlit hl h hk
  ·exact nK hlit hl h hk
theorem xu {X:St→Prop}(hlit:∀(s:St) (t:Nat) (b v:Bool),get s.fr t=some (.val (.bool b))→b=v→X {fr:=(t,.val (.bool v))::s.fr,st:=s.st,df:=s.df}→X s)
  {s:ae S}{o:Oper}{run skip:ae S→Option A}(hl:aO s) (h:yS N ops s o run skip=some r)
  (hrun:∀t:ae S,aO t→bC s t→ej ops t.er o.guard=some true→run t=some r→X t.er)
  (hskip:∀(t t':ae S),aO t→bC s t→ej ops t.er o.guard=some false→p5 N t o=some t'→skip t'=some r→X t.er):X s.er:=by
 unfold yS at h;have lit:∀{s:ae S}{d:Nat}{f b:Bool}(v:Bool),bp s.ca d=some (.aD f .bool b)→b=v→X (s.put d (.aD true .bool v)).er→X s.er:=by
  intro s d f b v hb e hX;refine hlit _ d b v ?_ e ?_
  ·rw[show get s.er.fr d=_ from fU hb];exact congrArg some (ic f b)
  ·rw[iJ] at hX;have e2:(TV.aD true .bool v:TV S).er s.ln=.val (.bool v):=ic true v;rw[e2] at hX;exact hX
 split at h
 ·rename_i hg;exact hrun s hl (bC.refl s) (by rw[hg];rfl) h
 ·rename_i j want hg;split at h
  ·rename_i oj hj;split at h
   ·rename_i d hd;split at h
    ·rename_i f b hb;have hlt:=fun v=>aO.put hl d (.aD true .bool v:TV S);have ht:∀v,bp (s.put d (.aD true .bool v)).ca d=some (.aD true .bool v):=fun v=>by simp only[ae.put,ae.ca,bU,bp,aW,cond_true]
     split at h
     ·cases hbv:b with
      | true=>
       rw[hbv] at h;exact lit true hb hbv (hrun _ (hlt true) ⟨rfl,rfl,rfl⟩ (by rw[hg,u5 hj hd (ht true)];rfl) h)
      | false=>
       rw[hbv] at h;dsimp only[cond_false] at h;refine lit false hb hbv ?_;split at h
       ·rename_i s' hs;exact hskip _ s' (hlt false) ⟨rfl,rfl,rfl⟩ (by rw[hg,u5 hj hd (ht false)];rfl) hs h
       ·cases h
     ·cases hbv:b with
      | true=>
       rw[hbv] at h;dsimp only[cond_true] at h;refine lit true hb hbv ?_;split at h
       ·rename_i s' hs;exact hskip _ s' (hlt true) ⟨rfl,rfl,rfl⟩ (by rw[hg,u5 hj hd (ht true)];rfl) hs h
       ·cases h
      | false=>
       rw[hbv] at h;exact lit false hb hbv (hrun _ (hlt false) ⟨rfl,rfl,rfl⟩ (by rw[hg,u5 hj hd (ht false)];rfl) h)
    ·rename_i hb;split at h
     ·rename_i s' hs;exact hskip _ s' hl (bC.refl s) (by rw[hg,Pk hj hd hb]) hs h
     ·cases h
    ·cases h
   ·cases h
  ·cases h
theorem rV {s t:ae S}{o:Oper}{d:Nat}(hd:o.dst=some d) (h:p5 N s o=some t):d<N∧t=s.put d (.bB []):=by
 unfold p5 at h;rw[hd] at h;dsimp only at h;split at h
 ·rename_i hN;cases h;exact⟨by simpa[gG] using hN,rfl⟩
 ·cases h
theorem fY.ZG {s:St}{bG:Nat}{listed:Array Bool}(i:Nat){o:Oper}(hi:ops[i]?=some o) (hs:Region.noSelect ops=true) (hf:Region.free .any ops listed i=true)
  (hr:(Region.ready .any ops listed).contains i=true) (hw:ej ops s o.guard=some false) (hd:o.dst=none)
  (h:fY P N cx ops Q W bG (listed.setIfInBounds i true) s):fY P N cx ops Q W (bG+1) listed s:=by
 intro ws Wb μ a w hrel hS hW;refine wpAnyH_take (v:=undef) hi hs hf hr (fun c a' w' h=>(by rw[hd] at h;exact h)) (.inr ⟨fB hrel hw,rfl⟩) hS ?_;rw[hd];exact h ws Wb μ _ w hrel hS hW
theorem jH (hokW:∀h,ok h=true→W.contains h=true){kp:List PanicEntry→ae S→Option A}(hcl:CU P N W cl kp r) (hs:Region.noSelect ops=true) (hpn:NC Q (wx ops)):∀{bG:Nat}{listed:Array Bool}{s:ae S}{k:ae S→Option A},aO s→mI P N ok ops cl bG listed s k=some r→
  (∀t:ae S,aO t→bC s t→k t=some r→Q .normal t.er)→(∀ch (t:ae S),aO t→bC s t→kp ch t=some r→∃u,Gh t.er u∧Q (.panic ch) u)→fY P N cx ops Q W bG listed s.er
 | 0,listed,s,k,hl,h,hk,hkp=>by
  unfold mI at h;split at h
  ·rename_i hr;exact fY.done hr (hk s hl (bC.refl s) h)
  ·cases h
 | bG+1,listed,s,k,hl,h,hk,hkp0=>by
  unfold mI at h;split at h
  ·rename_i hr;exact fY.done hr (hk s hl (bC.refl s) h)
  ·rename_i i0 rs hr;split at h
   ·rename_i i o hp;obtain⟨p1,p2,p3,p4⟩:=yE hp;simp only[af] at p3;obtain⟨⟨q1,q2⟩,q4⟩:=p3;have hcon:(Region.ready .any ops listed).contains i=true:=by rw[hr];exact gH.2 p1
    refine xu (X:=fun s=>fY P N cx ops Q W (bG+1) listed s) (fun s t b v h1 h2 h3=>fY.lit t h1 h2 h3) hl h (fun t hl' hkp hw h'=>?_) (fun t t' hl' hkp hw hsk h'=>?_)
    ·cases hd:o.dst with
     | none=>rw[hd] at q4;cases q4
     | some d=>
      rw[hd] at h' q1;dsimp only at h';have hN:d<N:=by simpa[sB,gG] using q1
      obtain⟨v,x,h1,h2,h3⟩:=LB (dst:=o.dst) (ty:=o.type) (pos:=o.pos) (after:=o.after) (guard:=o.guard) h';refine fY.take i hpn p2 hs p4 hcon hw hd hN h1 ?_;rw[←HM t d v x];exact jH hokW hcl hs hpn (HL hl' d h2) h3 (fun t2 a1 a2 a3=>hk t2 a1 ((hkp.trans (uj t d v x)).trans a2) a3) fun ch t2 a1 a2 a3=>hkp0 ch t2 a1 ((hkp.trans (uj t d v x)).trans a2) a3
    ·cases hd:o.dst with
     | none=>rw[hd] at q4;cases q4
     | some d=>
      obtain⟨hN,e⟩:=rV hd hsk;subst e;exact fY.C7 i hpn p2 hs p4 hcon hw hd hN (jH hokW hcl hs hpn (hl'.put _ _) h' (fun t2 a1 a2 a3=>hk t2 a1 (hkp.trans ⟨a2.lo,a2.bN,a2.df⟩) a3) fun ch t2 a1 a2 a3=>hkp0 ch t2 a1 (hkp.trans ⟨a2.lo,a2.bN,a2.df⟩) a3)
   ·split at h
    ·split at h
     ·rename_i o ho;split at h
      ·rename_i hdN;split at h
       ·rename_i d hd hld;have hN:d<N:=by rw[hd] at hdN;simpa[sB,gG] using hdN
        refine xu (X:=fun s=>fY P N cx ops Q W (bG+1) listed s) (fun s t b v h1 h2 h3=>fY.lit t h1 h2 h3) hl h (fun t hl' hkp hw h'=>?_) (fun t t' hl' hkp hw hsk h'=>?_)
        ·obtain⟨v,h1,h2⟩:=FE (dst:=o.dst) (ty:=o.type) (pos:=o.pos) (after:=o.after) (guard:=o.guard) hl' h';exact fY.aac i0 hr ho hw hd hN h1 (jH hokW hcl hs hpn (hl'.put d v) h2 (fun t2 a1 a2 a3=>hk t2 a1 (hkp.trans ⟨a2.lo,a2.bN,a2.df⟩) a3) fun ch t2 a1 a2 a3=>hkp0 ch t2 a1 (hkp.trans ⟨a2.lo,a2.bN,a2.df⟩) a3)
        ·split at h'
         ·rename_i hf;obtain⟨_,e⟩:=rV hd hsk;subst e;exact fY.C7 i0 hpn ho hs hf (by rw[hr];simp) hw hd hN (jH hokW hcl hs hpn (hl'.put _ _) h' (fun t2 a1 a2 a3=>hk t2 a1 (hkp.trans ⟨a2.lo,a2.bN,a2.df⟩) a3) fun ch t2 a1 a2 a3=>hkp0 ch t2 a1 (hkp.trans ⟨a2.lo,a2.bN,a2.df⟩) a3)
         ·cases h'
       ·split at h
        ·refine xu (X:=fun s=>fY P N cx ops Q W (bG+1) listed s) (fun s t b v h1 h2 h3=>fY.lit t h1 h2 h3) hl h (fun t hl' hkp hw h'=>?_) (fun t t' hl' hkp hw hsk h'=>?_)
         ·obtain⟨T,Tp,h1,h2,h2p⟩:=MS hokW hcl hl' h';refine fY.aad i0 hr ho hw (fun d e=>?_) (nH.tell (Tp':=fun ch u=>Q (.panic ch) u) h1 fun ch s' ht=>?_) (fun s' ht=>?_) fun _ _ h=>h
          ·rw[e] at hdN;simpa[sB,gG] using hdN
          ·obtain⟨t2,g1,g2,g3,g4⟩:=h2p ch s' ht;obtain⟨u,g5,g6⟩:=hkp0 ch t2 g2 (hkp.trans g3) g4;exact⟨u,g1.trans g5,g6⟩
          ·obtain⟨t2,g1,g2,g3,g4⟩:=h2 s' ht;exact fY.gh g1 (jH hokW hcl hs hpn g2 g4 (fun t3 a1 a2 a3=>hk t3 a1 ((hkp.trans g3).trans a2) a3) fun ch t3 a1 a2 a3=>hkp0 ch t3 a1 ((hkp.trans g3).trans a2) a3)
         ·split at h'
          ·rename_i hf;cases hd:o.dst with
           | none=>
            unfold p5 at hsk;rw[hd] at hsk;dsimp only at hsk;cases hsk;exact fY.ZG i0 ho hs hf (by rw[hr];simp) hw hd (jH hokW hcl hs hpn hl' h' (fun t2 a1 a2 a3=>hk t2 a1 (hkp.trans ⟨a2.lo,a2.bN,a2.df⟩) a3) fun ch t2 a1 a2 a3=>hkp0 ch t2 a1 (hkp.trans ⟨a2.lo,a2.bN,a2.df⟩) a3)
           | some d=>
            obtain⟨hN,e⟩:=rV hd hsk;subst e;exact fY.C7 i0 hpn ho hs hf (by rw[hr];simp) hw hd hN (jH hokW hcl hs hpn (hl'.put _ _) h' (fun t2 a1 a2 a3=>hk t2 a1 (hkp.trans ⟨a2.lo,a2.bN,a2.df⟩) a3) fun ch t2 a1 a2 a3=>hkp0 ch t2 a1 (hkp.trans ⟨a2.lo,a2.bN,a2.df⟩) a3)
          ·cases h'
        ·cases h
      ·cases h
     ·cases h
    ·refine nK (X:=fun s=>fY P N cx ops Q W (bG+1) listed s) (fun s t b v h1 h2 h3=>fY.lit t h1 h2 h3) hl h fun s1 hl1 hk1 h=>?_;split at h
     ·rename_i i o hp;obtain⟨p1,p2,p3,p4⟩:=yE hp;simp only[af] at p3;obtain⟨⟨q1,q2⟩,q4⟩:=p3;have hcon:(Region.ready .any ops listed).contains i=true:=by rw[hr];exact gH.2 p1
      split at h
      ·rename_i s' hsk;cases hd:o.dst with
       | none=>rw[hd] at q4;cases q4
       | some d=>
        obtain⟨hN,e⟩:=rV hd hsk;subst e;exact fY.C7 i hpn p2 hs p4 hcon (W9 q2) hd hN (jH hokW hcl hs hpn (hl1.put _ _) h (fun t2 a1 a2 a3=>hk t2 a1 (hk1.trans ⟨a2.lo,a2.bN,a2.df⟩) a3) fun ch t2 a1 a2 a3=>hkp0 ch t2 a1 (hk1.trans ⟨a2.lo,a2.bN,a2.df⟩) a3)
      ·cases h
     ·have hall:=J3 h;refine fY.any i0 rs hr ?_;have zr:∀i,i∈i0::rs→wN P N cx ops Q W bG listed s1.er i:=by
       intro i hi;have hx:=hall _ (kQ hi);split at hx
       ·rename_i o ho;split at hx
        ·rename_i hc;simp only[af] at hc;obtain⟨hdN,hkn⟩:=hc;have hw:=SC hkn;split at hx
         ·rename_i d hd hld;have hN:d<N:=by rw[hd] at hdN;simpa[sB,gG] using hdN
          obtain⟨v,h1,h2⟩:=FE (dst:=o.dst) (ty:=o.type) (pos:=o.pos) (after:=o.after) (guard:=o.guard) hl1 hx;exact wN.y i ho hw hd hN h1 (jH hokW hcl hs hpn (hl1.put d v) h2 (fun t2 a1 a2 a3=>hk t2 a1 (hk1.trans ⟨a2.lo,a2.bN,a2.df⟩) a3) fun ch t2 a1 a2 a3=>hkp0 ch t2 a1 (hk1.trans ⟨a2.lo,a2.bN,a2.df⟩) a3)
         ·split at hx
          ·obtain⟨T,Tp,h1,h2,h2p⟩:=MS hokW hcl hl1 hx;refine wN.eP i ho hw (fun d e=>?_) (nH.tell (Tp':=fun ch u=>Q (.panic ch) u) h1 fun ch s' ht=>?_) (fun s' ht=>?_) fun _ _ h=>h
           ·rw[e] at hdN;simpa[sB,gG] using hdN
           ·obtain⟨t2,g1,g2,g3,g4⟩:=h2p ch s' ht;obtain⟨u,g5,g6⟩:=hkp0 ch t2 g2 (hk1.trans g3) g4;exact⟨u,g1.trans g5,g6⟩
           ·obtain⟨t2,g1,g2,g3,g4⟩:=h2 s' ht;exact fY.gh g1 (jH hokW hcl hs hpn g2 g4 (fun t3 a1 a2 a3=>hk t3 a1 (hk1.trans (g3.trans a2)) a3) fun ch t3 a1 a2 a3=>hkp0 ch t3 a1 (hk1.trans (g3.trans a2)) a3)
          ·cases hx
        ·cases hx
       ·cases hx
      clear hr hall h;generalize i0::rs=l at zr
      induction l with
      | nil=>exact trivial
      | cons x r ih=>exact⟨zr x ar,ih fun i hi=>zr i (ap _ hi)⟩
theorem xB (hokW:∀h,ok h=true→W.contains h=true){kp:List PanicEntry→ae S→Option A}(hcl:CU P N W cl kp r) (hs:Region.noSelect ops=true) (hpn:NC Q (wx ops)):∀{bG:Nat}{listed:Array Bool}{s:ae S}{k:ae S→Option A},aO s→yV P N ok W ops cl bG listed s k=some r→
  (∀t:ae S,aO t→bC s t→k t=some r→Q .normal t.er)→(∀ch (t:ae S),aO t→bC s t→kp ch t=some r→∃u,Gh t.er u∧Q (.panic ch) u)→rM P N cx ops Q W bG listed s.er
 | 0,listed,s,k,hl,h,hk,hkp0=>rM.later (jH hokW hcl hs hpn hl h hk hkp0)
 | bG+1,listed,s,k,hl,h,hk,hkp0=>by
  unfold yV at h;split at h
  ·rename_i i o hp;obtain⟨p1,p2,p3,p4⟩:=yE hp;simp only[af] at p3;obtain⟨⟨q1,q2⟩,q4⟩:=p3;have hcon:(Region.ready .any ops listed).contains i=true:=gH.2 p1;refine xu (X:=fun s=>rM P N cx ops Q W (bG+1) listed s) (fun s t b v h1 h2 h3=>rM.lit t h1 h2 h3) hl h (fun t hl' hkp hw h'=>?_) (fun t t' hl' hkp hw hsk h'=>?_)
   ·cases hd:o.dst with
    | none=>rw[hd] at q4;cases q4
    | some d=>
     rw[hd] at h' q1;dsimp only at h';have hN:d<N:=by simpa[sB,gG] using q1
     split at h'
     ·obtain⟨v,h1,h2⟩:=FE (dst:=o.dst) (ty:=o.type) (pos:=o.pos) (after:=o.after) (guard:=o.guard) hl' h';exact rM.take i hpn p2 hs p4 hcon hw hd hN h1 (xB hokW hcl hs hpn (hl'.put d v) h2 (fun t2 a1 a2 a3=>hk t2 a1 (hkp.trans ⟨a2.lo,a2.bN,a2.df⟩) a3) fun ch t2 a1 a2 a3=>hkp0 ch t2 a1 (hkp.trans ⟨a2.lo,a2.bN,a2.df⟩) a3)
     ·obtain⟨v,x,h1,h2,h3⟩:=LB (dst:=o.dst) (ty:=o.type) (pos:=o.pos) (after:=o.after) (guard:=o.guard) h';refine rM.take i hpn p2 hs p4 hcon hw hd hN (h1.yield W) ?_;rw[←HM t d v x];exact xB hokW hcl hs hpn (HL hl' d h2) h3 (fun t2 a1 a2 a3=>hk t2 a1 ((hkp.trans (uj t d v x)).trans a2) a3) fun ch t2 a1 a2 a3=>hkp0 ch t2 a1 ((hkp.trans (uj t d v x)).trans a2) a3
   ·cases hd:o.dst with
    | none=>rw[hd] at q4;cases q4
    | some d=>
     obtain⟨hN,e⟩:=rV hd hsk;subst e;exact rM.C7 i hpn p2 hs p4 hcon hw hd hN (xB hokW hcl hs hpn (hl'.put _ _) h' (fun t2 a1 a2 a3=>hk t2 a1 (hkp.trans ⟨a2.lo,a2.bN,a2.df⟩) a3) fun ch t2 a1 a2 a3=>hkp0 ch t2 a1 (hkp.trans ⟨a2.lo,a2.bN,a2.df⟩) a3)
  ·exact rM.later (jH hokW hcl hs hpn hl h hk hkp0)
theorem MT {id:Nat}(hm:P.follows .mixedOrders=true) (hokW:∀h,ok h=true→W.contains h=true){kp:List PanicEntry→ae S→Option A}(hcl:CU P N W cl kp r){s:ae S}{k:ae S→Option A}(hl:aO s) (h:xC P N ok W ops cl s k=some r)
  (hk:∀t:ae S,aO t→bC s t→k t=some r→Q .normal t.er) (hkp:∀ch (t:ae S),aO t→bC s t→kp ch t=some r→∃u,Gh t.er u∧Q (.panic ch) u∧∀d,d∈wx ops→get u.fr d=none):GW P N cx (.region id ops true) Q s.er:=by
 unfold xC at h;split at h
 ·rename_i hc;simp only[af] at hc;refine(GW.KN (Q:=fun e s=>Q e s∧∀ch,e=.panic ch→∀d,d∈wx ops→get s.fr d=none) W hm (xB hokW hcl hc.1 (fun c s h d hd=>h.2 c rfl d hd) hl h (fun t a b c=>⟨hk t a b c,fun ch e=>by cases e⟩) fun ch t a b c=>?_) hc.2).mono fun e s h=>h.1;obtain⟨u,g1,g2,g3⟩:=hkp ch t a b c;exact⟨u,g1,g2,fun _ _=>g3⟩
 ·cases h
end
end
end Go.DN
