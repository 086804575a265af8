/-
  DN, second part.
-/
import Derived.Test.YtmhbeopldeccmaaDoorMgC
import Derived.Test.YtmhbeopldeccmaaDoorMgF
set_option linter.unusedSectionVars false
set_option linter.unusedSimpArgs false
set_option linter.unusedVariables false
/-
 DN,part Kd:slices of slices.
-/
namespace Go.DN
open Go.AM
def bo (d:Nat):List Nat→Bool
 | []=>false
 | x::r=>bif Nat.beq x d then true else bo d r
theorem bJ {d:Nat}:∀{l:List Nat},bo d l=true↔d∈l
 | []=>by simp[bo]
 | x::r=>by
  simp only[bo,bU]
  cases hb:Nat.beq x d with
  | true=>have:=ab hb;subst this;simp
  | false=>
   rw[cond_false,bJ]
   constructor
   ·exact .inr
   ·rintro(e | h)
    ·subst e;rw[aK] at hb;cases hb
    ·exact h
section
variable {S:dr}
theorem gY {t:ag S}(h:t.last=[]):aJ t:=fun d hh x hm=>by rw[h] at hm;cases hm
def Eb (s:ag S) (h kty:Nat){A:Type}(k:ag S→Option A):Option A:=
 none
theorem EM {s:ag S}{h kty:Nat}{A:Type}{k:ag S→Option A}{r:A}(hl:aJ s) (e:Eb s h kty k=some r):∃t,Gh s.er t.er∧aJ t∧bj s t∧k t=some r:=by
 unfold Eb at e
 cases e
def EI (s:ag S) (h:Nat):Option (ag S):=
 none
theorem JY {s t:ag S}{h:Nat}(hl:aJ s) (e:EI s h=some t):Gh s.er t.er∧aJ t∧bj s t:=by
 unfold EI at e
 cases e
def BY (s:ag S) (h:Nat):Option (ag S):=
 none
theorem Ig {s t:ag S}{h:Nat}(hl:aJ s) (e:BY s h=some t):Gh s.er t.er∧aJ t∧bj s t:=by
 unfold BY at e
 cases e
def FU (s:ag S) (h:Nat):Bool:=match aA s.a7 h with
 | some (.deep _ _ _ (.rows _ _) _ _)=>true
 | _=>false
def FW (s:ag S) (h:Nat):Bool:=match aA s.a7 h with
 | some (.deep ..)=>true
 | _=>false
def yL (s:ag S) (h:Nat):Option (ag S):=
 match FW s h with
 | true=>match (match FU s h with | true=>BY s h | false=>EI s h) with
  | some s'=>yM s' h
  | none=>none
 | false=>yM s h
theorem Bf {s t:ag S}{h:Nat}(hl:aJ s) (hf:yL s h=some t):Gh s.er t.er∧aJ t∧bj s t:=by
 unfold yL at hf
 split at hf
 ·split at hf
  ·rename_i s' hs
   have hs2:Gh s.er s'.er∧aJ s'∧bj s s':=by
    split at hs
    ·exact Ig hl hs
    ·exact JY hl hs
   obtain⟨a1,a2,a3⟩:=hs2
   obtain⟨b1,b2,b3⟩:=Bg a2 hf
   exact⟨a1.trans b1,b2,a3.trans b3⟩
  ·cases hf
 ·exact Bg hl hf
def F9 (P:Program) (ok:Nat→Bool) (s:ag S) (t:TypeId) (x y:Operand){A:Type}(k:ag S→Option A):Option A:=
 none
theorem Lf {P:Program}{W:List Nat}{ok:Nat→Bool}(hokW:∀h,ok h=true→W.contains h=true){s:ag S}{t:TypeId}{x y:Operand}{ty:TypeId}{pos:String}{after:Array Edge}{guard:Option (Nat×Bool)}{A:Type}{k:ag S→Option A}{r:A}
  (hl:aJ s) (h:F9 P ok s t x y k=some r):eU P W s ⟨none,.store t x y,ty,pos,after,guard⟩ k r:=by
 unfold F9 at h
 cases h
def CB (P:Program) (ok:Nat→Bool) (s:ag S) (d:Nat) (t:TypeId) (n:Nat) (parts:Array (Nat×Operand)){A:Type}(k:ag S→Option A):Option A:=
 none
theorem Js {P:Program}{W:List Nat}{ok:Nat→Bool}(hokW:∀h,ok h=true→W.contains h=true){s:ag S}{d:Nat}{t:TypeId}{n:Nat}{parts:Array (Nat×Operand)}{ty:TypeId}{pos:String}{after:Array Edge}{guard:Option (Nat×Bool)}{A:Type}{k:ag S→Option A}{r:A}
  (hl:aJ s) (h:CB P ok s d t n parts k=some r):eU P W s ⟨some d,.buildSlice t n parts,ty,pos,after,guard⟩ k r:=by
 unfold CB at h
 cases h
def CC (P:Program) (ok:Nat→Bool) (s:ag S) (d:Nat) (c:Call){A:Type}(k:ag S→Option A):Option A:=
 none
theorem Jt {P:Program}{W:List Nat}{ok:Nat→Bool}(hokW:∀h,ok h=true→W.contains h=true){s:ag S}{d:Nat}{args:Array Operand}{ts:Array TypeId}{ty:TypeId}{pos:String}{after:Array Edge}{guard:Option (Nat×Bool)}{A:Type}{k:ag S→Option A}{r:A}
  (hl:aJ s) (hq:CC P ok s d ⟨.builtin .append,args,ts⟩ k=some r):eU P W s ⟨some d,.call ⟨.builtin .append,args,ts⟩,ty,pos,after,guard⟩ k r:=by
 unfold CC at hq
 cases hq
end
end Go.DN
/-
 DN,part Ke:slices that are written no more,slices that are adopted,slices whose end is cut off.
-/
namespace Go.DN
open Go.AM
section
variable {S:dr}
def TV.IL:TV S→List Nat
 | .aM h _=>[h]
 | .sub h _ _ _=>[h]
 | .agg l=>go l
 | .aT l=>go l
 | _=>[]
where go:List (TV S)→List Nat
 | []=>[]
 | x::r=>x.IL++go r
def qv:List Nat→ag S→Option (ag S)
 | [],s=>some s
 | h::r,s=>match aA s.a7 h with
  | none=>qv r s
  | some _=>match yL s h with
   | some s'=>qv r s'
   | none=>none
theorem mq:∀{l:List Nat}{s t:ag S},aJ s→qv l s=some t→Gh s.er t.er∧aJ t∧bj s t
 | [],s,t,hl,h=>by cases h;exact⟨Gh.refl _,hl,bj.refl s⟩
 | x::r,s,t,hl,h=>by
  simp only[qv] at h
  split at h
  ·exact mq hl h
  ·split at h
   ·rename_i s' hs
    obtain⟨a1,a2,a3⟩:=Bf hl hs
    obtain⟨b1,b2,b3⟩:=mq a2 h
    exact⟨a1.trans b1,b2,a3.trans b3⟩
   ·cases h
def IK (s:ag S):List Operand→List Nat
 | []=>[]
 | x::r=>(match cq s x with | some v=>v.IL | none=>[])++IK s r
theorem xT {α β:Type}{f:α→List β}{z:Nat}(hf:∀a,(f a).length=z):∀(l:List α) (n:Nat),List.flatMap f (l.take n)=(List.flatMap f l).take (n*z)
 | [],n=>by simp
 | x::r,0=>by simp
 | x::r,n+1=>by
  simp only[List.take_succ_cons,cP]
  have e1:(n+1)*z-z=n*z:=by rw[Nat.succ_mul];omega
  have e2:(f x).length≤(n+1)*z:=by rw[hf x,Nat.succ_mul];omega
  rw[xT hf r n,List.take_append,hf x,e1,dz (l:=f x) e2]
theorem Gh.QP {s:St}(hh j hd:Nat) (e:TypeId) (sz:Nat){k:aq}(hk:ay s.st hh=some k) (hp:k.pure=false) (hj:k.cells[j]?=some (.val (.slice none 0 0))) (hf:fresh s hd=true) (hlp:k.lp=none):
  Gh s {fr:=s.fr,st:=eb ((hd,⟨e,true,true,true,sz,[],none⟩)::s.st) hh {k with cells:=k.cells.set j (.aM hd sz 0 0)},df:=s.df}:=fun N cx μ a w h=>by
 have h1:=h.AP hd ⟨e,true,true,true,sz,[],none⟩ hf rfl rfl
 have hne:hh≠hd:=fun e=>by
  subst e
  obtain⟨h2,_⟩:=iL hf
  rw[hk] at h2;cases h2
 have hk2:ay ((hd,(⟨e,true,true,true,sz,[],none⟩:aq))::s.st) hh=some k:=by rw[aG _ _ hne];exact hk
 refine⟨_,h1.B9 (s:={fr:=s.fr,st:=(hd,⟨e,true,true,true,sz,[],none⟩)::s.st,df:=s.df}) hk2 rfl rfl rfl (by simp) hlp hlp fun i g' hg'=>?_,Gh.same fun x k1 b m hx hm=>?_⟩
 ·simp only[gD] at hg'
  by_cases e:j=i
  ·subst e
   rw[if_pos rfl] at hg'
   split at hg'
   ·cases hg'
    refine⟨_,hj,fun v hv=>?_⟩
    unfold cF at hv⊢
    simp only[hp] at hv⊢
    cases hv with
    | aD hv=>cases hv;exact .gX hd sz (cz _ _ _)
   ·cases hg'
  ·rw[if_neg e] at hg'
   refine⟨g',hg',fun v hv=>?_⟩
   unfold cF at hv⊢
   exact hv
 ·by_cases e1:x=hd
  ·subst e1;rw[cz] at hm;cases hm
  ·rw[bh e1] at hm
   rcases dy hk2 hx with ⟨e2,_⟩ | ⟨e2,h3⟩
   ·subst e2;exact⟨k,hk,hm⟩
   ·rw[aG _ _ e1] at h3;exact⟨k1,h3,hm⟩
theorem LS {s:ag S}{h j hd:Nat}{e e':TypeId}{m:Bool}{cs:List (TV S)}{τ:Ty}(hl:aJ s) (ho:aA s.st h=some (.box e' m cs)) (hj:cs[j]?=some (.val (.slice none 0 0))) (hf:s.free hd=true):
  Gh s.er ((s.add hd (.arr e true true τ [])).set h (.box e' m (cs.set j (.aM hd τ)))).er∧aJ ((s.add hd (.arr e true true τ [])).set h (.box e' m (cs.set j (.aM hd τ)))):=by
 obtain⟨e1,hag⟩:=sf hf (.arr e true true τ ([]:List (S.D τ))) rfl
 obtain⟨f1,f2,f3,f4,f5⟩:=free_spec hf
 have hne:h≠hd:=fun e=>by subst e;rw[gO ho] at f1;cases f1
 have hne':Nat.beq hd h=false:=by
  cases hb:Nat.beq hd h with
  | false=>rfl
  | true=>exact absurd (ab hb).symm hne
 have ho2:aA (s.add hd (.arr e true true τ [])).st h=some (.box e' m cs):=by
  show aA ((hd,_)::s.st) h=_
  simp only[aA,hne',cond_false];exact ho
 obtain⟨g1,_⟩:=rO (o':=.box e' m (cs.set j (.aM hd τ))) ho2 rfl
 refine⟨?_,(hl.add (.arr e true true τ []) hf).set ho2 _⟩
 rw[g1,e1]
 have hcs:TV.has.go hd cs=false:=by
  have:=uj (gO ho) f3
  exact this
 have e3:(TO.box e' m (cs.set j (.aM hd τ)):TO S).er (s.add hd (.arr e true true τ [])).ln={(TO.box e' m cs:TO S).er s.ln with cells:=((TO.box e' m cs:TO S).er s.ln).cells.set j (.aM hd (S.sz τ) 0 0)}:=by
  have e4:TV.er.go (s.add hd (.arr e true true τ [])).ln (cs.set j (.aM hd τ))=(TV.er.go s.ln cs).set j (.aM hd (S.sz τ) 0 0):=by
   rw[cS,p9,←cS,←pp hag cs hcs]
   congr 1
   show G.aM _ _ _ ((s.add hd _).ln hd)=_
   rw[show(s.add hd (.arr e true true τ [])).ln hd=_ from tD _ _];rfl
  show aq.mk _ _ _ _ _ _ _=aq.mk _ _ _ _ _ _ _
  rw[e4];rfl
 rw[e3]
 exact Gh.QP (s:=s.er) h j hd e (S.sz τ) (jA (gO ho)) rfl (by show(TV.er.go s.ln cs)[j]?=_;rw[cS,ak,hj];rfl) (iM hf) rfl
def CH (h:Nat):List (Nat×TO S)→List (Nat×TO S)
 | []=>[]
 | (k,o)::r=>bif Nat.beq k h then CH h r else(k,o)::CH h r
theorem wF {h x:Nat}(hx:x≠h):∀{st:List (Nat×TO S)},aA (CH h st) x=aA st x
 | []=>rfl
 | (k,o)::r=>by
  simp only[CH,aA]
  cases hb:Nat.beq k h with
  | true=>
   have:=ab hb
   subst this
   have h2:Nat.beq k x=false:=by
    cases h3:Nat.beq k x with
    | false=>rfl
    | true=>exact absurd (ab h3).symm hx
   rw[h2]
   exact wF hx
  | false=>
   simp only[cond_false,aA]
   cases Nat.beq k x with
   | true=>rfl
   | false=>exact wF hx
def ag.qz (s:ag S) (h:Nat):ag S:={s with st:=CH h s.st,last:=vb h s.last}
theorem Nn {s:ag S}{h:Nat}(hl:aJ s) (hf:(s.qz h).free h=true):Gh s.er (s.qz h).er∧aJ (s.qz h)∧bj s (s.qz h):=by
 obtain⟨f1,f2,f3,f4,_⟩:=free_spec hf
 have hst:∀x,x≠h→aA (s.qz h).a7 x=aA s.a7 x:=by
  intro x hx
  show aA (CH h s.st++s.bF) x=aA (s.st++s.bF) x
  rw[eo,eo,wF hx]
 have hag:j7 s.ln (s.qz h).ln h:=by
  intro x hx
  show bG s.a7 x=bG (s.qz h).a7 x
  unfold bG
  rw[hst x hx]
 have hone:∀o:TO S,o.has h=false→uR s.er.st (s.qz h).er.st (o.er s.ln) (o.er (s.qz h).ln):=by
  intro o ho
  rw[TO.rl hag o ho]
  exact uR.refl _ _ _
 refine⟨Gh.typed (fun d v' hv'=>⟨v',hv',?_⟩) (fun x o' ho'=>?_) (pp hag s.df f4),?_,⟨rfl,rfl,rfl⟩⟩
 ·rw[rl hag v' (uF hv' f2)]
  exact CV.refl _ _ _
 ·have hx:x≠h:=fun e=>by subst e;rw[f1] at ho';cases ho'
  exact⟨o',by rw[←hst x hx];exact ho',hone o' (uj ho' f3)⟩
 ·intro d hh x hm
  obtain⟨h1,h2⟩:=sW hm
  obtain⟨i,bs,m,f',τ',l',a,e1,e2,e3⟩:=hl d hh x h1
  exact⟨i,bs,m,f',τ',l',a,e1,(hst hh h2).trans e2,e3⟩
def rD (s:ag S) (h:Nat):ag S:=match s.free h with
 | true=>s
 | false=>match (s.qz h).free h with
  | true=>s.qz h
  | false=>s
theorem F5 {s:ag S}(h:Nat) (hl:aJ s):Gh s.er (rD s h).er∧aJ (rD s h)∧bj s (rD s h):=by
 unfold rD
 split
 ·exact⟨Gh.refl _,hl,bj.refl s⟩
 ·split
  ·rename_i hf
   exact Nn hl hf
  ·exact⟨Gh.refl _,hl,bj.refl s⟩
theorem Rel.shrink {N:Nat}{cx:Cx}{s:St}{μ:Mu}{a:Act}{w:World}(hr:Rel N cx μ s a w){h d n c:Nat}{k:aq}(hk:ay s.st h=some k) (hp:k.pure=true) (hlp:k.lp=none) (hd:get s.fr d=some (.aM h k.sz 0 n)):
  Rel N cx μ {fr:=(d,.aM h k.sz 0 n)::lU h s.fr,st:=(h,{k with cells:=k.cells.take c})::fp h s.st,df:=s.df} a w:=by
 have key:∀x k1,ay ((h,{k with cells:=k.cells.take c})::fp h s.st) x=some k1→∃k0,ay s.st x=some k0:=by
  intro x k1 h1
  by_cases e:x=h
  ·subst e;exact⟨k,hk⟩
  ·rw[aG _ _ e] at h1
   obtain⟨k0,h2,_⟩:=cX h1
   exact⟨k0,h2⟩
 have hO:∀b,¬cx.O s.st μ b→¬cx.O ((h,{k with cells:=k.cells.take c})::fp h s.st) μ b:=by
  rintro b hn (ho | ⟨x,k1,c1,m,h1,h2,hi⟩)
  ·exact hn (.inl ho)
  ·obtain⟨k0,h3⟩:=key x k1 h1
   exact hn (.inr ⟨x,k0,c1,m,h3,h2,hi⟩)
 refine {st:={ey:=?_,dA:=?_,cv:=?_,fK:=?_,fo:=hr.st.fo,hb:=hr.st.hb,os:=hr.st.os,tape:=hr.st.tape,output:=hr.st.output,gl:=hr.st.gl,ec:=hr.st.ec},nd:=hr.nd.mono (Kept.refl _ _) (fun b _=>hO b),sz:=hr.sz,fr:=?_}
 ·intro x k1 h1
  by_cases e:x=h
  ·subst e
   rw[dv] at h1
   cases h1
   have h3:=hr.st.ey x k hk
   cases hm:μ x with
   | none=>rw[hm] at h3;exact .nil (by simp[h3.1]) hlp
   | some bm=>
    obtain⟨b,m⟩:=bm
    rw[hm] at h3
    obtain⟨cs,q1,q2,q3,q4,q5,q6⟩:=h3.cells hlp
    refine .mk hlp (h3.mn hlp) ⟨cs,q1,q2,by simp only[bH];omega,q4,q5,fun j g hg=>?_⟩
    have hg':k.cells[j]?=some g:=by
     have hg:(k.cells.take c)[j]?=some g:=hg
     rw[bg] at hg
     split at hg
     ·exact hg
     ·cases hg
    obtain⟨v,hv,hrv⟩:=q6 j g hg'
    refine⟨v,hv,?_⟩
    have:=hrv.mono (O':=cx.O ((x,{k with cells:=k.cells.take c})::fp x s.st) μ) (Kept.refl _ _) (fun b _=>hO b)
    unfold cF at this⊢
    exact this
  ·rw[aG _ _ e] at h1
   obtain⟨k0,h2,rfl⟩:=cX h1
   exact((hr.st.ey x k0 h2).mono (fun _ _ _ _ _=>rfl) (Kept.refl _ _) (fun b _=>hO b)).kill h fun _ _=>rfl
 ·intro x x' k1 k2 y b m b2 m2 h1 h2
  obtain⟨k0,h5⟩:=key x k1 h1
  obtain⟨k0',h5'⟩:=key x' k2 h2
  exact hr.st.dA x x' k0 k0' y b m b2 m2 h5 h5'
 ·intro x k1 b m y h1 h2 hi
  by_cases e:x=h
  ·subst e
   rw[dv] at h1
   cases h1
   exact hr.st.cv x k b m y hk h2 hi
  ·rw[aG _ _ e] at h1
   obtain⟨k0,h5,rfl⟩:=cX h1
   obtain⟨a1,a2,a3,a4⟩:=hr.st.cv x k0 b m y h5 h2 hi
   exact⟨a1,a2,a3,fun hm=>a4 (by cases hp:k0.pure <;> simp only[hp] at hm <;> exact hm)⟩
 ·intro x k1 h1 h2
  obtain⟨k0,h5⟩:=key x k1 h1
  exact hr.st.fK x k0 h5 h2
 ·intro t g hg
  rw[fF] at hg
  cases hb:Nat.beq d t with
  | true=>
   rw[hb] at hg
   cases hg
   have:=ab hb
   subst this
   obtain⟨v,hv,hrv⟩:=hr.fr d _ hd
   exact⟨v,hv,hrv.mono (Kept.refl _ _) (fun b _=>hO b) (ar _)⟩
  | false=>
   rw[hb] at hg
   obtain⟨g0,h1,rfl⟩:=wx hg
   obtain⟨v,hv,hrv⟩:=hr.fr t g0 h1
   exact⟨v,hv,qq (hrv.mono (Kept.refl _ _) (fun b _=>hO b) (ar _)) fun k hk=>rfl⟩
def xp (s:ag S) (x:Operand){A:Type}(k:ag S→Option A):Option A:=
 match x with
 | .tmp t=>match bd s.bN t with
  | some (.sub h τ 0 n)=>match aA s.st h with
   | some (.arr e m f τ' l)=>match decEq τ' τ with
    | isTrue _=>match !(fT h s.lo)&&(!(cW h s.bF)&&!(TV.has.go h s.df)) with
     | true=>(cj (n≤l.length)).bind fun _=>k ((s.renew h (.arr e m f τ' (l.take n))).put t (.aM h τ'))
     | false=>none
    | isFalse _=>none
   | _=>none
  | _=>k s
 | _=>k s
theorem xn {s:ag S}{x:Operand}{A:Type}{k:ag S→Option A}{r:A}(hl:aJ s) (h:xp s x k=some r):∃t,Gh s.er t.er∧aJ t∧bj s t∧k t=some r:=by
 unfold xp at h
 split at h
 ·rename_i t
  split at h
  ·rename_i hh τ n hx
   split at h
   ·rename_i e m f τ' l ho
    split at h
    ·rename_i e1 _
     subst e1
     split at h
     ·rename_i hc
      simp only[ah,aZ] at hc
      obtain⟨hlo,hls,hdf⟩:=hc
      obtain⟨_,hck,hk⟩:=bind_some h
      have hn:n≤l.length:=cO hck
      refine⟨_,?_,(hl.renew hh (.arr e m f τ' (l.take n)) hlo hls).put t (.aM hh τ'),⟨rfl,rfl,rfl⟩,hk⟩
      obtain⟨e1,_,e3⟩:=zz (.arr e m f τ' (l.take n)) rfl hdf hlo hls
      rw[hP,e1]
      have e4:(TV.aM hh τ':TV S).er (s.renew hh (.arr e m f τ' (l.take n))).ln=.aM hh (S.sz τ') 0 n:=by
       show G.aM _ _ _ ((s.renew hh _).ln hh)=_
       rw[e3]
       show G.aM _ _ _ (l.take n).length=_
       rw[bH,gR hn]
      rw[e4]
      have e5:(TO.arr e m f τ' (l.take n):TO S).er s.ln={(TO.arr e m f τ' l:TO S).er s.ln with cells:=((TO.arr e m f τ' l:TO S).er s.ln).cells.take (n*S.sz τ')}:=by
       show aq.mk _ _ _ _ _ _ _=aq.mk _ _ _ _ _ _ _
       have:List.flatMap (aP S τ') (l.take n)=(List.flatMap (aP S τ') l).take (n*S.sz τ'):=xT (fun a=>rm S τ' a) l n
       rw[this];rfl
      rw[e5]
      have e6:AM.get (jq s.ln s.bN) t=some (G.aM hh (S.sz τ') 0 n):=by
       rw[fe hx]
       show some (G.aM _ _ (0*S.sz τ') _)=_
       rw[jE]
      intro N cx μ a w hr
      exact⟨μ,Rel.shrink hr (jA (gO ho)) rfl rfl e6,Gh.same fun x k1 b m' h1 h2=>by
       by_cases e:x=hh
       ·subst e;exact⟨_,jA (gO ho),h2⟩
       ·have h1:ay ((hh,_)::fp hh s.er.st) x=some k1:=h1
        rw[aG _ _ e] at h1
        obtain⟨k0,h3,_⟩:=cX h1
        exact⟨k0,h3,h2⟩⟩
     ·cases h
    ·cases h
   ·cases h
  ·exact⟨s,Gh.refl _,hl,bj.refl s,h⟩
 ·exact⟨s,Gh.refl _,hl,bj.refl s,h⟩
end
end Go.DN
/-
 DN,part Kc:copy.
-/
namespace Go.DN
open Go.AM
section
variable {S:dr}
def JB (P:Program) (ok:Nat→Bool) (s:ag S) (d:Nat) (c:Call){A:Type}(k:ag S→Option A):Option A:=
 none
section
variable {P:Program}{W:List Nat}{s:ag S}{ty:TypeId}{pos:String}{after:Array Edge}{guard:Option (Nat×Bool)}{A:Type}{k:ag S→Option A}{r:A}
theorem Kk {st:List (Nat×aq)}{h:Nat}{b:aq}(hb:ay st h=some b):eb st h b=st:=by
 induction st with
 | nil=>cases hb
 | cons x r ih=>
  obtain⟨y,g⟩:=x
  simp only[ay] at hb
  simp only[eb]
  cases hy:Nat.beq y h with
  | true=>rw[hy] at hb;cases hb;rfl
  | false=>rw[hy] at hb;rw[cond_false,ih hb]
theorem Nv {ok:Nat→Bool}(hokW:∀h,ok h=true→W.contains h=true){d:Nat}{args:Array Operand}{ts:Array TypeId}(hl:aJ s) (h:JB P ok s d ⟨.builtin .copy,args,ts⟩ k=some r):
  eU P W s ⟨some d,.call ⟨.builtin .copy,args,ts⟩,ty,pos,after,guard⟩ k r:=by
 unfold JB at h
 cases h
end
end
end Go.DN
/-
 DN,part Kf:append within an object,clear.
-/
namespace Go.AM
end Go.AM
namespace Go.DN
open Go.AM
section
variable {S:dr}
def Qt (s:ag S):List Operand→Bool
 | [x,y]=>match cq s x with
  | some (.sub h _ _ _)=>match cq s y with
   | some (.sub h2 _ _ _)=>Nat.beq h2 h
   | _=>false
  | _=>false
 | _=>false
def GI (P:Program) (ok:Nat→Bool) (s:ag S) (d:Nat) (c:Call){A:Type}(k:ag S→Option A):Option A:=
 none
def Gr (P:Program) (ok:Nat→Bool) (s:ag S) (c:Call){A:Type}(k:ag S→Option A):Option A:=
 none
section
variable {P:Program}{W:List Nat}{s:ag S}{ty:TypeId}{pos:String}{after:Array Edge}{guard:Option (Nat×Bool)}{A:Type}{k:ag S→Option A}{r:A}
theorem LM {ok:Nat→Bool}(hokW:∀h,ok h=true→W.contains h=true){d:Nat}{args:Array Operand}{ts:Array TypeId}(hl:aJ s) (h:GI P ok s d ⟨.builtin .append,args,ts⟩ k=some r):
  eU P W s ⟨some d,.call ⟨.builtin .append,args,ts⟩,ty,pos,after,guard⟩ k r:=by
 unfold GI at h
 cases h
theorem Lr {ok:Nat→Bool}(hokW:∀h,ok h=true→W.contains h=true){args:Array Operand}{ts:Array TypeId}(hl:aJ s) (h:Gr P ok s ⟨.builtin .clear,args,ts⟩ k=some r):
  eU P W s ⟨none,.call ⟨.builtin .clear,args,ts⟩,ty,pos,after,guard⟩ k r:=by
 unfold Gr at h
 cases h
end
end
end Go.DN
/-
 DN,part Kg:slices of structs of slices:made;one of the slices is taken out,and put in.
-/
namespace Go.DN
open Go.AM
section
variable {S:dr}
variable {P:Program}{W:List Nat}{ok:Nat→Bool}{s:ag S}{ty:TypeId}{pos:String}{after:Array Edge}{guard:Option (Nat×Bool)}{A:Type}{k:ag S→Option A}{r:A}
def O9 (S:dr) (P:Program) (t:TypeId):Bool:=match P.underlying t with
 | some (.slice e)=>(S.RC e).isSome
 | _=>false
def Cj (P:Program) (s:ag S) (d:Nat) (t:TypeId) (x y:Operand){A:Type}(k:ag S→Option A):Option A:=
 none
theorem IU {d:Nat}{t:TypeId}{x y:Operand}(hl:aJ s) (h:Cj P s d t x y k=some r):eU P W s ⟨some d,.makeSlice t x y,ty,pos,after,guard⟩ k r:=by
 unfold Cj at h
 cases h
def Cs (s:ag S) (op:Op):Bool:=match op with
 | .load _ x=>match cq s x with
  | some (.ia h _ _ _)=>FU s h
  | _=>false
 | _=>false
def B6 (P:Program) (ok:Nat→Bool) (s:ag S) (d:Nat) (t:TypeId) (x:Operand){A:Type}(k:ag S→Option A):Option A:=
 none
theorem IB (hokW:∀h,ok h=true→W.contains h=true){d:Nat}{t:TypeId}{x:Operand}(hl:aJ s) (h:B6 P ok s d t x k=some r):eU P W s ⟨some d,.load t x,ty,pos,after,guard⟩ k r:=by
 unfold B6 at h
 cases h
def E8 (P:Program) (ok:Nat→Bool) (s:ag S) (t:TypeId) (x y:Operand){A:Type}(k:ag S→Option A):Option A:=
 none
theorem Kv (hokW:∀h,ok h=true→W.contains h=true){t:TypeId}{x y:Operand}(hl:aJ s) (h:E8 P ok s t x y k=some r):eU P W s ⟨none,.store t x y,ty,pos,after,guard⟩ k r:=by
 unfold E8 at h
 cases h
end
end Go.DN
/-
 DN,part Kh:maps are made,get an entry more;a slice of one of the structs grows.
-/
namespace Go.DN
open Go.AM
section
variable {S:dr}
def Fw (P:Program) (s:ag S) (d:Nat) (t:TypeId) (n:Option Operand){A:Type}(k:ag S→Option A):Option A:=
 none
def Cm (P:Program) (ok:Nat→Bool) (s:ag S) (t:TypeId) (x y z:Operand){A:Type}(k:ag S→Option A):Option A:=
 none
def M5 (s:ag S):List Operand→Bool
 | [x,_]=>match cq s x with
  | some (.ks h _ _ _)=>match aA s.st h with
   | some (.deep _ _ _ (.map _ _ _) .map _)=>true
   | _=>false
  | _=>false
 | _=>false
def Cn (P:Program) (ok:Nat→Bool) (s:ag S) (d:Nat) (c:Call){A:Type}(k:ag S→Option A):Option A:=
 none
def Pb (s:ag S) (x:Operand):Bool:=match cq s x with
 | some (.kp h _ _ _)=>match aA s.st h with
  | some (.deep _ _ _ (.map _ _ _) .map _)=>true
  | _=>false
 | _=>false
def FB (P:Program) (ok:Nat→Bool) (s:ag S) (t:TypeId) (x y:Operand){A:Type}(k:ag S→Option A):Option A:=
 none
def Ow:List (TV S)→Bool
 | []=>true
 | .ks _ τ _ _::r=>(match τ with | .st _=>false | _=>true)&&Ow r
 | _::_=>false
def Rj (s:ag S) (parts:List (Nat×Operand)):Bool:=
 match parts with
 | []=>false
 | _=>match xC s parts 0 with
  | some vs=>Ow vs
  | none=>false
def JI (P:Program) (s:ag S) (d:Nat) (t:TypeId) (n:Nat) (parts:Array (Nat×Operand)){A:Type}(k:ag S→Option A):Option A:=
 none
section
variable {P:Program}{W:List Nat}{s:ag S}{ty:TypeId}{pos:String}{after:Array Edge}{guard:Option (Nat×Bool)}{A:Type}{k:ag S→Option A}{r:A}
theorem KO {d:Nat}{t:TypeId}{n:Option Operand}(hl:aJ s) (h:Fw P s d t n k=some r):eU P W s ⟨some d,.makeMap t n,ty,pos,after,guard⟩ k r:=by
 unfold Fw at h
 cases h
theorem IW {ok:Nat→Bool}(hokW:∀h,ok h=true→W.contains h=true){t:TypeId}{x y z:Operand}(hl:aJ s) (h:Cm P ok s t x y z k=some r):eU P W s ⟨none,.mapUpdate t x y z,ty,pos,after,guard⟩ k r:=by
 unfold Cm at h
 cases h
theorem IX {ok:Nat→Bool}(hokW:∀h,ok h=true→W.contains h=true){d:Nat}{args:Array Operand}{ts:Array TypeId}(hl:aJ s) (h:Cn P ok s d ⟨.builtin .append,args,ts⟩ k=some r):
  eU P W s ⟨some d,.call ⟨.builtin .append,args,ts⟩,ty,pos,after,guard⟩ k r:=by
 unfold Cn at h
 cases h
theorem KR {ok:Nat→Bool}(hokW:∀h,ok h=true→W.contains h=true){t:TypeId}{x y:Operand}(hl:aJ s) (h:FB P ok s t x y k=some r):eU P W s ⟨none,.store t x y,ty,pos,after,guard⟩ k r:=by
 unfold FB at h
 cases h
theorem NJ {d:Nat}{t:TypeId}{n:Nat}{parts:Array (Nat×Operand)}(hl:aJ s) (h:JI P s d t n parts k=some r):eU P W s ⟨some d,.buildSlice t n parts,ty,pos,after,guard⟩ k r:=by
 unfold JI at h
 cases h
end
end
end Go.DN
/-
 DN,part Ki:maps of plain data are made;a key gets another value.
-/
namespace Go.DN
open Go.AM
section
variable {S:dr}
def PW (P:Program) (t:TypeId):Option Nat:=match P.underlying t with
 | some (.map _ _)=>S.ty t
 | _=>none
def IT (P:Program) (s:ag S) (d:Nat) (t:TypeId) (n:Option Operand){A:Type}(k:ag S→Option A):Option A:=
 match n with
 | none=>match s.free (s.cZ d) with
  | true=>match PW (S:=S) P t with
   | some n0=>match S.cg n0 with
    | [.list (.st n)]=>match S.put n0 [⟨.list (.st n),[]⟩] with
     | some a0=>k ((s.add (s.cZ d) (.deep 0 true true .sm (.st n0) a0)).put d (.mp (s.cZ d)))
     | none=>none
    | _=>none
   | none=>none
  | false=>none
 | some _=>none
def EZ (n:Nat) (l:List (S.α n)) (k:ByteArray) (a:S.α n):List (S.α n):=
 bif List.any l (fun b=>zt k (S.cells n b)) then List.map (fun b=>bif zt k (S.cells n b) then a else b) l else l++[a]
def Ck (P:Program) (ok:Nat→Bool) (s:ag S) (t:TypeId) (x y z:Operand){A:Type}(k:ag S→Option A):Option A:=
 match cq s x with
 | some (.mp h)=>match ok h with
  | true=>match aA s.st h with
   | some (.deep e m f .sm (.st n0) a0)=>match S.cells n0 a0 with
    | [⟨.list (.st n),l⟩]=>match cq s y,cq s z with
     | some (.ae _ .str ky),some (.ae _ (.int q) v)=>match P.underlying t with
      | some (.map kt et)=>match P.underlying kt with
       | some .string=>match S.cg n with
        | [.str,.int q']=>match decide (q'=q) with
         | true=>match S.put n [⟨.str,ky⟩,⟨.int q,v⟩] with
          | some a=>match S.put n0 [⟨.list (.st n),EZ n l ky a⟩] with
           | some a1=>k (s.set h (.deep e m f .sm (.st n0) a1))
           | none=>none
          | none=>none
         | false=>none
        | _=>none
       | _=>none
      | _=>none
     | _,_=>none
    | _=>none
   | _=>none
  | false=>none
 | _=>none
theorem zu {n0 n:Nat}{a0:S.α n0}{l:List (S.α n)}(h:S.cells n0 a0=[⟨.list (.st n),l⟩]):o8 (S:=S) (.st n0) a0=List.map (fun a=>pF (S.cells n a)) l:=by
 show(match S.cells n0 a0 with | [⟨.list (.st n),l⟩]=>List.map (fun a=>pF (S.cells n a)) l | _=>[])=_
 rw[h]
theorem Mq {n:Nat}{q:IntKind}(ht:S.cg n=[.str,.int q]){k:ByteArray}{v:Int}{a:S.α n}(ha:S.cells n a=[⟨.str,k⟩,⟨.int q,v⟩]) (l:List (S.α n)):
  List.map (fun a=>pF (S.cells n a)) (EZ n l k a)=kU (List.map (fun a=>pF (S.cells n a)) l) k (.val (.int q v)):=by
 have ea:pF (S.cells n a)=(k,.val (.int q v)):=by rw[ha];rfl
 have e2:∀b:S.α n,zt k (S.cells n b)=decide ((pF (S.cells n b)).1=k):=fun b=>by
  obtain⟨x,u,hc⟩:=ye ht b
  rw[hc];rfl
 have e3:List.any l (fun b=>zt k (S.cells n b))=qe (List.map (fun a=>pF (S.cells n a)) l) k:=by
  unfold qe
  rw[List.any_map]
  congr 1
  funext b
  exact e2 b
 unfold EZ kU
 rw[e3]
 cases qe (List.map (fun a=>pF (S.cells n a)) l) k with
 | true=>
  rw[cond_true,cond_true,gS,gS]
  refine fB fun b _=>?_
  show pF (S.cells n (bif zt k (S.cells n b) then a else b))=bif decide ((pF (S.cells n b)).1=k) then(k,.val (.int q v)) else pF (S.cells n b)
  rw[e2 b]
  cases decide ((pF (S.cells n b)).1=k) with
  | true=>exact ea
  | false=>rfl
 | false=>
  rw[cond_false,cond_false,gk]
  show _++[pF (S.cells n a)]=_
  rw[ea]
end
section
variable {S:dr}{P:Program}{W:List Nat}{s:ag S}{ty:TypeId}{pos:String}{after:Array Edge}{guard:Option (Nat×Bool)}{A:Type}{k:ag S→Option A}{r:A}
theorem ML {d:Nat}{t:TypeId}{n:Option Operand}(hl:aJ s) (h:IT P s d t n k=some r):eU P W s ⟨some d,.makeMap t n,ty,pos,after,guard⟩ k r:=by
 unfold IT at h
 split at h
 ·split at h
  ·rename_i hf
   split at h
   ·rename_i n0 _
    split at h
    ·rename_i n ht
     split at h
     ·rename_i a0 ha
      obtain⟨e1,_⟩:=sf hf (.deep 0 true true .sm (.st n0) a0) rfl
      refine .one _ (EF.RK (s.cZ d) Value.string (iM hf)) ?_ ((hl.add _ hf).put _ _) ⟨rfl,rfl,rfl⟩ h
      have hb:(TO.deep 0 true true .sm (.st n0) a0:TO S).er (s.ln)=Hm Value.string:=by
       show(⟨0,true,true,true,1,[],some (.deep (uV Value.string (o8 (S:=S) (.st n0) a0)))⟩:aq)=_
       rw[zu (S.hU n0 _ a0 ha)];rfl
      rw[hP,e1]
      first
      | (rw[hb];exact Gh.refl _)
      | exact Gh.refl _
     ·cases h
    ·cases h
   ·cases h
  ·cases h
 ·cases h
theorem IV {ok:Nat→Bool}(hokW:∀h,ok h=true→W.contains h=true){t:TypeId}{x y z:Operand}(hl:aJ s) (h:Ck P ok s t x y z k=some r):eU P W s ⟨none,.mapUpdate t x y z,ty,pos,after,guard⟩ k r:=by
 unfold Ck at h
 split at h
 ·rename_i hh hx
  split at h
  ·rename_i hW
   split at h
   ·rename_i e m f n0 a0 ho
    split at h
    ·rename_i n l hcell
     split at h
     ·rename_i f1 ky f2 q v hy hz
      split at h
      ·rename_i kt et hu
       split at h
       ·rename_i hk
        split at h
        ·rename_i q' ht
         split at h
         ·rename_i hq
          have hq:=of_decide_eq_true hq
          subst hq
          split at h
          ·rename_i a ha
           split at h
           ·rename_i a1 ha1
            obtain⟨e2,e3⟩:=rO (s:=s) (o':=.deep e m f .sm (.st n0) a1) ho rfl
            have hK:GU P kt Value.string:=⟨⟨.string,hk,fun k=>by simp[MapKept.IsKey]⟩,fun k k' e=>Value.string.inj e⟩
            have:=EF.kU (P:=P) (W:=W) (ty:=ty) (pos:=pos) (after:=after) (guard:=guard) (s:=s.er) (key:=Value.string) (ky:=ky) (v:=.int q' v) (es:=o8 (S:=S) (.st n0) a0) (bc hx) (zi hy) (kO hz) (dJ (gO ho)) rfl hu hK (hokW _ hW)
            refine .one _ this ?_ (hl.set ho _) ⟨rfl,rfl,rfl⟩ h
            have hb:o8 (S:=S) (.st n0) a1=kU (o8 (S:=S) (.st n0) a0) ky (.val (.int q' v)):=by
             rw[zu (S.hU n0 _ a1 ha1),zu hcell,Mq ht (S.hU n _ a ha)]
            rw[e2]
            show Gh _ ⟨_,eb _ _ ⟨e,true,m,f,1,[],some (.deep (uV Value.string (o8 (S:=S) (.st n0) a1)))⟩,_⟩
            rw[hb]
            exact Gh.refl _
           ·cases h
          ·cases h
         ·cases h
        ·cases h
       ·cases h
      ·cases h
     ·cases h
    ·cases h
   ·cases h
  ·cases h
 ·cases h
end
end Go.DN
/-
 DN,part L:regions.
-/
namespace Go.DN
open Go.AM
section
variable {S:dr}
def vm (s:ag S) (c:Call):Bool:=
 match c.callee with
 | .value x=>match cq s x with
  | some (.cT _)=>true
  | _=>false
 | _=>false
def PP (s:ag S):Op→Option Call
 | .call c=>match vm s c with
  | true=>some c
  | false=>none
 | _=>none
def Po (s:ag S):List (Nat×Operand)→Bool
 | [(_,x)]=>match cq s x with
  | some (.aM h τ)=>match τ.gW with
   | true=>match aA s.st h with
    | some (.arr _ m _ _ _)=>m
    | _=>false
   | false=>false
  | _=>false
 | _=>false
def Br (s:ag S):List Operand→List Nat
 | []=>[]
 | x::r=>match cq s x with
  | some (.aM h _)=>match FW s h with
   | true=>h::Br s r
   | false=>Br s r
  | _=>Br s r
def OG (s:ag S) (x:Operand):Bool:=match cq s x with
 | some (.loc h off)=>match aA s.st h with
  | some (.box _ _ cs)=>match cs[off]? with
   | some (.sub _ _ _ _)=>true
   | _=>false
  | _=>false
 | _=>false
noncomputable def Lm (P:Program) (ok:Nat→Bool){A:Type}(cl:ag S→Option Nat→Call→(ag S→Option A)→Option A) (s:ag S) (dst:Option Nat) (op:Op) (k:ag S→Option A):Option A:=
 match dst with
 | some d=>match op with
  | .box t x=>NL s d t x k
  | .alloc t=>GK P s d t k
  | .makeSlice t x y=>match O9 S P t with
   | true=>Cj P s d t x y k
   | false=>AT P s d t x y k
  | .load t x=>B6 P ok s d t x k
  | .makeMap t n=>match (PW (S:=S) P t).isSome with
   | true=>IT P s d t n k
   | false=>Fw P s d t n k
  | .buildSlice t n parts=>match S.tH&&Po s parts.toList with
   | true=>CB P ok s d t n parts k
   | false=>match Rj s parts.toList with
    | true=>JI P s d t n parts k
    | false=>match qv (IK s (parts.toList.map (·.2))) s with
    | some s'=>NK P s' d t n parts k
    | none=>none
  | .binOp op t x y _=>MI P s d op t x y k
  | .call c=>match c.callee with
   | .builtin .append=>match c.args.toList with
    | x::r=>match Qt s (x::r) with
     | true=>GI P ok s d c k
     | false=>match M5 s (x::r) with
      | true=>Cn P ok s d c k
      | false=>match Br s [x] with
      | []=>match qv (Br s r) s with
       | some s=>xp s x fun s'=>NT P ok s' d c k
       | none=>none
      | _=>CC P ok s d c k
    | []=>none
   | .builtin .copy=>JB P ok s d c k
   | .value _=>match vm s c with
    | true=>none
    | false=>cl s (some d) c k
   | _=>none
  | _=>none
 | none=>match op with
  | .store t x y=>match cq s x with
   | some (.ia h _ _ _)=>match FW s h with
    | true=>match FU s h with
     | true=>E8 P ok s t x y k
     | false=>F9 P ok s t x y k
    | false=>match qv (IK s [y]) s with
     | some s'=>xt P ok s' t x y k
     | none=>none
   | _=>match Pb s x with
    | true=>FB P ok s t x y k
    | false=>match OG s x with
     | true=>xt P ok s t x y k
     | false=>xp s y fun s'=>xt P ok s' t x y k
  | .mapUpdate t x y z=>match PV s x with
   | true=>Ck P ok s t x y z k
   | false=>Cm P ok s t x y z k
  | .call c=>match c.callee with
   | .builtin .clear=>Gr P ok s c k
   | .value _=>match vm s c with
    | true=>none
    | false=>cl s none c k
   | _=>none
  | _=>none
def FV:Op→Bool
 | .box _ _=>true
 | .alloc _=>true
 | .makeSlice _ _ _=>true
 | .buildSlice _ _ _=>true
 | .store _ _ _=>true
 | .makeMap _ _=>true
 | .mapUpdate _ _ _ _=>true
 | .binOp op _ _ y _=>match op with
  | .eql=>match y with
   | .const (.slice none 0 0)=>true
   | _=>false
  | .neq=>match y with
   | .const (.slice none 0 0)=>true
   | _=>false
  | _=>false
 | .call c=>match c.callee with
  | .builtin .append=>true
  | .builtin .copy=>true
  | .builtin .clear=>true
  | .value _=>true
  | _=>false
 | _=>false
def RP:Op→Bool
 | .load _ _=>true
 | .lookup _ _ _ _=>true
 | _=>false
def RQ (s:ag S):Op→Bool
 | .convert _ _ x=>match cq s x with
  | some (.aM _ (.int .u8))=>true
  | _=>false
 | _=>false
def A5 (s:ag S) (op:Op):Bool:=RP op||RQ s op
def qy (N:Nat):Option Nat→Bool
 | some d=>Nat.blt d N
 | none=>true
def Ja (s:ag S) (op:Op):Bool:=FV op||Cs s op
noncomputable def KG (P:Program) (N:Nat) (ok:Nat→Bool){A:Type}(cl:ag S→Option Nat→Call→(ag S→Option A)→Option A) (s:ag S) (o:Oper) (k:ag S→Option A):Option A:=
 match qy N o.dst with
 | true=>match Ja s o.op with
  | true=>Lm P ok cl s o.dst o.op k
  | false=>match o.dst with
   | some d=>match A5 s o.op with
    | true=>He P [] s o.op fun v=>k (s.put d v)
    | false=>Fi P s o.op fun v x=>k (s.nM d v x)
   | none=>none
 | false=>none
def od (N:Nat) (s:ag S) (o:Oper):Option (ag S):=
 match o.dst with
 | some d=>match Nat.blt d N with
  | true=>some (s.put d (.aT []))
  | false=>none
 | none=>some {s with fr:=s.fr}
noncomputable def qh (P:Program) (N:Nat) (ok:Nat→Bool) (ops:List Oper){A:Type}(cl:ag S→Option Nat→Call→(ag S→Option A)→Option A):List Oper→ag S→(ag S→Option A)→Option A
 | [],s,k=>k s
 | o::r,s,k=>match o.guard with
  | none=>match PP s o.op with
   | some c=>cl s o.dst c fun s'=>qh P N ok ops cl r s' k
   | none=>KG P N ok cl s o fun s'=>qh P N ok ops cl r s' k
  | some (j,want)=>match ops[j]? with
   | some oj=>match oj.dst with
    | some d=>match bd s.bN d with
     | some (.ae _ .bool b)=>match want with
      | true=>cond b (KG P N ok cl (s.put d (.ae true .bool true)) o fun s'=>qh P N ok ops cl r s' k)
       (match od N (s.put d (.ae true .bool false)) o with | some s'=>qh P N ok ops cl r s' k | none=>none)
      | false=>cond b (match od N (s.put d (.ae true .bool true)) o with | some s'=>qh P N ok ops cl r s' k | none=>none)
       (KG P N ok cl (s.put d (.ae true .bool false)) o fun s'=>qh P N ok ops cl r s' k)
     | some (.aT [])=>match od N s o with
      | some s'=>qh P N ok ops cl r s' k
      | none=>none
     | _=>none
    | none=>none
   | none=>none
section
variable {P:Program}{N:Nat}{cx:Cx}{Q:Exit→St→Prop}{W:List Nat}{ok:Nat→Bool}{A:Type}{cl:ag S→Option Nat→Call→(ag S→Option A)→Option A}{r:A}
def Ez (P:Program) (W:List Nat) (s:ag S) (o:Oper){A:Type}(k:ag S→Option A) (kp:List PanicEntry→ag S→Option A) (r:A):Prop:=
 ∃(T:St→Prop) (Tp:List PanicEntry→St→Prop),j6 P W s.er o T Tp∧(∀s',T s'→∃t:ag S,Gh s' t.er∧aJ t∧bj s t∧k t=some r)∧∀ch s',Tp ch s'→∃t:ag S,Gh s' t.er∧aJ t∧bj s t∧kp ch t=some r
theorem eU.p {s:ag S}{o:Oper}{k:ag S→Option A}{kp:List PanicEntry→ag S→Option A}(h:eU P W s o k r):Ez P W s o k kp r:=
 let ⟨T,h1,h2⟩:=h
 ⟨T,_,h1.p,h2,fun _ _ h=>h.elim⟩
theorem j6.tell {s:St}{o:Oper}{T:St→Prop}{Tp Tp':List PanicEntry→St→Prop}(h:j6 P W s o T Tp) (ht:∀ch s',Tp ch s'→∃t,Gh s' t∧Tp' ch t):j6 P W s o T Tp':=
 ⟨h.1,fun N cx μ a w hr hN K Q hK hp=>h.2 N cx μ a w hr hN K Q hK fun ch μ' s' w' hr' hT=>by
  obtain⟨t,h1,h2⟩:=ht ch s' hT
  obtain⟨μ2,h3,_⟩:=h1 N cx μ' a w' hr'
  exact hp ch μ2 t w' h3 h2⟩
def yt (P:Program) (N:Nat) (W:List Nat){A:Type}(cl:ag S→Option Nat→Call→(ag S→Option A)→Option A) (kp:List PanicEntry→ag S→Option A) (r:A):Prop:=
 ∀(s:ag S) (dst:Option Nat) (c:Call) (k:ag S→Option A),aJ s→vm s c=false→cl s dst c k=some r→∀(ty:TypeId) (pos:String) (after:Array Edge) (guard:Option (Nat×Bool)),Ez P W s ⟨dst,.call c,ty,pos,after,guard⟩ k kp r
def EA (P:Program) (N:Nat) (W:List Nat){A:Type}(cl:ag S→Option Nat→Call→(ag S→Option A)→Option A) (r:A):Prop:=
 ∀(s:ag S) (dst:Option Nat) (c:Call) (k:ag S→Option A),aJ s→vm s c=false→cl s dst c k=some r→∀(ty:TypeId) (pos:String) (after:Array Edge) (guard:Option (Nat×Bool)),eU P W s ⟨dst,.call c,ty,pos,after,guard⟩ k r
theorem EA.p {kp:List PanicEntry→ag S→Option A}(h:EA P N W cl r):yt P N W cl kp r:=fun s dst c k a b d ty pos after guard=>(h s dst c k a b d ty pos after guard).p
def QQ (P:Program) (N:Nat){A:Type}(cl:ag S→Option Nat→Call→(ag S→Option A)→Option A) (r:A):Prop:=
 ∀(cx:Cx) (s:ag S) (dst:Option Nat) (c:Call) (k:ag S→Option A),aJ s→vm s c=true→cl s dst c k=some r→∀(ty:TypeId) (pos:String) (after:Array Edge) (ops:Array Oper) (rest:List Oper) (Q:Exit→St→Prop),
  (∀t:ag S,aJ t→bj s t→k t=some r→GL P N cx ops Q rest t.er)→GL P N cx ops Q (⟨dst,.call c,ty,pos,after,none⟩::rest) s.er
theorem LZ {s:ag S}{op:Op}{c:Call}(h:PP s op=some c):op=.call c∧vm s c=true:=by
 unfold PP at h
 split at h
 ·split at h
  ·rename_i hy;cases h;exact⟨rfl,hy⟩
  ·cases h
 ·cases h
theorem Gj (hokW:∀h,ok h=true→W.contains h=true){kp:List PanicEntry→ag S→Option A}(hcl:yt P N W cl kp r){s:ag S}{o:Oper}{k:ag S→Option A}(hl:aJ s) (h:Lm P ok cl s o.dst o.op k=some r):Ez P W s o k kp r:=by
 obtain⟨dst,op,ty,pos,after,guard⟩:=o
 unfold Lm at h
 dsimp only at h
 split at h
 ·split at h
  ·exact(PD hl h).p
  ·exact(LO hl h).p
  ·split at h
   ·exact(IU hl h).p
   ·exact(MN hl h).p
  ·exact(IB hokW hl h).p
  ·split at h
   ·exact(ML hl h).p
   ·exact(KO hl h).p
  ·split at h
   ·exact(Js hokW hl h).p
   ·split at h
    ·exact(NJ hl h).p
    ·split at h
     ·rename_i s' hz
      obtain⟨a1,a2,a3⟩:=mq hl hz
      exact(eU.gh a1 a3 (PB a2 h)).p
     ·cases h
  ·exact(O2 hl h).p
  ·rename_i c
   obtain⟨cal,args,ts⟩:=c
   dsimp only at h
   split at h
   ·split at h
    ·split at h
     ·exact(LM hokW hl h).p
     ·split at h
      ·exact(IX hokW hl h).p
      ·split at h
       ·split at h
        ·rename_i s1 hz
         obtain⟨b1,b2,b3⟩:=mq hl hz
         obtain⟨t,a1,a2,a3,a4⟩:=xn b2 h
         exact(eU.gh b1 b3 (eU.gh a1 a3 (PN hokW a2 a4))).p
        ·cases h
       ·exact(Jt hokW hl h).p
    ·cases h
   ·exact(Nv hokW hl h).p
   ·split at h
    ·cases h
    ·rename_i hy;exact hcl _ _ _ _ hl hy h _ _ _ _
   ·cases h
  ·cases h
 ·split at h
  ·split at h
   ·split at h
    ·split at h
     ·exact(Kv hokW hl h).p
     ·exact(Lf hokW hl h).p
    ·split at h
     ·rename_i s' hz
      obtain⟨a1,a2,a3⟩:=mq hl hz
      exact(eU.gh a1 a3 (xr hokW a2 h)).p
     ·cases h
   ·split at h
    ·exact(KR hokW hl h).p
    ·split at h
     ·exact(xr hokW hl h).p
     ·obtain⟨t,a1,a2,a3,a4⟩:=xn hl h
      exact(eU.gh a1 a3 (xr hokW a2 a4)).p
  ·split at h
   ·exact(IV hokW hl h).p
   ·exact(IW hokW hl h).p
  ·rename_i c
   obtain⟨cal,args,ts⟩:=c
   dsimp only at h
   split at h
   ·exact(Lr hokW hl h).p
   ·split at h
    ·cases h
    ·rename_i hy;exact hcl _ _ _ _ hl hy h _ _ _ _
   ·cases h
  ·cases h
theorem Fu (hokW:∀h,ok h=true→W.contains h=true){kp:List PanicEntry→ag S→Option A}(hcl:yt P N W cl kp r){s:ag S}{ops:Array Oper}{rest:List Oper}{o:Oper}{k:ag S→Option A}(hl:aJ s) (hw:dq ops s.er o.guard=some true)
  (h:KG P N ok cl s o k=some r) (hk:∀t:ag S,aJ t→bj s t→k t=some r→GL P N cx ops Q rest t.er)
  (hkp:∀ch (t:ag S),aJ t→bj s t→kp ch t=some r→∃u,Gh t.er u∧Q (.panic ch) u):GL P N cx ops Q (o::rest) s.er:=by
 unfold KG at h
 split at h
 ·rename_i hd
  split at h
  ·obtain⟨T,Tp,he,hT,hTp⟩:=Gj hokW hcl hl h
   refine GL.Pu (Tp:=fun ch u=>Q (.panic ch) u) hw (fun d e=>?_) (j6.tell he fun ch s' ht=>?_) (fun s' ht=>?_) fun _ _ h=>h
   ·rw[e] at hd;simpa[qy,fU] using hd
   ·obtain⟨t,h1,h2,h3,h4⟩:=hTp ch s' ht
    obtain⟨u,h5,h6⟩:=hkp ch t h2 h3 h4
    exact⟨u,h1.trans h5,h6⟩
   ·obtain⟨t,h1,h2,h3,h4⟩:=hT s' ht
    exact GL.gh h1 (hk t h2 h3 h4)
  ·split at h
   ·rename_i d e
    obtain⟨dst,op,ty,pos,after,guard⟩:=o
    dsimp only at e h hd
    subst e
    have hN:d<N:=by simpa[qy,fU] using hd
    split at h
    ·obtain⟨v,h1,h2⟩:=Aj (dst:=some d) (ty:=ty) (pos:=pos) (after:=after) (guard:=guard) hl h
     exact GL.yield hw rfl hN h1 (hk _ (hl.put d v) ⟨rfl,rfl,rfl⟩ h2)
    ·obtain⟨v,x,h1,h2,h3⟩:=AB (dst:=some d) (ty:=ty) (pos:=pos) (after:=after) (guard:=guard) h
     refine GL.yield hw rfl hN (h1.yield []) ?_
     rw[←yz s d v x]
     exact hk _ (Ca hl d h2) (rP s d v x) h3
   ·cases h
 ·cases h
theorem zw {s t:ag S}{ops:Array Oper}{rest:List Oper}{o:Oper}(hl:aJ s) (hw:dq ops s.er o.guard=some false) (h:od N s o=some t) (hk:aJ t→bj s t→GL P N cx ops Q rest t.er):GL P N cx ops Q (o::rest) s.er:=by
 unfold od at h
 obtain⟨dst,op,ty,pos,after,guard⟩:=o
 dsimp only at h
 split at h
 ·split at h
  ·rename_i hN
   cases h
   exact GL.R8 hw hN (hk (hl.put _ _) ⟨rfl,rfl,rfl⟩)
  ·cases h
 ·cases h
  refine GL.pass hw ?_
  exact hk hl ⟨rfl,rfl,rfl⟩
theorem uf {ops:List Oper}{s:ag S}{j d:Nat}{want b:Bool}{oj:Oper}(h1:ops[j]?=some oj) (h2:oj.dst=some d) (h3:bd s.bN d=some (.ae true .bool b)):dq ops.toArray s.er (some (j,want))=some (b==want):=by
 have:get s.er.fr d=some (.val (.bool b)):=by rw[show get s.er.fr d=_ from fe h3];exact congrArg some (gJ true b)
 simp[dq,h1,h2,this]
theorem JT {ops:List Oper}{s:ag S}{j d:Nat}{want:Bool}{oj:Oper}(h1:ops[j]?=some oj) (h2:oj.dst=some d) (h3:bd s.bN d=some (.aT [])):dq ops.toArray s.er (some (j,want))=some false:=by
 have:get s.er.fr d=some (.aT []):=by rw[show get s.er.fr d=_ from fe h3];rfl
 simp[dq,h1,h2,this]
theorem AW {s:ag S}{ops:Array Oper}{rest:List Oper}{d:Nat}{f b v:Bool}(h:bd s.bN d=some (.ae f .bool b)) (hb:b=v) (hk:GL P N cx ops Q rest (s.put d (.ae true .bool v)).er):GL P N cx ops Q rest s.er:=by
 refine GL.lit d (b:=b) (v:=v) ?_ hb ?_
 ·rw[show get s.er.fr d=_ from fe h];exact congrArg some (gJ f b)
 ·rw[hP] at hk
  have e:(TV.ae true .bool v:TV S).er s.ln=.val (.bool v):=gJ true v
  rw[e] at hk
  exact hk
theorem pI (hokW:∀h,ok h=true→W.contains h=true){kp:List PanicEntry→ag S→Option A}(hcl:yt P N W cl kp r) (hyl:QQ P N cl r){ops:List Oper}:∀{rest:List Oper}{s:ag S}{k:ag S→Option A},aJ s→qh P N ok ops cl rest s k=some r→
  (∀t:ag S,aJ t→bj s t→k t=some r→Q .normal t.er)→(∀ch (t:ag S),aJ t→bj s t→kp ch t=some r→∃u,Gh t.er u∧Q (.panic ch) u)→GL P N cx ops.toArray Q rest s.er
 | [],s,k,hl,h,hk,_=>GL.nil (hk s hl (bj.refl s) h)
 | o::rest,s,k,hl,h,hk,hkp=>by
  simp only[qh] at h
  split at h
  ·rename_i hg
   split at h
   ·rename_i c hc
    obtain⟨e1,e2⟩:=LZ hc
    obtain⟨dst,op,ty,pos,after,guard⟩:=o
    dsimp only at hg e1 h
    subst hg;subst e1
    exact hyl cx s dst c _ hl e2 h ty pos after _ _ _ fun t hl' hkp' h'=>pI hokW hcl hyl hl' h' (fun t2 a1 a2 a3=>hk t2 a1 (bj.trans ⟨hkp'.lo,hkp'.bF,hkp'.df⟩ a2) a3) fun ch t2 a1 a2 a3=>hkp ch t2 a1 (bj.trans ⟨hkp'.lo,hkp'.bF,hkp'.df⟩ a2) a3
   exact Fu hokW hcl hl (by rw[hg];rfl) h (fun t hl' hkp' h'=>pI hokW hcl hyl hl' h' (fun t2 a1 a2 a3=>hk t2 a1 (bj.trans ⟨hkp'.lo,hkp'.bF,hkp'.df⟩ a2) a3) fun ch t2 a1 a2 a3=>hkp ch t2 a1 (bj.trans ⟨hkp'.lo,hkp'.bF,hkp'.df⟩ a2) a3) hkp
  ·rename_i j want hg
   split at h
   ·rename_i oj hj
    split at h
    ·rename_i d hd
     split at h
     ·rename_i f b hb
      have hlt:=fun v=>aJ.put hl d (.ae true .bool v:TV S)
      have ht:∀v,bd (s.put d (.ae true .bool v)).bN d=some (.ae true .bool v):=fun v=>by simp only[ag.put,ag.bN,ca,bd,aK,cond_true]
      split at h
      ·cases hbv:b with
       | true=>
        rw[hbv] at h
        refine AW hb hbv (Fu hokW hcl (hlt true) ?_ h (fun t hl' hkp' h'=>pI hokW hcl hyl hl' h' (fun t2 a1 a2 a3=>hk t2 a1 (bj.trans ⟨hkp'.lo,hkp'.bF,hkp'.df⟩ a2) a3) fun ch t2 a1 a2 a3=>hkp ch t2 a1 (bj.trans ⟨hkp'.lo,hkp'.bF,hkp'.df⟩ a2) a3) fun ch t2 a1 a2 a3=>hkp ch t2 a1 ⟨a2.lo,a2.bF,a2.df⟩ a3)
        rw[hg,uf hj hd (ht true)];rfl
       | false=>
        rw[hbv] at h
        dsimp only[cond_false] at h
        refine AW hb hbv ?_
        split at h
        ·rename_i s' hs
         exact zw (hlt false) (by rw[hg,uf hj hd (ht false)];rfl) hs fun hl' hkp'=>pI hokW hcl hyl hl' h (fun t2 a1 a2 a3=>hk t2 a1 (bj.trans ⟨hkp'.lo,hkp'.bF,hkp'.df⟩ a2) a3) fun ch t2 a1 a2 a3=>hkp ch t2 a1 (bj.trans ⟨hkp'.lo,hkp'.bF,hkp'.df⟩ a2) a3
        ·cases h
      ·cases hbv:b with
       | true=>
        rw[hbv] at h
        dsimp only[cond_true] at h
        refine AW hb hbv ?_
        split at h
        ·rename_i s' hs
         exact zw (hlt true) (by rw[hg,uf hj hd (ht true)];rfl) hs fun hl' hkp'=>pI hokW hcl hyl hl' h (fun t2 a1 a2 a3=>hk t2 a1 (bj.trans ⟨hkp'.lo,hkp'.bF,hkp'.df⟩ a2) a3) fun ch t2 a1 a2 a3=>hkp ch t2 a1 (bj.trans ⟨hkp'.lo,hkp'.bF,hkp'.df⟩ a2) a3
        ·cases h
       | false=>
        rw[hbv] at h
        refine AW hb hbv (Fu hokW hcl (hlt false) ?_ h (fun t hl' hkp' h'=>pI hokW hcl hyl hl' h' (fun t2 a1 a2 a3=>hk t2 a1 (bj.trans ⟨hkp'.lo,hkp'.bF,hkp'.df⟩ a2) a3) fun ch t2 a1 a2 a3=>hkp ch t2 a1 (bj.trans ⟨hkp'.lo,hkp'.bF,hkp'.df⟩ a2) a3) fun ch t2 a1 a2 a3=>hkp ch t2 a1 ⟨a2.lo,a2.bF,a2.df⟩ a3)
        rw[hg,uf hj hd (ht false)];rfl
     ·rename_i hb
      split at h
      ·rename_i s' hs
       exact zw hl (by rw[hg,JT hj hd hb]) hs fun hl' hkp'=>pI hokW hcl hyl hl' h (fun t2 a1 a2 a3=>hk t2 a1 (bj.trans ⟨hkp'.lo,hkp'.bF,hkp'.df⟩ a2) a3) fun ch t2 a1 a2 a3=>hkp ch t2 a1 (bj.trans ⟨hkp'.lo,hkp'.bF,hkp'.df⟩ a2) a3
      ·cases h
     ·cases h
    ·cases h
   ·cases h
end
end
end Go.DN
/-
 DN,part M:regions that draw their order.
-/
namespace Go.DN
open Go.AM
section
variable {S:dr}
def qj (s:ag S):List Operand→Bool
 | []=>false
 | x::r=>match cq s x with
  | some (.aT [])=>true
  | _=>qj s r
def calm (W:List Nat) (s:ag S) (o:Oper):Bool:=
 match o.op with
 | .load _ x=>match cq s x with
  | some (.ptr _ _ _)=>true
  | some (.loc h _)=>!(W.contains h)
  | some (.ia h _ _ _)=>!(W.contains h)
  | some (.aT [])=>true
  | _=>false
 | .call c=>match FV (.call c) with
  | true=>qj s c.args.toList
  | false=>true
 | .binOp op t x y t'=>match FV (.binOp op t x y t') with
  | true=>qj s [x]
  | false=>true
 | .lookup _ _ _ _=>false
 | .convert _ _ x=>match cq s x with
  | some (.aM h (.int .u8))=>!(W.contains h)
  | _=>true
 | op=>!(FV op)
def off (s:ag S) (o:Oper):Bool:=
 match o.op with
 | .load _ x=>qj s [x]
 | .call c=>qj s c.args.toList
 | .binOp _ _ x _ _=>qj s [x]
 | _=>false
def pick (f:Oper→Bool) (ops:Array Oper) (listed:Array Bool):List Nat→Option (Nat×Oper)
 | []=>none
 | i::r=>match ops[i]? with
  | some o=>match f o&&Region.free .any ops listed i with
   | true=>some (i,o)
   | false=>pick f ops listed r
  | none=>pick f ops listed r
theorem vd {f:Oper→Bool}{ops:Array Oper}{listed:Array Bool}:∀{l:List Nat}{i:Nat}{o:Oper},pick f ops listed l=some (i,o)→i∈l∧ops[i]?=some o∧f o=true∧Region.free .any ops listed i=true
 | [],_,_,h=>by cases h
 | j::r,i,o,h=>by
  simp only[pick] at h
  split at h
  ·rename_i o' ho
   split at h
   ·rename_i hc
    cases h
    simp only[ah] at hc
    exact⟨aC,ho,hc.1,hc.2⟩
   ·obtain⟨h1,h2⟩:=vd h
    exact⟨aw _ h1,h2⟩
  ·obtain⟨h1,h2⟩:=vd h
   exact⟨aw _ h1,h2⟩
def vt (N:Nat) (ops:Array Oper) (s:ag S) (o:Oper){A:Type}(run:ag S→Option A) (skip:ag S→Option A):Option A:=
 match o.guard with
 | none=>run s
 | some (j,want)=>match ops[j]? with
  | some oj=>match oj.dst with
   | some d=>match bd s.bN d with
    | some (.ae _ .bool b)=>match want with
     | true=>cond b (run (s.put d (.ae true .bool true))) (match od N (s.put d (.ae true .bool false)) o with | some s'=>skip s' | none=>none)
     | false=>cond b (match od N (s.put d (.ae true .bool true)) o with | some s'=>skip s' | none=>none) (run (s.put d (.ae true .bool false)))
    | some (.aT [])=>match od N s o with
     | some s'=>skip s'
     | none=>none
    | _=>none
   | none=>none
  | none=>none
open Classical in
noncomputable def DX {A:Type}(x y:Option A):Option A:=if x=y then x else none
theorem NV {A:Type}{x y:Option A}{r:A}(h:DX x y=some r):x=some r∧y=some r:=by
 unfold DX at h
 split at h
 ·rename_i e
  exact⟨h,e▸h⟩
 ·cases h
theorem Af {A:Type}(x:Option A):DX x x=x:=by unfold DX;simp
noncomputable def JM {A:Type}(x:Option A):Option A:=DX x x
theorem LN {A:Type}(x:Option A):JM x=x:=Af x
noncomputable def NW {A:Type}:List (Option A)→Option A
 | []=>none
 | [x]=>x
 | x::r=>DX x (NW r)
theorem DW {A:Type}:∀{l:List (Option A)}{r:A},NW l=some r→∀x∈l,x=some r
 | [],_,h,x,hx=>by cases hx
 | [y],r,h,x,hx=>by simp at hx;subst hx;exact h
 | y::z::l,r,h,x,hx=>by
  obtain⟨h1,h2⟩:=NV h
  rcases bU.1 hx with e | hx
  ·subst e;exact h1
  ·exact DW h2 x hx
def FN (ops:Array Oper) (s:ag S) (o:Oper):Bool:=
 match o.guard with
 | none=>true
 | some (j,want)=>match ops[j]? with
  | some oj=>match oj.dst with
   | some d=>match bd s.bN d with
    | some (.ae _ .bool b)=>match b with
     | true=>want
     | false=>!want
    | _=>false
   | none=>false
  | none=>false
theorem K0 {ops:Array Oper}{s:ag S}{o:Oper}(h:FN ops s o=true):dq ops s.er o.guard=some true:=by
 unfold FN at h
 split at h
 ·rename_i hg;rw[hg];rfl
 ·rename_i j want hg
  rw[hg]
  split at h
  ·rename_i oj hj
   split at h
   ·rename_i d hd
    split at h
    ·rename_i f b hb
     have:get s.er.fr d=some (.val (.bool b)):=by rw[show get s.er.fr d=_ from fe hb];exact congrArg some (gJ f b)
     have hw:dq ops s.er (some (j,want))=some (b==want):=by simp[dq,hj,hd,this]
     rw[hw]
     cases b <;> cases want <;> first | rfl | cases h
    ·cases h
   ·cases h
  ·cases h
def oM (ops:Array Oper){A:Type}:List Nat→ag S→(ag S→Option A)→Option A
 | [],s,k=>k s
 | i::r,s,k=>match ops[i]? with
  | some o=>match o.guard with
   | some (j,_)=>match ops[j]? with
    | some oj=>match oj.dst with
     | some d=>match bd s.bN d with
      | some (.ae _ .bool b)=>cond b (oM ops r (s.put d (.ae true .bool true)) k) (oM ops r (s.put d (.ae true .bool false)) k)
      | _=>oM ops r s k
     | none=>oM ops r s k
    | none=>oM ops r s k
   | none=>oM ops r s k
  | none=>oM ops r s k
def MG (ops:Array Oper) (s:ag S) (o:Oper):Bool:=
 match o.guard with
 | none=>false
 | some (j,want)=>match ops[j]? with
  | some oj=>match oj.dst with
   | some d=>match bd s.bN d with
    | some (.ae _ .bool b)=>match b with
     | true=>!want
     | false=>want
    | some (.aT [])=>true
    | _=>false
   | none=>false
  | none=>false
noncomputable def lz (P:Program) (N:Nat) (ok:Nat→Bool) (ops:Array Oper){A:Type}(cl:ag S→Option Nat→Call→(ag S→Option A)→Option A):Nat→Array Bool→ag S→(ag S→Option A)→Option A
 | 0,listed,s,k=>match Region.ready .any ops listed with
  | []=>k s
  | _=>none
 | bi+1,listed,s,k=>match Region.ready .any ops listed with
  | []=>k s
  | i0::rs=>match pick (fun o=>qy N o.dst&&((!(A5 s o.op)&&!(FV o.op))||off s o)&&o.dst.isSome) ops listed (i0::rs) with
   | some (i,o)=>vt N ops s o (fun s'=>match o.dst with
     | some d=>Fi P s' o.op fun v x=>lz P N ok ops cl bi (listed.setIfInBounds i true) (s'.nM d v x) k
     | none=>none) (fun s'=>lz P N ok ops cl bi (listed.setIfInBounds i true) s' k)
   | none=>match rs with
    | []=>match ops[i0]? with
     | some o=>match qy N o.dst with
      | true=>match o.dst,A5 s o.op&&!(Cs s o.op) with
       | some d,true=>vt N ops s o (fun s'=>He P [] s' o.op fun v=>lz P N ok ops cl bi (listed.setIfInBounds i0 true) (s'.put d v) k) (fun s'=>match Region.free .any ops listed i0 with
        | true=>lz P N ok ops cl bi (listed.setIfInBounds i0 true) s' k
        | false=>none)
       | _,_=>match Ja s o.op with
        | true=>vt N ops s o (fun s'=>Lm P ok cl s' o.dst o.op fun s2=>lz P N ok ops cl bi (listed.setIfInBounds i0 true) s2 k) (fun s'=>match Region.free .any ops listed i0 with
         | true=>lz P N ok ops cl bi (listed.setIfInBounds i0 true) s' k
         | false=>none)
        | false=>none
      | false=>none
     | none=>none
    | _=>oM ops (i0::rs) s fun s=>match pick (fun o=>qy N o.dst&&MG ops s o&&o.dst.isSome) ops listed (i0::rs) with
     | some (i,o)=>match od N s o with
      | some s'=>lz P N ok ops cl bi (listed.setIfInBounds i true) s' k
      | none=>none
     | none=>NW ((i0::rs).map fun i=>match ops[i]? with
      | some o=>match qy N o.dst&&FN ops s o with
       | true=>match o.dst,A5 s o.op&&!(Cs s o.op) with
        | some d,true=>He P [] s o.op fun v=>lz P N ok ops cl bi (listed.setIfInBounds i true) (s.put d v) k
        | _,_=>match Ja s o.op with
         | true=>Lm P ok cl s o.dst o.op fun s2=>lz P N ok ops cl bi (listed.setIfInBounds i true) s2 k
         | false=>none
       | false=>none
      | none=>none)
noncomputable def vv (P:Program) (N:Nat) (ok:Nat→Bool) (W:List Nat) (ops:Array Oper){A:Type}(cl:ag S→Option Nat→Call→(ag S→Option A)→Option A):Nat→Array Bool→ag S→(ag S→Option A)→Option A
 | 0,listed,s,k=>lz P N ok ops cl 0 listed s k
 | bi+1,listed,s,k=>match pick (fun o=>qy N o.dst&&calm W s o&&o.dst.isSome) ops listed (Region.ready .any ops listed) with
  | some (i,o)=>vt N ops s o (fun s'=>match o.dst with
    | some d=>match A5 s' o.op with
     | true=>He P W s' o.op fun v=>vv P N ok W ops cl bi (listed.setIfInBounds i true) (s'.put d v) k
     | false=>Fi P s' o.op fun v x=>vv P N ok W ops cl bi (listed.setIfInBounds i true) (s'.nM d v x) k
    | none=>none) (fun s'=>vv P N ok W ops cl bi (listed.setIfInBounds i true) s' k)
  | none=>lz P N ok ops cl (bi+1) listed s k
noncomputable def uL (P:Program) (N:Nat) (ok:Nat→Bool) (W:List Nat) (ops:Array Oper){A:Type}(cl:ag S→Option Nat→Call→(ag S→Option A)→Option A) (s:ag S) (k:ag S→Option A):Option A:=
 match Region.noSelect ops&&rc ops.toList with
 | true=>vv P N ok W ops cl ops.size (Array.replicate ops.size false) s k
 | false=>none
section
variable {P:Program}{N:Nat}{cx:Cx}{Q:Exit→St→Prop}{W:List Nat}{ok:Nat→Bool}{A:Type}{cl:ag S→Option Nat→Call→(ag S→Option A)→Option A}{r:A}{ops:Array Oper}
theorem sx {s:ag S}{j d:Nat}{want b:Bool}{oj:Oper}(h1:ops[j]?=some oj) (h2:oj.dst=some d) (h3:bd s.bN d=some (.ae true .bool b)):dq ops s.er (some (j,want))=some (b==want):=by
 have:get s.er.fr d=some (.val (.bool b)):=by rw[show get s.er.fr d=_ from fe h3];exact congrArg some (gJ true b)
 simp[dq,h1,h2,this]
theorem H8 {s:ag S}{j d:Nat}{want:Bool}{oj:Oper}(h1:ops[j]?=some oj) (h2:oj.dst=some d) (h3:bd s.bN d=some (.aT [])):dq ops s.er (some (j,want))=some false:=by
 have:get s.er.fr d=some (.aT []):=by rw[show get s.er.fr d=_ from fe h3];rfl
 simp[dq,h1,h2,this]
theorem O1 {s:ag S}{o:Oper}(h:MG ops s o=true):dq ops s.er o.guard=some false:=by
 unfold MG at h
 split at h
 ·cases h
 ·rename_i j want hg
  rw[hg]
  split at h
  ·rename_i oj hj
   split at h
   ·rename_i d hd
    split at h
    ·rename_i f b hb
     have:get s.er.fr d=some (.val (.bool b)):=by rw[show get s.er.fr d=_ from fe hb];exact congrArg some (gJ f b)
     have hw:dq ops s.er (some (j,want))=some (b==want):=by simp[dq,hj,hd,this]
     rw[hw]
     cases b <;> cases want <;> first | rfl | cases h
    ·rename_i hb
     have:get s.er.fr d=some (.aT []):=fe hb
     simp[dq,hj,hd,this]
    ·cases h
   ·cases h
  ·cases h
theorem ma {X:St→Prop}(hlit:∀(s:St) (t:Nat) (b v:Bool),get s.fr t=some (.val (.bool b))→b=v→X {fr:=(t,.val (.bool v))::s.fr,st:=s.st,df:=s.df}→X s):∀{l:List Nat}{s:ag S}{k:ag S→Option A},aJ s→oM ops l s k=some r→
  (∀t:ag S,aJ t→bj s t→k t=some r→X t.er)→X s.er
 | [],s,k,hl,h,hk=>hk s hl (bj.refl s) h
 | i::l,s,k,hl,h,hk=>by
  have lit:∀{s:ag S}{d:Nat}{f b:Bool}(v:Bool),bd s.bN d=some (.ae f .bool b)→b=v→X (s.put d (.ae true .bool v)).er→X s.er:=by
   intro s d f b v hb e hX
   refine hlit _ d b v ?_ e ?_
   ·rw[show get s.er.fr d=_ from fe hb];exact congrArg some (gJ f b)
   ·rw[hP] at hX
    have e2:(TV.ae true .bool v:TV S).er s.ln=.val (.bool v):=gJ true v
    rw[e2] at hX
    exact hX
  simp only[oM] at h
  split at h
  ·split at h
   ·split at h
    ·split at h
     ·rename_i d _
      split at h
      ·rename_i f b hb
       cases hbv:b with
       | true=>
        rw[hbv] at h
        exact lit true hb hbv (ma hlit (hl.put d _) h fun t a1 a2 a3=>hk t a1 ⟨a2.lo,a2.bF,a2.df⟩ a3)
       | false=>
        rw[hbv] at h
        exact lit false hb hbv (ma hlit (hl.put d _) h fun t a1 a2 a3=>hk t a1 ⟨a2.lo,a2.bF,a2.df⟩ a3)
      ·exact ma hlit hl h hk
     ·exact ma hlit hl h hk
    ·exact ma hlit hl h hk
   ·exact ma hlit hl h hk
  ·exact ma hlit hl h hk
theorem uC {X:St→Prop}(hlit:∀(s:St) (t:Nat) (b v:Bool),get s.fr t=some (.val (.bool b))→b=v→X {fr:=(t,.val (.bool v))::s.fr,st:=s.st,df:=s.df}→X s)
  {s:ag S}{o:Oper}{run skip:ag S→Option A}(hl:aJ s) (h:vt N ops s o run skip=some r)
  (hrun:∀t:ag S,aJ t→bj s t→dq ops t.er o.guard=some true→run t=some r→X t.er)
  (hskip:∀(t t':ag S),aJ t→bj s t→dq ops t.er o.guard=some false→od N t o=some t'→skip t'=some r→X t.er):X s.er:=by
 unfold vt at h
 have lit:∀{s:ag S}{d:Nat}{f b:Bool}(v:Bool),bd s.bN d=some (.ae f .bool b)→b=v→X (s.put d (.ae true .bool v)).er→X s.er:=by
  intro s d f b v hb e hX
  refine hlit _ d b v ?_ e ?_
  ·rw[show get s.er.fr d=_ from fe hb];exact congrArg some (gJ f b)
  ·rw[hP] at hX
   have e2:(TV.ae true .bool v:TV S).er s.ln=.val (.bool v):=gJ true v
   rw[e2] at hX
   exact hX
 split at h
 ·rename_i hg
  exact hrun s hl (bj.refl s) (by rw[hg];rfl) h
 ·rename_i j want hg
  split at h
  ·rename_i oj hj
   split at h
   ·rename_i d hd
    split at h
    ·rename_i f b hb
     have hlt:=fun v=>aJ.put hl d (.ae true .bool v:TV S)
     have ht:∀v,bd (s.put d (.ae true .bool v)).bN d=some (.ae true .bool v):=fun v=>by simp only[ag.put,ag.bN,ca,bd,aK,cond_true]
     split at h
     ·cases hbv:b with
      | true=>
       rw[hbv] at h
       exact lit true hb hbv (hrun _ (hlt true) ⟨rfl,rfl,rfl⟩ (by rw[hg,sx hj hd (ht true)];rfl) h)
      | false=>
       rw[hbv] at h
       dsimp only[cond_false] at h
       refine lit false hb hbv ?_
       split at h
       ·rename_i s' hs
        exact hskip _ s' (hlt false) ⟨rfl,rfl,rfl⟩ (by rw[hg,sx hj hd (ht false)];rfl) hs h
       ·cases h
     ·cases hbv:b with
      | true=>
       rw[hbv] at h
       dsimp only[cond_true] at h
       refine lit true hb hbv ?_
       split at h
       ·rename_i s' hs
        exact hskip _ s' (hlt true) ⟨rfl,rfl,rfl⟩ (by rw[hg,sx hj hd (ht true)];rfl) hs h
       ·cases h
      | false=>
       rw[hbv] at h
       exact lit false hb hbv (hrun _ (hlt false) ⟨rfl,rfl,rfl⟩ (by rw[hg,sx hj hd (ht false)];rfl) h)
    ·rename_i hb
     split at h
     ·rename_i s' hs
      exact hskip _ s' hl (bj.refl s) (by rw[hg,H8 hj hd hb]) hs h
     ·cases h
    ·cases h
   ·cases h
  ·cases h
theorem qf {s t:ag S}{o:Oper}{d:Nat}(hd:o.dst=some d) (h:od N s o=some t):d<N∧t=s.put d (.aT []):=by
 unfold od at h
 rw[hd] at h
 dsimp only at h
 split at h
 ·rename_i hN
  cases h
  exact⟨by simpa[fU] using hN,rfl⟩
 ·cases h
theorem eX.Q7 {s:St}{bi:Nat}{listed:Array Bool}(i:Nat){o:Oper}(hi:ops[i]?=some o) (hs:Region.noSelect ops=true) (hf:Region.free .any ops listed i=true)
  (hr:(Region.ready .any ops listed).contains i=true) (hw:dq ops s o.guard=some false) (hd:o.dst=none)
  (h:eX P N cx ops Q W bi (listed.setIfInBounds i true) s):eX P N cx ops Q W (bi+1) listed s:=by
 intro ws Wb μ a w hrel hS hW
 refine wpAnyH_take (v:=undef) hi hs hf hr (fun c a' w' h=>(by rw[hd] at h;exact h)) (.inr ⟨eF hrel hw,rfl⟩) hS ?_
 rw[hd]
 exact h ws Wb μ _ w hrel hS hW
theorem je (hokW:∀h,ok h=true→W.contains h=true){kp:List PanicEntry→ag S→Option A}(hcl:yt P N W cl kp r) (hs:Region.noSelect ops=true) (hpn:GS Q (tL ops)):∀{bi:Nat}{listed:Array Bool}{s:ag S}{k:ag S→Option A},aJ s→lz P N ok ops cl bi listed s k=some r→
  (∀t:ag S,aJ t→bj s t→k t=some r→Q .normal t.er)→(∀ch (t:ag S),aJ t→bj s t→kp ch t=some r→∃u,Gh t.er u∧Q (.panic ch) u)→eX P N cx ops Q W bi listed s.er
 | 0,listed,s,k,hl,h,hk,hkp=>by
  unfold lz at h
  split at h
  ·rename_i hr
   exact eX.done hr (hk s hl (bj.refl s) h)
  ·cases h
 | bi+1,listed,s,k,hl,h,hk,hkp0=>by
  unfold lz at h
  split at h
  ·rename_i hr
   exact eX.done hr (hk s hl (bj.refl s) h)
  ·rename_i i0 rs hr
   split at h
   ·rename_i i o hp
    obtain⟨p1,p2,p3,p4⟩:=vd hp
    simp only[ah] at p3
    obtain⟨⟨q1,q2⟩,q4⟩:=p3
    have hcon:(Region.ready .any ops listed).contains i=true:=by rw[hr];exact fC.2 p1
    refine uC (X:=fun s=>eX P N cx ops Q W (bi+1) listed s) (fun s t b v h1 h2 h3=>eX.lit t h1 h2 h3) hl h (fun t hl' hkp hw h'=>?_) (fun t t' hl' hkp hw hsk h'=>?_)
    ·cases hd:o.dst with
     | none=>rw[hd] at q4;cases q4
     | some d=>
      rw[hd] at h' q1
      dsimp only at h'
      have hN:d<N:=by simpa[qy,fU] using q1
      obtain⟨v,x,h1,h2,h3⟩:=AB (dst:=o.dst) (ty:=o.type) (pos:=o.pos) (after:=o.after) (guard:=o.guard) h'
      refine eX.take i hpn p2 hs p4 hcon hw hd hN h1 ?_
      rw[←yz t d v x]
      exact je hokW hcl hs hpn (Ca hl' d h2) h3 (fun t2 a1 a2 a3=>hk t2 a1 ((hkp.trans (rP t d v x)).trans a2) a3) fun ch t2 a1 a2 a3=>hkp0 ch t2 a1 ((hkp.trans (rP t d v x)).trans a2) a3
    ·cases hd:o.dst with
     | none=>rw[hd] at q4;cases q4
     | some d=>
      obtain⟨hN,e⟩:=qf hd hsk
      subst e
      exact eX.yA i hpn p2 hs p4 hcon hw hd hN (je hokW hcl hs hpn (hl'.put _ _) h' (fun t2 a1 a2 a3=>hk t2 a1 (hkp.trans ⟨a2.lo,a2.bF,a2.df⟩) a3) fun ch t2 a1 a2 a3=>hkp0 ch t2 a1 (hkp.trans ⟨a2.lo,a2.bF,a2.df⟩) a3)
   ·split at h
    ·split at h
     ·rename_i o ho
      split at h
      ·rename_i hdN
       split at h
       ·rename_i d hd hld
        have hN:d<N:=by rw[hd] at hdN;simpa[qy,fU] using hdN
        refine uC (X:=fun s=>eX P N cx ops Q W (bi+1) listed s) (fun s t b v h1 h2 h3=>eX.lit t h1 h2 h3) hl h (fun t hl' hkp hw h'=>?_) (fun t t' hl' hkp hw hsk h'=>?_)
        ·obtain⟨v,h1,h2⟩:=Aj (dst:=o.dst) (ty:=o.type) (pos:=o.pos) (after:=o.after) (guard:=o.guard) hl' h'
         exact eX.RH i0 hr ho hw hd hN h1 (je hokW hcl hs hpn (hl'.put d v) h2 (fun t2 a1 a2 a3=>hk t2 a1 (hkp.trans ⟨a2.lo,a2.bF,a2.df⟩) a3) fun ch t2 a1 a2 a3=>hkp0 ch t2 a1 (hkp.trans ⟨a2.lo,a2.bF,a2.df⟩) a3)
        ·split at h'
         ·rename_i hf
          obtain⟨_,e⟩:=qf hd hsk
          subst e
          exact eX.yA i0 hpn ho hs hf (by rw[hr];simp) hw hd hN (je hokW hcl hs hpn (hl'.put _ _) h' (fun t2 a1 a2 a3=>hk t2 a1 (hkp.trans ⟨a2.lo,a2.bF,a2.df⟩) a3) fun ch t2 a1 a2 a3=>hkp0 ch t2 a1 (hkp.trans ⟨a2.lo,a2.bF,a2.df⟩) a3)
         ·cases h'
       ·split at h
        ·refine uC (X:=fun s=>eX P N cx ops Q W (bi+1) listed s) (fun s t b v h1 h2 h3=>eX.lit t h1 h2 h3) hl h (fun t hl' hkp hw h'=>?_) (fun t t' hl' hkp hw hsk h'=>?_)
         ·obtain⟨T,Tp,h1,h2,h2p⟩:=Gj hokW hcl hl' h'
          refine eX.RI i0 hr ho hw (fun d e=>?_) (j6.tell (Tp':=fun ch u=>Q (.panic ch) u) h1 fun ch s' ht=>?_) (fun s' ht=>?_) fun _ _ h=>h
          ·rw[e] at hdN;simpa[qy,fU] using hdN
          ·obtain⟨t2,g1,g2,g3,g4⟩:=h2p ch s' ht
           obtain⟨u,g5,g6⟩:=hkp0 ch t2 g2 (hkp.trans g3) g4
           exact⟨u,g1.trans g5,g6⟩
          ·obtain⟨t2,g1,g2,g3,g4⟩:=h2 s' ht
           exact eX.gh g1 (je hokW hcl hs hpn g2 g4 (fun t3 a1 a2 a3=>hk t3 a1 ((hkp.trans g3).trans a2) a3) fun ch t3 a1 a2 a3=>hkp0 ch t3 a1 ((hkp.trans g3).trans a2) a3)
         ·split at h'
          ·rename_i hf
           cases hd:o.dst with
           | none=>
            unfold od at hsk
            rw[hd] at hsk
            dsimp only at hsk
            cases hsk
            exact eX.Q7 i0 ho hs hf (by rw[hr];simp) hw hd (je hokW hcl hs hpn hl' h' (fun t2 a1 a2 a3=>hk t2 a1 (hkp.trans ⟨a2.lo,a2.bF,a2.df⟩) a3) fun ch t2 a1 a2 a3=>hkp0 ch t2 a1 (hkp.trans ⟨a2.lo,a2.bF,a2.df⟩) a3)
           | some d=>
            obtain⟨hN,e⟩:=qf hd hsk
            subst e
            exact eX.yA i0 hpn ho hs hf (by rw[hr];simp) hw hd hN (je hokW hcl hs hpn (hl'.put _ _) h' (fun t2 a1 a2 a3=>hk t2 a1 (hkp.trans ⟨a2.lo,a2.bF,a2.df⟩) a3) fun ch t2 a1 a2 a3=>hkp0 ch t2 a1 (hkp.trans ⟨a2.lo,a2.bF,a2.df⟩) a3)
          ·cases h'
        ·cases h
      ·cases h
     ·cases h
    ·refine ma (X:=fun s=>eX P N cx ops Q W (bi+1) listed s) (fun s t b v h1 h2 h3=>eX.lit t h1 h2 h3) hl h fun s1 hl1 hk1 h=>?_
     split at h
     ·rename_i i o hp
      obtain⟨p1,p2,p3,p4⟩:=vd hp
      simp only[ah] at p3
      obtain⟨⟨q1,q2⟩,q4⟩:=p3
      have hcon:(Region.ready .any ops listed).contains i=true:=by rw[hr];exact fC.2 p1
      split at h
      ·rename_i s' hsk
       cases hd:o.dst with
       | none=>rw[hd] at q4;cases q4
       | some d=>
        obtain⟨hN,e⟩:=qf hd hsk
        subst e
        exact eX.yA i hpn p2 hs p4 hcon (O1 q2) hd hN (je hokW hcl hs hpn (hl1.put _ _) h (fun t2 a1 a2 a3=>hk t2 a1 (hk1.trans ⟨a2.lo,a2.bF,a2.df⟩) a3) fun ch t2 a1 a2 a3=>hkp0 ch t2 a1 (hk1.trans ⟨a2.lo,a2.bF,a2.df⟩) a3)
      ·cases h
     ·have hall:=DW h
      refine eX.any i0 rs hr ?_
      have vJ:∀i,i∈i0::rs→tZ P N cx ops Q W bi listed s1.er i:=by
       intro i hi
       have hx:=hall _ (iY hi)
       split at hx
       ·rename_i o ho
        split at hx
        ·rename_i hc
         simp only[ah] at hc
         obtain⟨hdN,hkn⟩:=hc
         have hw:=K0 hkn
         split at hx
         ·rename_i d hd hld
          have hN:d<N:=by rw[hd] at hdN;simpa[qy,fU] using hdN
          obtain⟨v,h1,h2⟩:=Aj (dst:=o.dst) (ty:=o.type) (pos:=o.pos) (after:=o.after) (guard:=o.guard) hl1 hx
          exact tZ.y i ho hw hd hN h1 (je hokW hcl hs hpn (hl1.put d v) h2 (fun t2 a1 a2 a3=>hk t2 a1 (hk1.trans ⟨a2.lo,a2.bF,a2.df⟩) a3) fun ch t2 a1 a2 a3=>hkp0 ch t2 a1 (hk1.trans ⟨a2.lo,a2.bF,a2.df⟩) a3)
         ·split at hx
          ·obtain⟨T,Tp,h1,h2,h2p⟩:=Gj hokW hcl hl1 hx
           refine tZ.eP i ho hw (fun d e=>?_) (j6.tell (Tp':=fun ch u=>Q (.panic ch) u) h1 fun ch s' ht=>?_) (fun s' ht=>?_) fun _ _ h=>h
           ·rw[e] at hdN;simpa[qy,fU] using hdN
           ·obtain⟨t2,g1,g2,g3,g4⟩:=h2p ch s' ht
            obtain⟨u,g5,g6⟩:=hkp0 ch t2 g2 (hk1.trans g3) g4
            exact⟨u,g1.trans g5,g6⟩
           ·obtain⟨t2,g1,g2,g3,g4⟩:=h2 s' ht
            exact eX.gh g1 (je hokW hcl hs hpn g2 g4 (fun t3 a1 a2 a3=>hk t3 a1 (hk1.trans (g3.trans a2)) a3) fun ch t3 a1 a2 a3=>hkp0 ch t3 a1 (hk1.trans (g3.trans a2)) a3)
          ·cases hx
        ·cases hx
       ·cases hx
      clear hr hall h
      generalize i0::rs=l at vJ
      induction l with
      | nil=>exact trivial
      | cons x r ih=>exact⟨vJ x aC,ih fun i hi=>vJ i (aw _ hi)⟩
theorem uK (hokW:∀h,ok h=true→W.contains h=true){kp:List PanicEntry→ag S→Option A}(hcl:yt P N W cl kp r) (hs:Region.noSelect ops=true) (hpn:GS Q (tL ops)):∀{bi:Nat}{listed:Array Bool}{s:ag S}{k:ag S→Option A},aJ s→vv P N ok W ops cl bi listed s k=some r→
  (∀t:ag S,aJ t→bj s t→k t=some r→Q .normal t.er)→(∀ch (t:ag S),aJ t→bj s t→kp ch t=some r→∃u,Gh t.er u∧Q (.panic ch) u)→pZ P N cx ops Q W bi listed s.er
 | 0,listed,s,k,hl,h,hk,hkp0=>pZ.later (je hokW hcl hs hpn hl h hk hkp0)
 | bi+1,listed,s,k,hl,h,hk,hkp0=>by
  unfold vv at h
  split at h
  ·rename_i i o hp
   obtain⟨p1,p2,p3,p4⟩:=vd hp
   simp only[ah] at p3
   obtain⟨⟨q1,q2⟩,q4⟩:=p3
   have hcon:(Region.ready .any ops listed).contains i=true:=fC.2 p1
   refine uC (X:=fun s=>pZ P N cx ops Q W (bi+1) listed s) (fun s t b v h1 h2 h3=>pZ.lit t h1 h2 h3) hl h (fun t hl' hkp hw h'=>?_) (fun t t' hl' hkp hw hsk h'=>?_)
   ·cases hd:o.dst with
    | none=>rw[hd] at q4;cases q4
    | some d=>
     rw[hd] at h' q1
     dsimp only at h'
     have hN:d<N:=by simpa[qy,fU] using q1
     split at h'
     ·obtain⟨v,h1,h2⟩:=Aj (dst:=o.dst) (ty:=o.type) (pos:=o.pos) (after:=o.after) (guard:=o.guard) hl' h'
      exact pZ.take i hpn p2 hs p4 hcon hw hd hN h1 (uK hokW hcl hs hpn (hl'.put d v) h2 (fun t2 a1 a2 a3=>hk t2 a1 (hkp.trans ⟨a2.lo,a2.bF,a2.df⟩) a3) fun ch t2 a1 a2 a3=>hkp0 ch t2 a1 (hkp.trans ⟨a2.lo,a2.bF,a2.df⟩) a3)
     ·obtain⟨v,x,h1,h2,h3⟩:=AB (dst:=o.dst) (ty:=o.type) (pos:=o.pos) (after:=o.after) (guard:=o.guard) h'
      refine pZ.take i hpn p2 hs p4 hcon hw hd hN (h1.yield W) ?_
      rw[←yz t d v x]
      exact uK hokW hcl hs hpn (Ca hl' d h2) h3 (fun t2 a1 a2 a3=>hk t2 a1 ((hkp.trans (rP t d v x)).trans a2) a3) fun ch t2 a1 a2 a3=>hkp0 ch t2 a1 ((hkp.trans (rP t d v x)).trans a2) a3
   ·cases hd:o.dst with
    | none=>rw[hd] at q4;cases q4
    | some d=>
     obtain⟨hN,e⟩:=qf hd hsk
     subst e
     exact pZ.yA i hpn p2 hs p4 hcon hw hd hN (uK hokW hcl hs hpn (hl'.put _ _) h' (fun t2 a1 a2 a3=>hk t2 a1 (hkp.trans ⟨a2.lo,a2.bF,a2.df⟩) a3) fun ch t2 a1 a2 a3=>hkp0 ch t2 a1 (hkp.trans ⟨a2.lo,a2.bF,a2.df⟩) a3)
  ·exact pZ.later (je hokW hcl hs hpn hl h hk hkp0)
theorem Gk {id:Nat}(hm:P.follows .mixedOrders=true) (hokW:∀h,ok h=true→W.contains h=true){kp:List PanicEntry→ag S→Option A}(hcl:yt P N W cl kp r){s:ag S}{k:ag S→Option A}(hl:aJ s) (h:uL P N ok W ops cl s k=some r)
  (hk:∀t:ag S,aJ t→bj s t→k t=some r→Q .normal t.er) (hkp:∀ch (t:ag S),aJ t→bj s t→kp ch t=some r→∃u,Gh t.er u∧Q (.panic ch) u∧∀d,d∈tL ops→get u.fr d=none):GW P N cx (.region id ops true) Q s.er:=by
 unfold uL at h
 split at h
 ·rename_i hc
  simp only[ah] at hc
  refine(GW.Et (Q:=fun e s=>Q e s∧∀ch,e=.panic ch→∀d,d∈tL ops→get s.fr d=none) W hm (uK hokW hcl hc.1 (fun c s h d hd=>h.2 c rfl d hd) hl h (fun t a b c=>⟨hk t a b c,fun ch e=>by cases e⟩) fun ch t a b c=>?_) hc.2).mono fun e s h=>h.1
  obtain⟨u,g1,g2,g3⟩:=hkp ch t a b c
  exact⟨u,g1,g2,fun _ _=>g3⟩
 ·cases h
end
end
end Go.DN
