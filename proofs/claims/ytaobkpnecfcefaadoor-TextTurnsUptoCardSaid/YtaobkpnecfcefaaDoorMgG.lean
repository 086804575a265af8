/-
  DN, second part.
-/
import Derived.Test.YtaobkpnecfcefaaDoorMgC
import Derived.Test.YtaobkpnecfcefaaDoorMgF
set_option linter.unusedSectionVars false
set_option linter.unusedSimpArgs false
set_option linter.unusedVariables false
/-
 DN,part Kd:slices of slices.
-/
namespace Go.DN
open Go.AM
def bz (d:Nat):List Nat→Bool
 | []=>false
 | x::r=>bif Nat.beq x d then true else bz d r
theorem bQ {d:Nat}:∀{l:List Nat},bz d l=true↔d∈l
 | []=>by simp[bz]
 | x::r=>by
  simp only[bz,bf]
  cases hb:Nat.beq x d with
  | true=>have:=af hb;subst this;simp
  | false=>
   rw[cond_false,bQ]
   constructor
   ·exact .inr
   ·rintro(e | h)
    ·subst e;rw[aQ] at hb;cases hb
    ·exact h
section
variable {S:dx}
theorem gQ {t:aj S}(h:t.last=[]):aO t:=fun d hh x hm=>by rw[h] at hm;cases hm
def TV.kf (h:Nat):TV S→TV S
 | .kp x τ i j=>bif Nat.beq x h then .any else .kp x τ i j
 | .fX b x τ i j=>bif Nat.beq x h&&!b then .any else .fX b x τ i j
 | .ks x τ i n=>bif Nat.beq x h then .any else .ks x τ i n
 | .agg l=>.agg (go l)
 | .aU l=>.aU (go l)
 | .aP f l=>.aP f (go l)
 | v=>v
where go:List (TV S)→List (TV S)
 | []=>[]
 | v::r=>v.kf h::go r
theorem Tg {h:Nat}{m:G}(hm:Pl m) (f:Bool):AM.kf h (dc f m)=dc f m:=by
 rcases hm with ⟨u,rfl⟩ | ⟨n,cs,rfl⟩ | ⟨b,rfl⟩ <;> cases f <;> rfl
mutual
theorem Tf (ln:Nat→Nat) (h:Nat):∀v:TV S,(v.kf h).er ln=AM.kf h (v.er ln)
 | .ab f τ a=>by
  cases τ with
  | st n=>
   show G.agg ((aW S (.st n) a).map (dc f))=.agg (AM.kf.go h ((aW S (.st n) a).map (dc f)))
   have hp:=td (S:=S) (.st n) a
   generalize aW S (.st n) a=l at hp
   congr 1
   induction l with
   | nil=>rfl
   | cons x r ih=>
    simp only[aB,AM.kf.go]
    rw[Tg (hp x au),←ih fun y hy=>hp y (ap _ hy)]
  | _=>cases f <;> rfl
 | .ptr f τ a=>by cases f <;> rfl
 | .agg l=>by show G.agg _=G.agg _;rw[Af ln h l]
 | .aU l=>by show G.aU _=G.aU _;rw[Af ln h l]
 | .aP f l=>by show G.aP _ _=G.aP _ _;rw[Af ln h l]
 | .kp x τ i j=>by
  show(bif Nat.beq x h then(TV.any:TV S) else .kp x τ i j).er ln=bif Nat.beq x h then G.any else .kp x i (j*S.sz τ)
  cases Nat.beq x h <;> rfl
 | .fX b x τ i j=>by
  cases b with
  | true=>
   show(bif Nat.beq x h&&false then _ else _:TV S).er ln=.val _
   rw[ow];rfl
  | false=>
   show(bif Nat.beq x h&&true then _ else _:TV S).er ln=bif Nat.beq x h then G.any else .kp x i (j*S.sz τ)
   cases Nat.beq x h <;> rfl
 | .ks x τ i n=>by
  show(bif Nat.beq x h then(TV.any:TV S) else .ks x τ i n).er ln=bif Nat.beq x h then G.any else .ks x i (S.sz τ) n
  cases Nat.beq x h <;> rfl
 | .bT b _ _=>by cases b <;> rfl
 | .loc _ _=>rfl
 | .gY _ _ _ _=>rfl
 | .aK _ _=>rfl
 | .sub _ _ _ _=>rfl
 | .cA _=>rfl
 | .mp _=>rfl
 | .val _=>rfl
 | .any=>rfl
theorem Af (ln:Nat→Nat) (h:Nat):∀l:List (TV S),TV.er.go ln (TV.kf.go h l)=AM.kf.go h (TV.er.go ln l)
 | []=>rfl
 | v::r=>by simp only[TV.kf.go,TV.er.go,AM.kf.go,Tf ln h v,Af ln h r]
end
mutual
theorem Te {h:Nat}:∀v:TV S,v.has h=false→v.kf h=v
 | .kp x τ i j,e=>by
  show(bif Nat.beq x h then _ else _)=_
  rw[show Nat.beq x h=false from e];rfl
 | .fX b x τ i j,e=>by
  have e:(Nat.beq x h&&!b)=false:=e
  show(bif Nat.beq x h&&!b then _ else _)=_
  rw[e];rfl
 | .ks x τ i n,e=>by
  show(bif Nat.beq x h then _ else _)=_
  rw[show Nat.beq x h=false from e];rfl
 | .agg l,e=>congrArg TV.agg (Ae l e)
 | .aU l,e=>congrArg TV.aU (Ae l e)
 | .aP f l,e=>congrArg (TV.aP f) (Ae l e)
 | .ab _ _ _,_=>rfl
 | .ptr _ _ _,_=>rfl
 | .bT _ _ _,_=>rfl
 | .loc _ _,_=>rfl
 | .gY _ _ _ _,_=>rfl
 | .aK _ _,_=>rfl
 | .sub _ _ _ _,_=>rfl
 | .cA _,_=>rfl
 | .mp _,_=>rfl
 | .val _,_=>rfl
 | .any,_=>rfl
theorem Ae {h:Nat}:∀l:List (TV S),TV.has.go h l=false→TV.kf.go h l=l
 | [],_=>rfl
 | v::r,e=>by
  simp only[TV.has.go,bc] at e
  simp only[TV.kf.go,Te v e.1,Ae r e.2]
end
def T4 (v:TV S):List Nat→Bool
 | []=>false
 | x::r=>v.has x||T4 v r
def TV.fk (h:Nat) (rm:List Nat) (v:TV S):TV S:=match T4 v rm with | true=>.any | false=>v.kf h
def Vq (h:Nat) (rm:List Nat):List (Nat×TV S)→List (Nat×TV S)
 | []=>[]
 | (t,v)::r=>(t,v.fk h rm)::Vq h rm r
def TO.fk (h:Nat) (rm:List Nat):TO S→TO S
 | .box e m cs=>.box e m (cs.map (TV.fk h rm))
 | .lp l n cs=>.lp l n (cs.map (TV.fk h rm))
 | o=>o
def Ud (h:Nat) (rm:List Nat):List (Nat×TO S)→List (Nat×TO S)
 | []=>[]
 | (t,o)::r=>match bz t rm with
  | true=>Ud h rm r
  | false=>(t,o.fk h rm)::Ud h rm r
def aj.hand (s:aj S) (h:Nat) (rm:List Nat) (o:TO S):aj S:={s with fr:=Vq h rm s.fr,st:=(h,o)::Ud h rm s.st,last:=[]}
def Gc (s:aj S) (h kty:Nat){A:Type}(k:aj S→Option A):Option A:=
 none
theorem G3 {s:aj S}{h kty:Nat}{A:Type}{k:aj S→Option A}{r:A}(hl:aO s) (e:Gc s h kty k=some r):∃t,Gh s.er t.er∧aO t∧bA s t∧k t=some r:=by
 unfold Gc at e
 cases e
def GU (s:aj S) (h:Nat):Option (aj S):=
 none
theorem MK {s t:aj S}{h:Nat}(hl:aO s) (e:GU s h=some t):Gh s.er t.er∧aO t∧bA s t:=by
 unfold GU at e
 cases e
def D3 (s:aj S) (h:Nat):Option (aj S):=
 none
theorem KS {s t:aj S}{h:Nat}(hl:aO s) (e:D3 s h=some t):Gh s.er t.er∧aO t∧bA s t:=by
 unfold D3 at e
 cases e
def Ic (s:aj S) (h:Nat):Bool:=match aF s.bj h with
 | some (.deep _ _ _ (.rows _ _) _ _)=>true
 | _=>false
def Ih (s:aj S) (h:Nat):Bool:=match aF s.bj h with
 | some (.deep ..)=>true
 | _=>false
def AB (s:aj S) (h:Nat):Option (aj S):=
 match Ih s h with
 | true=>match (match Ic s h with | true=>D3 s h | false=>GU s h) with
  | some s'=>AD s' h
  | none=>none
 | false=>AD s h
theorem Dn {s t:aj S}{h:Nat}(hl:aO s) (hf:AB s h=some t):Gh s.er t.er∧aO t∧bA s t:=by
 unfold AB at hf
 split at hf
 ·split at hf
  ·rename_i s' hs
   have hs2:Gh s.er s'.er∧aO s'∧bA s s':=by
    split at hs
    ·exact KS hl hs
    ·exact MK hl hs
   obtain⟨a1,a2,a3⟩:=hs2
   obtain⟨b1,b2,b3⟩:=Dq a2 hf
   exact⟨a1.trans b1,b2,a3.trans b3⟩
  ·cases hf
 ·exact Dq hl hf
def Ix (P:Program) (ok:Nat→Bool) (s:aj S) (t:TypeId) (x y:Operand){A:Type}(k:aj S→Option A):Option A:=
 none
theorem Od {P:Program}{W:List Nat}{ok:Nat→Bool}(hokW:∀h,ok h=true→W.contains h=true){s:aj S}{t:TypeId}{x y:Operand}{ty:TypeId}{pos:String}{after:Array Edge}{guard:Option (Nat×Bool)}{A:Type}{k:aj S→Option A}{r:A}
  (hl:aO s) (h:Ix P ok s t x y k=some r):fp P W s ⟨none,.store t x y,ty,pos,after,guard⟩ k r:=by
 unfold Ix at h
 cases h
mutual
theorem RH {h:Nat}:∀g:G,g.bO h=false→AM.kf h g=g
 | .kp x i off,e=>by
  show(bif Nat.beq x h then _ else _)=_
  rw[show Nat.beq x h=false from e];rfl
 | .ks x i sz n,e=>by
  show(bif Nat.beq x h then _ else _)=_
  rw[show Nat.beq x h=false from e];rfl
 | .agg gs,e=>congrArg G.agg (xq gs e)
 | .aU gs,e=>congrArg G.aU (xq gs e)
 | .aP f gs,e=>congrArg (G.aP f) (xq gs e)
 | .loc _ _,_=>rfl
 | .aK _ _ _ _,_=>rfl
 | .cA _,_=>rfl
 | .eV _,_=>rfl
 | .any,_=>rfl
 | .val _,_=>rfl
 | .cH _,_=>rfl
 | .sl _ _,_=>rfl
 | .ptr _,_=>rfl
 | .fr _,_=>rfl
theorem xq {h:Nat}:∀gs:List G,G.bO.go h gs=false→AM.kf.go h gs=gs
 | [],_=>rfl
 | x::r,e=>by
  simp only[G.bO.go,bc] at e
  simp only[AM.kf.go,RH x e.1,xq r e.2]
end
def EE (P:Program) (ok:Nat→Bool) (s:aj S) (d:Nat) (t:TypeId) (n:Nat) (parts:Array (Nat×Operand)){A:Type}(k:aj S→Option A):Option A:=
 none
theorem Ma {P:Program}{W:List Nat}{ok:Nat→Bool}(hokW:∀h,ok h=true→W.contains h=true){s:aj S}{d:Nat}{t:TypeId}{n:Nat}{parts:Array (Nat×Operand)}{ty:TypeId}{pos:String}{after:Array Edge}{guard:Option (Nat×Bool)}{A:Type}{k:aj S→Option A}{r:A}
  (hl:aO s) (h:EE P ok s d t n parts k=some r):fp P W s ⟨some d,.buildSlice t n parts,ty,pos,after,guard⟩ k r:=by
 unfold EE at h
 cases h
def EG (P:Program) (ok:Nat→Bool) (s:aj S) (d:Nat) (c:Call){A:Type}(k:aj S→Option A):Option A:=
 none
theorem Mb {P:Program}{W:List Nat}{ok:Nat→Bool}(hokW:∀h,ok h=true→W.contains h=true){s:aj S}{d:Nat}{args:Array Operand}{ts:Array TypeId}{ty:TypeId}{pos:String}{after:Array Edge}{guard:Option (Nat×Bool)}{A:Type}{k:aj S→Option A}{r:A}
  (hl:aO s) (hq:EG P ok s d ⟨.builtin .append,args,ts⟩ k=some r):fp P W s ⟨some d,.call ⟨.builtin .append,args,ts⟩,ty,pos,after,guard⟩ k r:=by
 unfold EG at hq
 cases hq
end
end Go.DN
/-
 DN,part Ke:slices that are written no more,slices that are adopted,slices whose end is cut off.
-/
namespace Go.DN
open Go.AM
section
variable {S:dx}
def TV.Lg:TV S→List Nat
 | .aK h _=>[h]
 | .sub h _ _ _=>[h]
 | .agg l=>go l
 | .aU l=>go l
 | _=>[]
where go:List (TV S)→List Nat
 | []=>[]
 | x::r=>x.Lg++go r
def ri:List Nat→aj S→Option (aj S)
 | [],s=>some s
 | h::r,s=>match aF s.bj h with
  | none=>ri r s
  | some _=>match AB s h with
   | some s'=>ri r s'
   | none=>none
theorem nn:∀{l:List Nat}{s t:aj S},aO s→ri l s=some t→Gh s.er t.er∧aO t∧bA s t
 | [],s,t,hl,h=>by cases h;exact⟨Gh.refl _,hl,bA.refl s⟩
 | x::r,s,t,hl,h=>by
  simp only[ri] at h
  split at h
  ·exact nn hl h
  ·split at h
   ·rename_i s' hs
    obtain⟨a1,a2,a3⟩:=Dn hl hs
    obtain⟨b1,b2,b3⟩:=nn a2 h
    exact⟨a1.trans b1,b2,a3.trans b3⟩
   ·cases h
def Lf (s:aj S):List Operand→List Nat
 | []=>[]
 | x::r=>(match cG s x with | some v=>v.Lg | none=>[])++Lf s r
theorem zG {α β:Type}{f:α→List β}{z:Nat}(hf:∀a,(f a).length=z):∀(l:List α) (n:Nat),List.flatMap f (l.take n)=(List.flatMap f l).take (n*z)
 | [],n=>by simp
 | x::r,0=>by simp
 | x::r,n+1=>by
  simp only[List.take_succ_cons,cj]
  have e1:(n+1)*z-z=n*z:=by rw[Nat.succ_mul];omega
  have e2:(f x).length≤(n+1)*z:=by rw[hf x,Nat.succ_mul];omega
  rw[zG hf r n,List.take_append,hf x,e1,di (l:=f x) e2]
theorem Gh.xf {s:St}(hh j hd:Nat) (e:TypeId) (sz:Nat){k:ao}(hk:az s.st hh=some k) (hp:k.pure=false) (hj:k.cells[j]?=some (.val (.slice none 0 0))) (hf:fresh s hd=true) (hlp:k.lp=none):
  Gh s {fr:=s.fr,st:=cC ((hd,⟨e,true,true,true,sz,[],none⟩)::s.st) hh {k with cells:=k.cells.set j (.aK hd sz 0 0)},df:=s.df}:=fun N cx μ a w h=>by
 have h1:=h.wT hd ⟨e,true,true,true,sz,[],none⟩ hf rfl rfl
 have hne:hh≠hd:=fun e=>by
  subst e
  obtain⟨h2,_⟩:=eN hf
  rw[hk] at h2;cases h2
 have hk2:az ((hd,(⟨e,true,true,true,sz,[],none⟩:ao))::s.st) hh=some k:=by rw[aI _ _ hne];exact hk
 refine⟨_,h1.wJ (s:={fr:=s.fr,st:=(hd,⟨e,true,true,true,sz,[],none⟩)::s.st,df:=s.df}) hk2 rfl rfl rfl (by simp) hlp hlp fun i g' hg'=>?_,Gh.same fun x k1 b m hx hm=>?_⟩
 ·simp only[eX] at hg'
  by_cases e:j=i
  ·subst e
   rw[if_pos rfl] at hg'
   split at hg'
   ·cases hg'
    refine⟨_,hj,fun v hv=>?_⟩
    unfold bZ at hv⊢
    simp only[hp] at hv⊢
    cases hv with
    | aC hv=>cases hv;exact .eD hd sz (cp _ _ _)
   ·cases hg'
  ·rw[if_neg e] at hg'
   refine⟨g',hg',fun v hv=>?_⟩
   unfold bZ at hv⊢
   exact hv
 ·by_cases e1:x=hd
  ·subst e1;rw[cp] at hm;cases hm
  ·rw[bq e1] at hm
   rcases cF hk2 hx with ⟨e2,_⟩ | ⟨e2,h3⟩
   ·subst e2;exact⟨k,hk,hm⟩
   ·rw[aI _ _ e1] at h3;exact⟨k1,h3,hm⟩
theorem OT {s:aj S}{h j hd:Nat}{e e':TypeId}{m:Bool}{cs:List (TV S)}{τ:Ty}(hl:aO s) (ho:aF s.st h=some (.box e' m cs)) (hj:cs[j]?=some (.val (.slice none 0 0))) (hf:s.free hd=true):
  Gh s.er ((s.add hd (.arr e true true τ [])).set h (.box e' m (cs.set j (.aK hd τ)))).er∧aO ((s.add hd (.arr e true true τ [])).set h (.box e' m (cs.set j (.aK hd τ)))):=by
 obtain⟨e1,hag⟩:=u9 hf (.arr e true true τ ([]:List (S.D τ))) rfl
 obtain⟨f1,f2,f3,f4,f5⟩:=free_spec hf
 have hne:h≠hd:=fun e=>by subst e;rw[iR ho] at f1;cases f1
 have hne':Nat.beq hd h=false:=by
  cases hb:Nat.beq hd h with
  | false=>rfl
  | true=>exact absurd (af hb).symm hne
 have ho2:aF (s.add hd (.arr e true true τ [])).st h=some (.box e' m cs):=by
  show aF ((hd,_)::s.st) h=_
  simp only[aF,hne',cond_false];exact ho
 obtain⟨g1,_⟩:=uC (o':=.box e' m (cs.set j (.aK hd τ))) ho2 rfl
 refine⟨?_,(hl.add (.arr e true true τ []) hf).set ho2 _⟩
 rw[g1,e1]
 have hcs:TV.has.go hd cs=false:=by
  have:=vv (iR ho) f3
  exact this
 have e3:(TO.box e' m (cs.set j (.aK hd τ)):TO S).er (s.add hd (.arr e true true τ [])).ln={(TO.box e' m cs:TO S).er s.ln with cells:=((TO.box e' m cs:TO S).er s.ln).cells.set j (.aK hd (S.sz τ) 0 0)}:=by
  have e4:TV.er.go (s.add hd (.arr e true true τ [])).ln (cs.set j (.aK hd τ))=(TV.er.go s.ln cs).set j (.aK hd (S.sz τ) 0 0):=by
   rw[da,qH,←da,←p6 hag cs hcs]
   congr 1
   show G.aK _ _ _ ((s.add hd _).ln hd)=_
   rw[show(s.add hd (.arr e true true τ [])).ln hd=_ from uO _ _];rfl
  show ao.mk _ _ _ _ _ _ _=ao.mk _ _ _ _ _ _ _
  rw[e4];rfl
 rw[e3]
 exact Gh.xf (s:=s.er) h j hd e (S.sz τ) (kL (iR ho)) rfl (by show(TV.er.go s.ln cs)[j]?=_;rw[da,ar,hj];rfl) (jX hf) rfl
def EM (h:Nat):List (Nat×TO S)→List (Nat×TO S)
 | []=>[]
 | (k,o)::r=>bif Nat.beq k h then EM h r else(k,o)::EM h r
theorem yr {h x:Nat}(hx:x≠h):∀{st:List (Nat×TO S)},aF (EM h st) x=aF st x
 | []=>rfl
 | (k,o)::r=>by
  simp only[EM,aF]
  cases hb:Nat.beq k h with
  | true=>
   have:=af hb
   subst this
   have h2:Nat.beq k x=false:=by
    cases h3:Nat.beq k x with
    | false=>rfl
    | true=>exact absurd (af h3).symm hx
   rw[h2]
   exact yr hx
  | false=>
   simp only[cond_false,aF]
   cases Nat.beq k x with
   | true=>rfl
   | false=>exact yr hx
def aj.rq (s:aj S) (h:Nat):aj S:={s with st:=EM h s.st,last:=AS h s.last}
theorem Qq {s:aj S}{h:Nat}(hl:aO s) (hf:(s.rq h).free h=true):Gh s.er (s.rq h).er∧aO (s.rq h)∧bA s (s.rq h):=by
 obtain⟨f1,f2,f3,f4,_⟩:=free_spec hf
 have hst:∀x,x≠h→aF (s.rq h).bj x=aF s.bj x:=by
  intro x hx
  show aF (EM h s.st++s.bM) x=aF (s.st++s.bM) x
  rw[dV,dV,yr hx]
 have hag:kK s.ln (s.rq h).ln h:=by
  intro x hx
  show bI s.bj x=bI (s.rq h).bj x
  unfold bI
  rw[hst x hx]
 have hone:∀o:TO S,o.has h=false→we s.er.st (s.rq h).er.st (o.er s.ln) (o.er (s.rq h).ln):=by
  intro o ho
  rw[TO.sB hag o ho]
  exact we.refl _ _ _
 refine⟨Gh.typed (fun d v' hv'=>⟨v',hv',?_⟩) (fun x o' ho'=>?_) (p6 hag s.df f4),?_,⟨rfl,rfl,rfl⟩⟩
 ·rw[sB hag v' (vR hv' f2)]
  exact CV.refl _ _ _
 ·have hx:x≠h:=fun e=>by subst e;rw[f1] at ho';cases ho'
  exact⟨o',by rw[←hst x hx];exact ho',hone o' (vv ho' f3)⟩
 ·intro d hh x hm
  obtain⟨h1,h2⟩:=uh hm
  obtain⟨i,bw,m,f',τ',l',a,e1,e2,e3⟩:=hl d hh x h1
  exact⟨i,bw,m,f',τ',l',a,e1,(hst hh h2).trans e2,e3⟩
def sN (s:aj S) (h:Nat):aj S:=match s.free h with
 | true=>s
 | false=>match (s.rq h).free h with
  | true=>s.rq h
  | false=>s
theorem Iu {s:aj S}(h:Nat) (hl:aO s):Gh s.er (sN s h).er∧aO (sN s h)∧bA s (sN s h):=by
 unfold sN
 split
 ·exact⟨Gh.refl _,hl,bA.refl s⟩
 ·split
  ·rename_i hf
   exact Qq hl hf
  ·exact⟨Gh.refl _,hl,bA.refl s⟩
theorem Rel.shrink {N:Nat}{cx:Cx}{s:St}{μ:Mu}{a:Act}{w:World}(hr:Rel N cx μ s a w){h d n c:Nat}{k:ao}(hk:az s.st h=some k) (hp:k.pure=true) (hlp:k.lp=none) (hd:get s.fr d=some (.aK h k.sz 0 n)):
  Rel N cx μ {fr:=(d,.aK h k.sz 0 n)::mM h s.fr,st:=(h,{k with cells:=k.cells.take c})::ft h s.st,df:=s.df} a w:=by
 have key:∀x k1,az ((h,{k with cells:=k.cells.take c})::ft h s.st) x=some k1→∃k0,az s.st x=some k0:=by
  intro x k1 h1
  by_cases e:x=h
  ·subst e;exact⟨k,hk⟩
  ·rw[aI _ _ e] at h1
   obtain⟨k0,h2,_⟩:=dh h1
   exact⟨k0,h2⟩
 have hO:∀b,¬cx.O s.st μ b→¬cx.O ((h,{k with cells:=k.cells.take c})::ft h s.st) μ b:=by
  rintro b hn (ho | ⟨x,k1,c1,m,h1,h2,hi⟩)
  ·exact hn (.inl ho)
  ·obtain⟨k0,h3⟩:=key x k1 h1
   exact hn (.inr ⟨x,k0,c1,m,h3,h2,hi⟩)
 refine {st:={dB:=?_,cR:=?_,bY:=?_,ew:=?_,ed:=hr.st.ed,hb:=hr.st.hb,os:=hr.st.os,tape:=hr.st.tape,output:=hr.st.output,gl:=hr.st.gl,cW:=hr.st.cW},nd:=hr.nd.mono (Kept.refl _ _) (fun b _=>hO b),sz:=hr.sz,fr:=?_}
 ·intro x k1 h1
  by_cases e:x=h
  ·subst e
   rw[dz] at h1
   cases h1
   have h3:=hr.st.dB x k hk
   cases hm:μ x with
   | none=>rw[hm] at h3;exact .nil (by simp[h3.1]) hlp
   | some bm=>
    obtain⟨b,m⟩:=bm
    rw[hm] at h3
    obtain⟨cs,q1,q2,q3,q4,q5,q6⟩:=h3.cells hlp
    refine .mk hlp (h3.l9 hlp) ⟨cs,q1,q2,by simp only[bo];omega,q4,q5,fun j g hg=>?_⟩
    have hg':k.cells[j]?=some g:=by
     have hg:(k.cells.take c)[j]?=some g:=hg
     rw[aV] at hg
     split at hg
     ·exact hg
     ·cases hg
    obtain⟨v,hv,hrv⟩:=q6 j g hg'
    refine⟨v,hv,?_⟩
    have:=hrv.mono (O':=cx.O ((x,{k with cells:=k.cells.take c})::ft x s.st) μ) (Kept.refl _ _) (fun b _=>hO b)
    unfold bZ at this⊢
    exact this
  ·rw[aI _ _ e] at h1
   obtain⟨k0,h2,rfl⟩:=dh h1
   exact((hr.st.dB x k0 h2).mono (fun _ _ _ _ _=>rfl) (Kept.refl _ _) (fun b _=>hO b)).kill h fun _ _=>rfl
 ·intro x x' k1 k2 y b m b2 m2 h1 h2
  obtain⟨k0,h5⟩:=key x k1 h1
  obtain⟨k0',h5'⟩:=key x' k2 h2
  exact hr.st.cR x x' k0 k0' y b m b2 m2 h5 h5'
 ·intro x k1 b m y h1 h2 hi
  by_cases e:x=h
  ·subst e
   rw[dz] at h1
   cases h1
   exact hr.st.bY x k b m y hk h2 hi
  ·rw[aI _ _ e] at h1
   obtain⟨k0,h5,rfl⟩:=dh h1
   obtain⟨a1,a2,a3,a4⟩:=hr.st.bY x k0 b m y h5 h2 hi
   exact⟨a1,a2,a3,fun hm=>a4 (by cases hp:k0.pure <;> simp only[hp] at hm <;> exact hm)⟩
 ·intro x k1 h1 h2
  obtain⟨k0,h5⟩:=key x k1 h1
  exact hr.st.ew x k0 h5 h2
 ·intro t g hg
  rw[im] at hg
  cases hb:Nat.beq d t with
  | true=>
   rw[hb] at hg
   cases hg
   have:=af hb
   subst this
   obtain⟨v,hv,hrv⟩:=hr.fr d _ hd
   exact⟨v,hv,hrv.mono (Kept.refl _ _) (fun b _=>hO b) (aq _)⟩
  | false=>
   rw[hb] at hg
   obtain⟨g0,h1,rfl⟩:=yg hg
   obtain⟨v,hv,hrv⟩:=hr.fr t g0 h1
   exact⟨v,hv,ra (hrv.mono (Kept.refl _ _) (fun b _=>hO b) (aq _)) fun k hk=>rfl⟩
def yX (s:aj S) (x:Operand){A:Type}(k:aj S→Option A):Option A:=
 match x with
 | .tmp t=>match bp s.bV t with
  | some (.sub h τ 0 n)=>match aF s.st h with
   | some (.arr e m f τ' l)=>match decEq τ' τ with
    | isTrue _=>match !(gV h s.lo)&&(!(dr h s.bM)&&!(TV.has.go h s.df)) with
     | true=>(dA (n≤l.length)).bind fun _=>k ((s.renew h (.arr e m f τ' (l.take n))).put t (.aK h τ'))
     | false=>none
    | isFalse _=>none
   | _=>none
  | _=>k s
 | _=>k s
theorem yW {s:aj S}{x:Operand}{A:Type}{k:aj S→Option A}{r:A}(hl:aO s) (h:yX s x k=some r):∃t,Gh s.er t.er∧aO t∧bA s t∧k t=some r:=by
 unfold yX at h
 split at h
 ·rename_i t
  split at h
  ·rename_i hh τ n hx
   split at h
   ·rename_i e m f τ' l ho
    split at h
    ·rename_i e1 _
     subst e1
     split at h
     ·rename_i hc
      simp only[ag,a7] at hc
      obtain⟨hlo,hls,hdf⟩:=hc
      obtain⟨_,hck,hk⟩:=bind_some h
      have hn:n≤l.length:=cS hck
      refine⟨_,?_,(hl.renew hh (.arr e m f τ' (l.take n)) hlo hls).put t (.aK hh τ'),⟨rfl,rfl,rfl⟩,hk⟩
      obtain⟨e1,_,e3⟩:=Bo (.arr e m f τ' (l.take n)) rfl hdf hlo hls
      rw[iT,e1]
      have e4:(TV.aK hh τ':TV S).er (s.renew hh (.arr e m f τ' (l.take n))).ln=.aK hh (S.sz τ') 0 n:=by
       show G.aK _ _ _ ((s.renew hh _).ln hh)=_
       rw[e3]
       show G.aK _ _ _ (l.take n).length=_
       rw[bo,dL hn]
      rw[e4]
      have e5:(TO.arr e m f τ' (l.take n):TO S).er s.ln={(TO.arr e m f τ' l:TO S).er s.ln with cells:=((TO.arr e m f τ' l:TO S).er s.ln).cells.take (n*S.sz τ')}:=by
       show ao.mk _ _ _ _ _ _ _=ao.mk _ _ _ _ _ _ _
       have:List.flatMap (aW S τ') (l.take n)=(List.flatMap (aW S τ') l).take (n*S.sz τ'):=zG (fun a=>sD S τ' a) l n
       rw[this];rfl
      rw[e5]
      have e6:AM.get (gX s.ln s.bV) t=some (G.aK hh (S.sz τ') 0 n):=by
       rw[fG hx]
       show some (G.aK _ _ (0*S.sz τ') _)=_
       rw[fg]
      intro N cx μ a w hr
      exact⟨μ,Rel.shrink hr (kL (iR ho)) rfl rfl e6,Gh.same fun x k1 b m' h1 h2=>by
       by_cases e:x=hh
       ·subst e;exact⟨_,kL (iR ho),h2⟩
       ·have h1:az ((hh,_)::ft hh s.er.st) x=some k1:=h1
        rw[aI _ _ e] at h1
        obtain⟨k0,h3,_⟩:=dh h1
        exact⟨k0,h3,h2⟩⟩
     ·cases h
    ·cases h
   ·cases h
  ·exact⟨s,Gh.refl _,hl,bA.refl s,h⟩
 ·exact⟨s,Gh.refl _,hl,bA.refl s,h⟩
end
end Go.DN
/-
 DN,part Kc:copy.
-/
namespace Go.DN
open Go.AM
section
variable {S:dx}
def Mi (P:Program) (ok:Nat→Bool) (s:aj S) (d:Nat) (c:Call){A:Type}(k:aj S→Option A):Option A:=
 none
section
variable {P:Program}{W:List Nat}{s:aj S}{ty:TypeId}{pos:String}{after:Array Edge}{guard:Option (Nat×Bool)}{A:Type}{k:aj S→Option A}{r:A}
theorem MX {st:List (Nat×ao)}{h:Nat}{b:ao}(hb:az st h=some b):cC st h b=st:=by
 induction st with
 | nil=>cases hb
 | cons x r ih=>
  obtain⟨y,g⟩:=x
  simp only[az] at hb
  simp only[cC]
  cases hy:Nat.beq y h with
  | true=>rw[hy] at hb;cases hb;rfl
  | false=>rw[hy] at hb;rw[cond_false,ih hb]
theorem Qv {ok:Nat→Bool}(hokW:∀h,ok h=true→W.contains h=true){d:Nat}{args:Array Operand}{ts:Array TypeId}(hl:aO s) (h:Mi P ok s d ⟨.builtin .copy,args,ts⟩ k=some r):
  fp P W s ⟨some d,.call ⟨.builtin .copy,args,ts⟩,ty,pos,after,guard⟩ k r:=by
 unfold Mi at h
 cases h
end
end
end Go.DN
/-
 DN,part Kf:append within an object,clear.
-/
namespace Go.AM
end Go.AM
namespace Go.DN
open Go.AM
section
variable {S:dx}
def T1 (s:aj S):List Operand→Bool
 | [x,y]=>match cG s x with
  | some (.sub h _ _ _)=>match cG s y with
   | some (.sub h2 _ _ _)=>Nat.beq h2 h
   | _=>false
  | _=>false
 | _=>false
def I0 (P:Program) (ok:Nat→Bool) (s:aj S) (d:Nat) (c:Call){A:Type}(k:aj S→Option A):Option A:=
 none
def IQ (P:Program) (ok:Nat→Bool) (s:aj S) (c:Call){A:Type}(k:aj S→Option A):Option A:=
 none
section
variable {P:Program}{W:List Nat}{s:aj S}{ty:TypeId}{pos:String}{after:Array Edge}{guard:Option (Nat×Bool)}{A:Type}{k:aj S→Option A}{r:A}
theorem ON {ok:Nat→Bool}(hokW:∀h,ok h=true→W.contains h=true){d:Nat}{args:Array Operand}{ts:Array TypeId}(hl:aO s) (h:I0 P ok s d ⟨.builtin .append,args,ts⟩ k=some r):
  fp P W s ⟨some d,.call ⟨.builtin .append,args,ts⟩,ty,pos,after,guard⟩ k r:=by
 unfold I0 at h
 cases h
theorem Ot {ok:Nat→Bool}(hokW:∀h,ok h=true→W.contains h=true){args:Array Operand}{ts:Array TypeId}(hl:aO s) (h:IQ P ok s ⟨.builtin .clear,args,ts⟩ k=some r):
  fp P W s ⟨none,.call ⟨.builtin .clear,args,ts⟩,ty,pos,after,guard⟩ k r:=by
 unfold IQ at h
 cases h
end
end
end Go.DN
/-
 DN,part Kg:slices of structs of slices:made;one of the slices is taken out,and put in.
-/
namespace Go.DN
open Go.AM
theorem flat_get {α β:Type}(f:α→List β){n:Nat}(hn:∀a,(f a).length=n){j:Nat}(hj:j<n):∀(l:List α) (i:Nat),(l.flatMap f)[i*n+j]?=(l[i]?).bind fun a=>(f a)[j]?
 | [],i=>by simp
 | a::l,0=>by
  rw[cj,fg,cr,cd (by rw[hn];exact hj)]
  rfl
 | a::l,i+1=>by
  rw[cj,dj (by rw[hn,Nat.succ_mul];omega),hn,show(i+1)*n+j-n=i*n+j by rw[Nat.succ_mul];omega,flat_get f hn hj l i]
  rfl
section
variable {S:dx}
variable {P:Program}{W:List Nat}{ok:Nat→Bool}{s:aj S}{ty:TypeId}{pos:String}{after:Array Edge}{guard:Option (Nat×Bool)}{A:Type}{k:aj S→Option A}{r:A}
def Sp (S:dx) (P:Program) (t:TypeId):Bool:=match P.underlying t with
 | some (.slice e)=>(S.Vy e).isSome
 | _=>false
def Ep (P:Program) (s:aj S) (d:Nat) (t:TypeId) (x y:Operand){A:Type}(k:aj S→Option A):Option A:=
 none
theorem Lq {d:Nat}{t:TypeId}{x y:Operand}(hl:aO s) (h:Ep P s d t x y k=some r):fp P W s ⟨some d,.makeSlice t x y,ty,pos,after,guard⟩ k r:=by
 unfold Ep at h
 cases h
def Ev (s:aj S) (op:Op):Bool:=match op with
 | .load _ x=>match cG s x with
  | some (.gY h _ _ _)=>Ic s h
  | _=>false
 | _=>false
def Ed (P:Program) (ok:Nat→Bool) (s:aj S) (d:Nat) (t:TypeId) (x:Operand){A:Type}(k:aj S→Option A):Option A:=
 none
theorem K5 (hokW:∀h,ok h=true→W.contains h=true){d:Nat}{t:TypeId}{x:Operand}(hl:aO s) (h:Ed P ok s d t x k=some r):fp P W s ⟨some d,.load t x,ty,pos,after,guard⟩ k r:=by
 unfold Ed at h
 cases h
def Ho (P:Program) (ok:Nat→Bool) (s:aj S) (t:TypeId) (x y:Operand){A:Type}(k:aj S→Option A):Option A:=
 none
theorem M7 (hokW:∀h,ok h=true→W.contains h=true){t:TypeId}{x y:Operand}(hl:aO s) (h:Ho P ok s t x y k=some r):fp P W s ⟨none,.store t x y,ty,pos,after,guard⟩ k r:=by
 unfold Ho at h
 cases h
end
end Go.DN
/-
 DN,part Kh:maps are made,get an entry more;a slice of one of the structs grows.
-/
namespace Go.DN
open Go.AM
section
variable {S:dx}
def HP (P:Program) (s:aj S) (d:Nat) (t:TypeId) (n:Option Operand){A:Type}(k:aj S→Option A):Option A:=
 none
def Er (P:Program) (ok:Nat→Bool) (s:aj S) (t:TypeId) (x y z:Operand){A:Type}(k:aj S→Option A):Option A:=
 none
def P4 (s:aj S):List Operand→Bool
 | [x,_]=>match cG s x with
  | some (.ks h _ _ _)=>match aF s.st h with
   | some (.deep _ _ _ (.map _ _ _) .map _)=>true
   | _=>false
  | _=>false
 | _=>false
def Es (P:Program) (ok:Nat→Bool) (s:aj S) (d:Nat) (c:Call){A:Type}(k:aj S→Option A):Option A:=
 none
def Ss (s:aj S) (x:Operand):Bool:=match cG s x with
 | some (.kp h _ _ _)=>match aF s.st h with
  | some (.deep _ _ _ (.map _ _ _) .map _)=>true
  | _=>false
 | _=>false
def HT (P:Program) (ok:Nat→Bool) (s:aj S) (t:TypeId) (x y:Operand){A:Type}(k:aj S→Option A):Option A:=
 none
def RC:List (TV S)→Bool
 | []=>true
 | .ks _ τ _ _::r=>(match τ with | .st _=>false | _=>true)&&RC r
 | _::_=>false
def UX (s:aj S) (parts:List (Nat×Operand)):Bool:=
 match parts with
 | []=>false
 | _=>match zn s parts 0 with
  | some vs=>RC vs
  | none=>false
def Mq (P:Program) (s:aj S) (d:Nat) (t:TypeId) (n:Nat) (parts:Array (Nat×Operand)){A:Type}(k:aj S→Option A):Option A:=
 none
section
variable {P:Program}{W:List Nat}{s:aj S}{ty:TypeId}{pos:String}{after:Array Edge}{guard:Option (Nat×Bool)}{A:Type}{k:aj S→Option A}{r:A}
theorem NF {d:Nat}{t:TypeId}{n:Option Operand}(hl:aO s) (h:HP P s d t n k=some r):fp P W s ⟨some d,.makeMap t n,ty,pos,after,guard⟩ k r:=by
 unfold HP at h
 cases h
theorem Lr {ok:Nat→Bool}(hokW:∀h,ok h=true→W.contains h=true){t:TypeId}{x y z:Operand}(hl:aO s) (h:Er P ok s t x y z k=some r):fp P W s ⟨none,.mapUpdate t x y z,ty,pos,after,guard⟩ k r:=by
 unfold Er at h
 cases h
theorem Ls {ok:Nat→Bool}(hokW:∀h,ok h=true→W.contains h=true){d:Nat}{args:Array Operand}{ts:Array TypeId}(hl:aO s) (h:Es P ok s d ⟨.builtin .append,args,ts⟩ k=some r):
  fp P W s ⟨some d,.call ⟨.builtin .append,args,ts⟩,ty,pos,after,guard⟩ k r:=by
 unfold Es at h
 cases h
theorem NI {ok:Nat→Bool}(hokW:∀h,ok h=true→W.contains h=true){t:TypeId}{x y:Operand}(hl:aO s) (h:HT P ok s t x y k=some r):fp P W s ⟨none,.store t x y,ty,pos,after,guard⟩ k r:=by
 unfold HT at h
 cases h
theorem QN {d:Nat}{t:TypeId}{n:Nat}{parts:Array (Nat×Operand)}(hl:aO s) (h:Mq P s d t n parts k=some r):fp P W s ⟨some d,.buildSlice t n parts,ty,pos,after,guard⟩ k r:=by
 unfold Mq at h
 cases h
end
end
end Go.DN
/-
 DN,part L:regions.
-/
namespace Go.DN
open Go.AM
section
variable {S:dx}
def wU (s:aj S) (c:Call):Bool:=
 match c.callee with
 | .value x=>match cG s x with
  | some (.cA _)=>true
  | _=>false
 | _=>false
def S9 (s:aj S):Op→Option Call
 | .call c=>match wU s c with
  | true=>some c
  | false=>none
 | _=>none
def SG (s:aj S):List (Nat×Operand)→Bool
 | [(_,x)]=>match cG s x with
  | some (.aK h τ)=>match τ.iS with
   | true=>match aF s.st h with
    | some (.arr _ m _ _ _)=>m
    | _=>false
   | false=>false
  | _=>false
 | _=>false
def DB (s:aj S):List Operand→List Nat
 | []=>[]
 | x::r=>match cG s x with
  | some (.aK h _)=>match Ih s h with
   | true=>h::DB s r
   | false=>DB s r
  | _=>DB s r
def RP (s:aj S) (x:Operand):Bool:=match cG s x with
 | some (.loc h off)=>match aF s.st h with
  | some (.box _ _ cs)=>match cs[off]? with
   | some (.sub _ _ _ _)=>true
   | _=>false
  | _=>false
 | _=>false
noncomputable def On (P:Program) (ok:Nat→Bool){A:Type}(cl:aj S→Option Nat→Call→(aj S→Option A)→Option A) (s:aj S) (dst:Option Nat) (op:Op) (k:aj S→Option A):Option A:=
 match dst with
 | some d=>match op with
  | .box t x=>QP s d t x k
  | .alloc t=>I2 P s d t k
  | .makeSlice t x y=>match Sp S P t with
   | true=>Ep P s d t x y k
   | false=>CX P s d t x y k
  | .load t x=>Ed P ok s d t x k
  | .makeMap t n=>HP P s d t n k
  | .buildSlice t n parts=>match S.uR&&SG s parts.toList with
   | true=>EE P ok s d t n parts k
   | false=>match UX s parts.toList with
    | true=>Mq P s d t n parts k
    | false=>match ri (Lf s (parts.toList.map (·.2))) s with
    | some s'=>QO P s' d t n parts k
    | none=>none
  | .binOp op t x y _=>PD P s d op t x y k
  | .call c=>match c.callee with
   | .builtin .append=>match c.args.toList with
    | x::r=>match T1 s (x::r) with
     | true=>I0 P ok s d c k
     | false=>match P4 s (x::r) with
      | true=>Es P ok s d c k
      | false=>match DB s [x] with
      | []=>match ri (DB s r) s with
       | some s=>yX s x fun s'=>QX P ok s' d c k
       | none=>none
      | _=>EG P ok s d c k
    | []=>none
   | .builtin .copy=>Mi P ok s d c k
   | .value _=>match wU s c with
    | true=>none
    | false=>cl s (some d) c k
   | _=>none
  | _=>none
 | none=>match op with
  | .store t x y=>match cG s x with
   | some (.gY h _ _ _)=>match Ih s h with
    | true=>match Ic s h with
     | true=>Ho P ok s t x y k
     | false=>Ix P ok s t x y k
    | false=>match ri (Lf s [y]) s with
     | some s'=>zc P ok s' t x y k
     | none=>none
   | _=>match Ss s x with
    | true=>HT P ok s t x y k
    | false=>match RP s x with
     | true=>zc P ok s t x y k
     | false=>yX s y fun s'=>zc P ok s' t x y k
  | .mapUpdate t x y z=>Er P ok s t x y z k
  | .call c=>match c.callee with
   | .builtin .clear=>IQ P ok s c k
   | .value _=>match wU s c with
    | true=>none
    | false=>cl s none c k
   | _=>none
  | _=>none
def Ig:Op→Bool
 | .box _ _=>true
 | .alloc _=>true
 | .makeSlice _ _ _=>true
 | .buildSlice _ _ _=>true
 | .store _ _ _=>true
 | .makeMap _ _=>true
 | .mapUpdate _ _ _ _=>true
 | .binOp op _ _ y _=>match op with
  | .eql=>match y with
   | .const (.slice none 0 0)=>true
   | _=>false
  | .neq=>match y with
   | .const (.slice none 0 0)=>true
   | _=>false
  | _=>false
 | .call c=>match c.callee with
  | .builtin .append=>true
  | .builtin .copy=>true
  | .builtin .clear=>true
  | .value _=>true
  | _=>false
 | _=>false
def VJ:Op→Bool
 | .load _ _=>true
 | .lookup _ _ _ _=>true
 | _=>false
def VK (s:aj S):Op→Bool
 | .convert _ _ x=>match cG s x with
  | some (.aK _ (.int .u8))=>true
  | _=>false
 | _=>false
def Dc (s:aj S) (op:Op):Bool:=VJ op||VK s op
def rn (N:Nat):Option Nat→Bool
 | some d=>Nat.blt d N
 | none=>true
def LJ (s:aj S) (op:Op):Bool:=Ig op||Ev s op
noncomputable def Nw (P:Program) (N:Nat) (ok:Nat→Bool){A:Type}(cl:aj S→Option Nat→Call→(aj S→Option A)→Option A) (s:aj S) (o:Oper) (k:aj S→Option A):Option A:=
 match rn N o.dst with
 | true=>match LJ s o.op with
  | true=>On P ok cl s o.dst o.op k
  | false=>match o.dst with
   | some d=>match Dc s o.op with
    | true=>Js P [] s o.op fun v=>k (s.put d v)
    | false=>Hu P s o.op fun v x=>k (s.oD d v x)
   | none=>none
 | false=>none
def oX (N:Nat) (s:aj S) (o:Oper):Option (aj S):=
 match o.dst with
 | some d=>match Nat.blt d N with
  | true=>some (s.put d (.aU []))
  | false=>none
 | none=>some {s with fr:=s.fr}
noncomputable def qQ (P:Program) (N:Nat) (ok:Nat→Bool) (ops:List Oper){A:Type}(cl:aj S→Option Nat→Call→(aj S→Option A)→Option A):List Oper→aj S→(aj S→Option A)→Option A
 | [],s,k=>k s
 | o::r,s,k=>match o.guard with
  | none=>match S9 s o.op with
   | some c=>cl s o.dst c fun s'=>qQ P N ok ops cl r s' k
   | none=>Nw P N ok cl s o fun s'=>qQ P N ok ops cl r s' k
  | some (j,want)=>match ops[j]? with
   | some oj=>match oj.dst with
    | some d=>match bp s.bV d with
     | some (.ab _ .bool b)=>match want with
      | true=>cond b (Nw P N ok cl (s.put d (.ab true .bool true)) o fun s'=>qQ P N ok ops cl r s' k)
       (match oX N (s.put d (.ab true .bool false)) o with | some s'=>qQ P N ok ops cl r s' k | none=>none)
      | false=>cond b (match oX N (s.put d (.ab true .bool true)) o with | some s'=>qQ P N ok ops cl r s' k | none=>none)
       (Nw P N ok cl (s.put d (.ab true .bool false)) o fun s'=>qQ P N ok ops cl r s' k)
     | some (.aU [])=>match oX N s o with
      | some s'=>qQ P N ok ops cl r s' k
      | none=>none
     | _=>none
    | none=>none
   | none=>none
section
variable {P:Program}{N:Nat}{cx:Cx}{Q:Exit→St→Prop}{W:List Nat}{ok:Nat→Bool}{A:Type}{cl:aj S→Option Nat→Call→(aj S→Option A)→Option A}{r:A}
def GG (P:Program) (W:List Nat) (s:aj S) (o:Oper){A:Type}(k:aj S→Option A) (kp:List PanicEntry→aj S→Option A) (r:A):Prop:=
 ∃(T:St→Prop) (Tp:List PanicEntry→St→Prop),kJ P W s.er o T Tp∧(∀s',T s'→∃t:aj S,Gh s' t.er∧aO t∧bA s t∧k t=some r)∧∀ch s',Tp ch s'→∃t:aj S,Gh s' t.er∧aO t∧bA s t∧kp ch t=some r
theorem fp.p {s:aj S}{o:Oper}{k:aj S→Option A}{kp:List PanicEntry→aj S→Option A}(h:fp P W s o k r):GG P W s o k kp r:=
 let ⟨T,h1,h2⟩:=h
 ⟨T,_,h1.p,h2,fun _ _ h=>h.elim⟩
theorem kJ.tell {s:St}{o:Oper}{T:St→Prop}{Tp Tp':List PanicEntry→St→Prop}(h:kJ P W s o T Tp) (ht:∀ch s',Tp ch s'→∃t,Gh s' t∧Tp' ch t):kJ P W s o T Tp':=
 ⟨h.1,fun N cx μ a w hr hN K Q hK hp=>h.2 N cx μ a w hr hN K Q hK fun ch μ' s' w' hr' hT=>by
  obtain⟨t,h1,h2⟩:=ht ch s' hT
  obtain⟨μ2,h3,_⟩:=h1 N cx μ' a w' hr'
  exact hp ch μ2 t w' h3 h2⟩
def Ac (P:Program) (N:Nat) (W:List Nat){A:Type}(cl:aj S→Option Nat→Call→(aj S→Option A)→Option A) (kp:List PanicEntry→aj S→Option A) (r:A):Prop:=
 ∀(s:aj S) (dst:Option Nat) (c:Call) (k:aj S→Option A),aO s→wU s c=false→cl s dst c k=some r→∀(ty:TypeId) (pos:String) (after:Array Edge) (guard:Option (Nat×Bool)),GG P W s ⟨dst,.call c,ty,pos,after,guard⟩ k kp r
def GH (P:Program) (N:Nat) (W:List Nat){A:Type}(cl:aj S→Option Nat→Call→(aj S→Option A)→Option A) (r:A):Prop:=
 ∀(s:aj S) (dst:Option Nat) (c:Call) (k:aj S→Option A),aO s→wU s c=false→cl s dst c k=some r→∀(ty:TypeId) (pos:String) (after:Array Edge) (guard:Option (Nat×Bool)),fp P W s ⟨dst,.call c,ty,pos,after,guard⟩ k r
theorem GH.p {kp:List PanicEntry→aj S→Option A}(h:GH P N W cl r):Ac P N W cl kp r:=fun s dst c k a b d ty pos after guard=>(h s dst c k a b d ty pos after guard).p
def Uy (P:Program) (N:Nat){A:Type}(cl:aj S→Option Nat→Call→(aj S→Option A)→Option A) (r:A):Prop:=
 ∀(cx:Cx) (s:aj S) (dst:Option Nat) (c:Call) (k:aj S→Option A),aO s→wU s c=true→cl s dst c k=some r→∀(ty:TypeId) (pos:String) (after:Array Edge) (ops:Array Oper) (rest:List Oper) (Q:Exit→St→Prop),
  (∀t:aj S,aO t→bA s t→k t=some r→GL P N cx ops Q rest t.er)→GL P N cx ops Q (⟨dst,.call c,ty,pos,after,none⟩::rest) s.er
theorem O4 {s:aj S}{op:Op}{c:Call}(h:S9 s op=some c):op=.call c∧wU s c=true:=by
 unfold S9 at h
 split at h
 ·split at h
  ·rename_i hy;cases h;exact⟨rfl,hy⟩
  ·cases h
 ·cases h
theorem IH (hokW:∀h,ok h=true→W.contains h=true){kp:List PanicEntry→aj S→Option A}(hcl:Ac P N W cl kp r){s:aj S}{o:Oper}{k:aj S→Option A}(hl:aO s) (h:On P ok cl s o.dst o.op k=some r):GG P W s o k kp r:=by
 obtain⟨dst,op,ty,pos,after,guard⟩:=o
 unfold On at h
 dsimp only at h
 split at h
 ·split at h
  ·exact(SY hl h).p
  ·exact(OP hl h).p
  ·split at h
   ·exact(Lq hl h).p
   ·exact(PK hl h).p
  ·exact(K5 hokW hl h).p
  ·exact(NF hl h).p
  ·split at h
   ·exact(Ma hokW hl h).p
   ·split at h
    ·exact(QN hl h).p
    ·split at h
     ·rename_i s' hz
      obtain⟨a1,a2,a3⟩:=nn hl hz
      exact(fp.gh a1 a3 (SX a2 h)).p
     ·cases h
  ·exact(Si hl h).p
  ·rename_i c
   obtain⟨cal,args,ts⟩:=c
   dsimp only at h
   split at h
   ·split at h
    ·split at h
     ·exact(ON hokW hl h).p
     ·split at h
      ·exact(Ls hokW hl h).p
      ·split at h
       ·split at h
        ·rename_i s1 hz
         obtain⟨b1,b2,b3⟩:=nn hl hz
         obtain⟨t,a1,a2,a3,a4⟩:=yW b2 h
         exact(fp.gh b1 b3 (fp.gh a1 a3 (S8 hokW a2 a4))).p
        ·cases h
       ·exact(Mb hokW hl h).p
    ·cases h
   ·exact(Qv hokW hl h).p
   ·split at h
    ·cases h
    ·rename_i hy;exact hcl _ _ _ _ hl hy h _ _ _ _
   ·cases h
  ·cases h
 ·split at h
  ·split at h
   ·split at h
    ·split at h
     ·exact(M7 hokW hl h).p
     ·exact(Od hokW hl h).p
    ·split at h
     ·rename_i s' hz
      obtain⟨a1,a2,a3⟩:=nn hl hz
      exact(fp.gh a1 a3 (zb hokW a2 h)).p
     ·cases h
   ·split at h
    ·exact(NI hokW hl h).p
    ·split at h
     ·exact(zb hokW hl h).p
     ·obtain⟨t,a1,a2,a3,a4⟩:=yW hl h
      exact(fp.gh a1 a3 (zb hokW a2 a4)).p
  ·exact(Lr hokW hl h).p
  ·rename_i c
   obtain⟨cal,args,ts⟩:=c
   dsimp only at h
   split at h
   ·exact(Ot hokW hl h).p
   ·split at h
    ·cases h
    ·rename_i hy;exact hcl _ _ _ _ hl hy h _ _ _ _
   ·cases h
  ·cases h
theorem HL (hokW:∀h,ok h=true→W.contains h=true){kp:List PanicEntry→aj S→Option A}(hcl:Ac P N W cl kp r){s:aj S}{ops:Array Oper}{rest:List Oper}{o:Oper}{k:aj S→Option A}(hl:aO s) (hw:cT ops s.er o.guard=some true)
  (h:Nw P N ok cl s o k=some r) (hk:∀t:aj S,aO t→bA s t→k t=some r→GL P N cx ops Q rest t.er)
  (hkp:∀ch (t:aj S),aO t→bA s t→kp ch t=some r→∃u,Gh t.er u∧Q (.panic ch) u):GL P N cx ops Q (o::rest) s.er:=by
 unfold Nw at h
 split at h
 ·rename_i hd
  split at h
  ·obtain⟨T,Tp,he,hT,hTp⟩:=IH hokW hcl hl h
   refine GL.SM (Tp:=fun ch u=>Q (.panic ch) u) hw (fun d e=>?_) (kJ.tell he fun ch s' ht=>?_) (fun s' ht=>?_) fun _ _ h=>h
   ·rw[e] at hd;simpa[rn,fh] using hd
   ·obtain⟨t,h1,h2,h3,h4⟩:=hTp ch s' ht
    obtain⟨u,h5,h6⟩:=hkp ch t h2 h3 h4
    exact⟨u,h1.trans h5,h6⟩
   ·obtain⟨t,h1,h2,h3,h4⟩:=hT s' ht
    exact GL.gh h1 (hk t h2 h3 h4)
  ·split at h
   ·rename_i d e
    obtain⟨dst,op,ty,pos,after,guard⟩:=o
    dsimp only at e h hd
    subst e
    have hN:d<N:=by simpa[rn,fh] using hd
    split at h
    ·obtain⟨v,h1,h2⟩:=Ck (dst:=some d) (ty:=ty) (pos:=pos) (after:=after) (guard:=guard) hl h
     exact GL.yield hw rfl hN h1 (hk _ (hl.put d v) ⟨rfl,rfl,rfl⟩ h2)
    ·obtain⟨v,x,h1,h2,h3⟩:=CE (dst:=some d) (ty:=ty) (pos:=pos) (after:=after) (guard:=guard) h
     refine GL.yield hw rfl hN (h1.yield []) ?_
     rw[←Ak s d v x]
     exact hk _ (Eg hl d h2) (sY s d v x) h3
   ·cases h
 ·cases h
theorem Bi {s t:aj S}{ops:Array Oper}{rest:List Oper}{o:Oper}(hl:aO s) (hw:cT ops s.er o.guard=some false) (h:oX N s o=some t) (hk:aO t→bA s t→GL P N cx ops Q rest t.er):GL P N cx ops Q (o::rest) s.er:=by
 unfold oX at h
 obtain⟨dst,op,ty,pos,after,guard⟩:=o
 dsimp only at h
 split at h
 ·split at h
  ·rename_i hN
   cases h
   exact GL.V0 hw hN (hk (hl.put _ _) ⟨rfl,rfl,rfl⟩)
  ·cases h
 ·cases h
  refine GL.pass hw ?_
  exact hk hl ⟨rfl,rfl,rfl⟩
theorem vo {ops:List Oper}{s:aj S}{j d:Nat}{want b:Bool}{oj:Oper}(h1:ops[j]?=some oj) (h2:oj.dst=some d) (h3:bp s.bV d=some (.ab true .bool b)):cT ops.toArray s.er (some (j,want))=some (b==want):=by
 have:get s.er.fr d=some (.val (.bool b)):=by rw[show get s.er.fr d=_ from fG h3];exact congrArg some (gZ true b)
 simp[cT,h1,h2,this]
theorem MF {ops:List Oper}{s:aj S}{j d:Nat}{want:Bool}{oj:Oper}(h1:ops[j]?=some oj) (h2:oj.dst=some d) (h3:bp s.bV d=some (.aU [])):cT ops.toArray s.er (some (j,want))=some false:=by
 have:get s.er.fr d=some (.aU []):=by rw[show get s.er.fr d=_ from fG h3];rfl
 simp[cT,h1,h2,this]
theorem CZ {s:aj S}{ops:Array Oper}{rest:List Oper}{d:Nat}{f b v:Bool}(h:bp s.bV d=some (.ab f .bool b)) (hb:b=v) (hk:GL P N cx ops Q rest (s.put d (.ab true .bool v)).er):GL P N cx ops Q rest s.er:=by
 refine GL.lit d (b:=b) (v:=v) ?_ hb ?_
 ·rw[show get s.er.fr d=_ from fG h];exact congrArg some (gZ f b)
 ·rw[iT] at hk
  have e:(TV.ab true .bool v:TV S).er s.ln=.val (.bool v):=gZ true v
  rw[e] at hk
  exact hk
theorem ql (hokW:∀h,ok h=true→W.contains h=true){kp:List PanicEntry→aj S→Option A}(hcl:Ac P N W cl kp r) (hyl:Uy P N cl r){ops:List Oper}:∀{rest:List Oper}{s:aj S}{k:aj S→Option A},aO s→qQ P N ok ops cl rest s k=some r→
  (∀t:aj S,aO t→bA s t→k t=some r→Q .normal t.er)→(∀ch (t:aj S),aO t→bA s t→kp ch t=some r→∃u,Gh t.er u∧Q (.panic ch) u)→GL P N cx ops.toArray Q rest s.er
 | [],s,k,hl,h,hk,_=>GL.nil (hk s hl (bA.refl s) h)
 | o::rest,s,k,hl,h,hk,hkp=>by
  simp only[qQ] at h
  split at h
  ·rename_i hg
   split at h
   ·rename_i c hc
    obtain⟨e1,e2⟩:=O4 hc
    obtain⟨dst,op,ty,pos,after,guard⟩:=o
    dsimp only at hg e1 h
    subst hg;subst e1
    exact hyl cx s dst c _ hl e2 h ty pos after _ _ _ fun t hl' hkp' h'=>ql hokW hcl hyl hl' h' (fun t2 a1 a2 a3=>hk t2 a1 (bA.trans ⟨hkp'.lo,hkp'.bM,hkp'.df⟩ a2) a3) fun ch t2 a1 a2 a3=>hkp ch t2 a1 (bA.trans ⟨hkp'.lo,hkp'.bM,hkp'.df⟩ a2) a3
   exact HL hokW hcl hl (by rw[hg];rfl) h (fun t hl' hkp' h'=>ql hokW hcl hyl hl' h' (fun t2 a1 a2 a3=>hk t2 a1 (bA.trans ⟨hkp'.lo,hkp'.bM,hkp'.df⟩ a2) a3) fun ch t2 a1 a2 a3=>hkp ch t2 a1 (bA.trans ⟨hkp'.lo,hkp'.bM,hkp'.df⟩ a2) a3) hkp
  ·rename_i j want hg
   split at h
   ·rename_i oj hj
    split at h
    ·rename_i d hd
     split at h
     ·rename_i f b hb
      have hlt:=fun v=>aO.put hl d (.ab true .bool v:TV S)
      have ht:∀v,bp (s.put d (.ab true .bool v)).bV d=some (.ab true .bool v):=fun v=>by simp only[aj.put,aj.bV,bd,bp,aQ,cond_true]
      split at h
      ·cases hbv:b with
       | true=>
        rw[hbv] at h
        refine CZ hb hbv (HL hokW hcl (hlt true) ?_ h (fun t hl' hkp' h'=>ql hokW hcl hyl hl' h' (fun t2 a1 a2 a3=>hk t2 a1 (bA.trans ⟨hkp'.lo,hkp'.bM,hkp'.df⟩ a2) a3) fun ch t2 a1 a2 a3=>hkp ch t2 a1 (bA.trans ⟨hkp'.lo,hkp'.bM,hkp'.df⟩ a2) a3) fun ch t2 a1 a2 a3=>hkp ch t2 a1 ⟨a2.lo,a2.bM,a2.df⟩ a3)
        rw[hg,vo hj hd (ht true)];rfl
       | false=>
        rw[hbv] at h
        dsimp only[cond_false] at h
        refine CZ hb hbv ?_
        split at h
        ·rename_i s' hs
         exact Bi (hlt false) (by rw[hg,vo hj hd (ht false)];rfl) hs fun hl' hkp'=>ql hokW hcl hyl hl' h (fun t2 a1 a2 a3=>hk t2 a1 (bA.trans ⟨hkp'.lo,hkp'.bM,hkp'.df⟩ a2) a3) fun ch t2 a1 a2 a3=>hkp ch t2 a1 (bA.trans ⟨hkp'.lo,hkp'.bM,hkp'.df⟩ a2) a3
        ·cases h
      ·cases hbv:b with
       | true=>
        rw[hbv] at h
        dsimp only[cond_true] at h
        refine CZ hb hbv ?_
        split at h
        ·rename_i s' hs
         exact Bi (hlt true) (by rw[hg,vo hj hd (ht true)];rfl) hs fun hl' hkp'=>ql hokW hcl hyl hl' h (fun t2 a1 a2 a3=>hk t2 a1 (bA.trans ⟨hkp'.lo,hkp'.bM,hkp'.df⟩ a2) a3) fun ch t2 a1 a2 a3=>hkp ch t2 a1 (bA.trans ⟨hkp'.lo,hkp'.bM,hkp'.df⟩ a2) a3
        ·cases h
       | false=>
        rw[hbv] at h
        refine CZ hb hbv (HL hokW hcl (hlt false) ?_ h (fun t hl' hkp' h'=>ql hokW hcl hyl hl' h' (fun t2 a1 a2 a3=>hk t2 a1 (bA.trans ⟨hkp'.lo,hkp'.bM,hkp'.df⟩ a2) a3) fun ch t2 a1 a2 a3=>hkp ch t2 a1 (bA.trans ⟨hkp'.lo,hkp'.bM,hkp'.df⟩ a2) a3) fun ch t2 a1 a2 a3=>hkp ch t2 a1 ⟨a2.lo,a2.bM,a2.df⟩ a3)
        rw[hg,vo hj hd (ht false)];rfl
     ·rename_i hb
      split at h
      ·rename_i s' hs
       exact Bi hl (by rw[hg,MF hj hd hb]) hs fun hl' hkp'=>ql hokW hcl hyl hl' h (fun t2 a1 a2 a3=>hk t2 a1 (bA.trans ⟨hkp'.lo,hkp'.bM,hkp'.df⟩ a2) a3) fun ch t2 a1 a2 a3=>hkp ch t2 a1 (bA.trans ⟨hkp'.lo,hkp'.bM,hkp'.df⟩ a2) a3
      ·cases h
     ·cases h
    ·cases h
   ·cases h
end
end
end Go.DN
/-
 DN,part M:regions that draw their order.
-/
namespace Go.DN
open Go.AM
section
variable {S:dx}
def qS (s:aj S):List Operand→Bool
 | []=>false
 | x::r=>match cG s x with
  | some (.aU [])=>true
  | _=>qS s r
def calm (W:List Nat) (s:aj S) (o:Oper):Bool:=
 match o.op with
 | .load _ x=>match cG s x with
  | some (.ptr _ _ _)=>true
  | some (.loc h _)=>!(W.contains h)
  | some (.gY h _ _ _)=>!(W.contains h)
  | some (.aU [])=>true
  | _=>false
 | .call c=>match Ig (.call c) with
  | true=>qS s c.args.toList
  | false=>true
 | .binOp op t x y t'=>match Ig (.binOp op t x y t') with
  | true=>qS s [x]
  | false=>true
 | .lookup _ _ _ _=>false
 | .convert _ _ x=>match cG s x with
  | some (.aK h (.int .u8))=>!(W.contains h)
  | _=>true
 | op=>!(Ig op)
def off (s:aj S) (o:Oper):Bool:=
 match o.op with
 | .load _ x=>qS s [x]
 | .call c=>qS s c.args.toList
 | .binOp _ _ x _ _=>qS s [x]
 | _=>false
def pick (f:Oper→Bool) (ops:Array Oper) (listed:Array Bool):List Nat→Option (Nat×Oper)
 | []=>none
 | i::r=>match ops[i]? with
  | some o=>match f o&&Region.free .any ops listed i with
   | true=>some (i,o)
   | false=>pick f ops listed r
  | none=>pick f ops listed r
theorem wM {f:Oper→Bool}{ops:Array Oper}{listed:Array Bool}:∀{l:List Nat}{i:Nat}{o:Oper},pick f ops listed l=some (i,o)→i∈l∧ops[i]?=some o∧f o=true∧Region.free .any ops listed i=true
 | [],_,_,h=>by cases h
 | j::r,i,o,h=>by
  simp only[pick] at h
  split at h
  ·rename_i o' ho
   split at h
   ·rename_i hc
    cases h
    simp only[ag] at hc
    exact⟨au,ho,hc.1,hc.2⟩
   ·obtain⟨h1,h2⟩:=wM h
    exact⟨ap _ h1,h2⟩
  ·obtain⟨h1,h2⟩:=wM h
   exact⟨ap _ h1,h2⟩
def wY (N:Nat) (ops:Array Oper) (s:aj S) (o:Oper){A:Type}(run:aj S→Option A) (skip:aj S→Option A):Option A:=
 match o.guard with
 | none=>run s
 | some (j,want)=>match ops[j]? with
  | some oj=>match oj.dst with
   | some d=>match bp s.bV d with
    | some (.ab _ .bool b)=>match want with
     | true=>cond b (run (s.put d (.ab true .bool true))) (match oX N (s.put d (.ab true .bool false)) o with | some s'=>skip s' | none=>none)
     | false=>cond b (match oX N (s.put d (.ab true .bool true)) o with | some s'=>skip s' | none=>none) (run (s.put d (.ab true .bool false)))
    | some (.aU [])=>match oX N s o with
     | some s'=>skip s'
     | none=>none
    | _=>none
   | none=>none
  | none=>none
open Classical in
noncomputable def rT {A:Type}(x y:Option A):Option A:=if x=y then x else none
theorem QZ {A:Type}{x y:Option A}{r:A}(h:rT x y=some r):x=some r∧y=some r:=by
 unfold rT at h
 split at h
 ·rename_i e
  exact⟨h,e▸h⟩
 ·cases h
theorem nv {A:Type}(x:Option A):rT x x=x:=by unfold rT;simp
noncomputable def pr {A:Type}(x:Option A):Option A:=rT x x
theorem lb {A:Type}(x:Option A):pr x=x:=nv x
noncomputable def Q0 {A:Type}:List (Option A)→Option A
 | []=>none
 | [x]=>x
 | x::r=>rT x (Q0 r)
theorem FT {A:Type}:∀{l:List (Option A)}{r:A},Q0 l=some r→∀x∈l,x=some r
 | [],_,h,x,hx=>by cases hx
 | [y],r,h,x,hx=>by simp at hx;subst hx;exact h
 | y::z::l,r,h,x,hx=>by
  obtain⟨h1,h2⟩:=QZ h
  rcases bf.1 hx with e | hx
  ·subst e;exact h1
  ·exact FT h2 x hx
def H5 (ops:Array Oper) (s:aj S) (o:Oper):Bool:=
 match o.guard with
 | none=>true
 | some (j,want)=>match ops[j]? with
  | some oj=>match oj.dst with
   | some d=>match bp s.bV d with
    | some (.ab _ .bool b)=>match b with
     | true=>want
     | false=>!want
    | _=>false
   | none=>false
  | none=>false
theorem NQ {ops:Array Oper}{s:aj S}{o:Oper}(h:H5 ops s o=true):cT ops s.er o.guard=some true:=by
 unfold H5 at h
 split at h
 ·rename_i hg;rw[hg];rfl
 ·rename_i j want hg
  rw[hg]
  split at h
  ·rename_i oj hj
   split at h
   ·rename_i d hd
    split at h
    ·rename_i f b hb
     have:get s.er.fr d=some (.val (.bool b)):=by rw[show get s.er.fr d=_ from fG hb];exact congrArg some (gZ f b)
     have hw:cT ops s.er (some (j,want))=some (b==want):=by simp[cT,hj,hd,this]
     rw[hw]
     cases b <;> cases want <;> first | rfl | cases h
    ·cases h
   ·cases h
  ·cases h
def pu (ops:Array Oper){A:Type}:List Nat→aj S→(aj S→Option A)→Option A
 | [],s,k=>k s
 | i::r,s,k=>match ops[i]? with
  | some o=>match o.guard with
   | some (j,_)=>match ops[j]? with
    | some oj=>match oj.dst with
     | some d=>match bp s.bV d with
      | some (.ab _ .bool b)=>cond b (pu ops r (s.put d (.ab true .bool true)) k) (pu ops r (s.put d (.ab true .bool false)) k)
      | _=>pu ops r s k
     | none=>pu ops r s k
    | none=>pu ops r s k
   | none=>pu ops r s k
  | none=>pu ops r s k
def PB (ops:Array Oper) (s:aj S) (o:Oper):Bool:=
 match o.guard with
 | none=>false
 | some (j,want)=>match ops[j]? with
  | some oj=>match oj.dst with
   | some d=>match bp s.bV d with
    | some (.ab _ .bool b)=>match b with
     | true=>!want
     | false=>want
    | some (.aU [])=>true
    | _=>false
   | none=>false
  | none=>false
noncomputable def mf (P:Program) (N:Nat) (ok:Nat→Bool) (ops:Array Oper){A:Type}(cl:aj S→Option Nat→Call→(aj S→Option A)→Option A):Nat→Array Bool→aj S→(aj S→Option A)→Option A
 | 0,listed,s,k=>match Region.ready .any ops listed with
  | []=>k s
  | _=>none
 | aY+1,listed,s,k=>match Region.ready .any ops listed with
  | []=>k s
  | i0::rs=>match pick (fun o=>rn N o.dst&&((!(Dc s o.op)&&!(Ig o.op))||off s o)&&o.dst.isSome) ops listed (i0::rs) with
   | some (i,o)=>wY N ops s o (fun s'=>match o.dst with
     | some d=>Hu P s' o.op fun v x=>mf P N ok ops cl aY (listed.setIfInBounds i true) (s'.oD d v x) k
     | none=>none) (fun s'=>mf P N ok ops cl aY (listed.setIfInBounds i true) s' k)
   | none=>match rs with
    | []=>match ops[i0]? with
     | some o=>match rn N o.dst with
      | true=>match o.dst,Dc s o.op&&!(Ev s o.op) with
       | some d,true=>wY N ops s o (fun s'=>Js P [] s' o.op fun v=>mf P N ok ops cl aY (listed.setIfInBounds i0 true) (s'.put d v) k) (fun s'=>match Region.free .any ops listed i0 with
        | true=>mf P N ok ops cl aY (listed.setIfInBounds i0 true) s' k
        | false=>none)
       | _,_=>match LJ s o.op with
        | true=>wY N ops s o (fun s'=>On P ok cl s' o.dst o.op fun s2=>mf P N ok ops cl aY (listed.setIfInBounds i0 true) s2 k) (fun s'=>match Region.free .any ops listed i0 with
         | true=>mf P N ok ops cl aY (listed.setIfInBounds i0 true) s' k
         | false=>none)
        | false=>none
      | false=>none
     | none=>none
    | _=>pu ops (i0::rs) s fun s=>match pick (fun o=>rn N o.dst&&PB ops s o&&o.dst.isSome) ops listed (i0::rs) with
     | some (i,o)=>match oX N s o with
      | some s'=>mf P N ok ops cl aY (listed.setIfInBounds i true) s' k
      | none=>none
     | none=>Q0 ((i0::rs).map fun i=>match ops[i]? with
      | some o=>match rn N o.dst&&H5 ops s o with
       | true=>match o.dst,Dc s o.op&&!(Ev s o.op) with
        | some d,true=>Js P [] s o.op fun v=>mf P N ok ops cl aY (listed.setIfInBounds i true) (s.put d v) k
        | _,_=>match LJ s o.op with
         | true=>On P ok cl s o.dst o.op fun s2=>mf P N ok ops cl aY (listed.setIfInBounds i true) s2 k
         | false=>none
       | false=>none
      | none=>none)
noncomputable def w8 (P:Program) (N:Nat) (ok:Nat→Bool) (W:List Nat) (ops:Array Oper){A:Type}(cl:aj S→Option Nat→Call→(aj S→Option A)→Option A):Nat→Array Bool→aj S→(aj S→Option A)→Option A
 | 0,listed,s,k=>mf P N ok ops cl 0 listed s k
 | aY+1,listed,s,k=>match pick (fun o=>rn N o.dst&&calm W s o&&o.dst.isSome) ops listed (Region.ready .any ops listed) with
  | some (i,o)=>wY N ops s o (fun s'=>match o.dst with
    | some d=>match Dc s' o.op with
     | true=>Js P W s' o.op fun v=>w8 P N ok W ops cl aY (listed.setIfInBounds i true) (s'.put d v) k
     | false=>Hu P s' o.op fun v x=>w8 P N ok W ops cl aY (listed.setIfInBounds i true) (s'.oD d v x) k
    | none=>none) (fun s'=>w8 P N ok W ops cl aY (listed.setIfInBounds i true) s' k)
  | none=>mf P N ok ops cl (aY+1) listed s k
noncomputable def vW (P:Program) (N:Nat) (ok:Nat→Bool) (W:List Nat) (ops:Array Oper){A:Type}(cl:aj S→Option Nat→Call→(aj S→Option A)→Option A) (s:aj S) (k:aj S→Option A):Option A:=
 match Region.noSelect ops&&ss ops.toList with
 | true=>w8 P N ok W ops cl ops.size (Array.replicate ops.size false) s k
 | false=>none
section
variable {P:Program}{N:Nat}{cx:Cx}{Q:Exit→St→Prop}{W:List Nat}{ok:Nat→Bool}{A:Type}{cl:aj S→Option Nat→Call→(aj S→Option A)→Option A}{r:A}{ops:Array Oper}
theorem tQ {s:aj S}{j d:Nat}{want b:Bool}{oj:Oper}(h1:ops[j]?=some oj) (h2:oj.dst=some d) (h3:bp s.bV d=some (.ab true .bool b)):cT ops s.er (some (j,want))=some (b==want):=by
 have:get s.er.fr d=some (.val (.bool b)):=by rw[show get s.er.fr d=_ from fG h3];exact congrArg some (gZ true b)
 simp[cT,h1,h2,this]
theorem KM {s:aj S}{j d:Nat}{want:Bool}{oj:Oper}(h1:ops[j]?=some oj) (h2:oj.dst=some d) (h3:bp s.bV d=some (.aU [])):cT ops s.er (some (j,want))=some false:=by
 have:get s.er.fr d=some (.aU []):=by rw[show get s.er.fr d=_ from fG h3];rfl
 simp[cT,h1,h2,this]
theorem Sg {s:aj S}{o:Oper}(h:PB ops s o=true):cT ops s.er o.guard=some false:=by
 unfold PB at h
 split at h
 ·cases h
 ·rename_i j want hg
  rw[hg]
  split at h
  ·rename_i oj hj
   split at h
   ·rename_i d hd
    split at h
    ·rename_i f b hb
     have:get s.er.fr d=some (.val (.bool b)):=by rw[show get s.er.fr d=_ from fG hb];exact congrArg some (gZ f b)
     have hw:cT ops s.er (some (j,want))=some (b==want):=by simp[cT,hj,hd,this]
     rw[hw]
     cases b <;> cases want <;> first | rfl | cases h
    ·rename_i hb
     have:get s.er.fr d=some (.aU []):=fG hb
     simp[cT,hj,hd,this]
    ·cases h
   ·cases h
  ·cases h
theorem mX {X:St→Prop}(hlit:∀(s:St) (t:Nat) (b v:Bool),get s.fr t=some (.val (.bool b))→b=v→X {fr:=(t,.val (.bool v))::s.fr,st:=s.st,df:=s.df}→X s):∀{l:List Nat}{s:aj S}{k:aj S→Option A},aO s→pu ops l s k=some r→
  (∀t:aj S,aO t→bA s t→k t=some r→X t.er)→X s.er
 | [],s,k,hl,h,hk=>hk s hl (bA.refl s) h
 | i::l,s,k,hl,h,hk=>by
  have lit:∀{s:aj S}{d:Nat}{f b:Bool}(v:Bool),bp s.bV d=some (.ab f .bool b)→b=v→X (s.put d (.ab true .bool v)).er→X s.er:=by
   intro s d f b v hb e hX
   refine hlit _ d b v ?_ e ?_
   ·rw[show get s.er.fr d=_ from fG hb];exact congrArg some (gZ f b)
   ·rw[iT] at hX
    have e2:(TV.ab true .bool v:TV S).er s.ln=.val (.bool v):=gZ true v
    rw[e2] at hX
    exact hX
  simp only[pu] at h
  split at h
  ·split at h
   ·split at h
    ·split at h
     ·rename_i d _
      split at h
      ·rename_i f b hb
       cases hbv:b with
       | true=>
        rw[hbv] at h
        exact lit true hb hbv (mX hlit (hl.put d _) h fun t a1 a2 a3=>hk t a1 ⟨a2.lo,a2.bM,a2.df⟩ a3)
       | false=>
        rw[hbv] at h
        exact lit false hb hbv (mX hlit (hl.put d _) h fun t a1 a2 a3=>hk t a1 ⟨a2.lo,a2.bM,a2.df⟩ a3)
      ·exact mX hlit hl h hk
     ·exact mX hlit hl h hk
    ·exact mX hlit hl h hk
   ·exact mX hlit hl h hk
  ·exact mX hlit hl h hk
theorem vO {X:St→Prop}(hlit:∀(s:St) (t:Nat) (b v:Bool),get s.fr t=some (.val (.bool b))→b=v→X {fr:=(t,.val (.bool v))::s.fr,st:=s.st,df:=s.df}→X s)
  {s:aj S}{o:Oper}{run skip:aj S→Option A}(hl:aO s) (h:wY N ops s o run skip=some r)
  (hrun:∀t:aj S,aO t→bA s t→cT ops t.er o.guard=some true→run t=some r→X t.er)
  (hskip:∀(t t':aj S),aO t→bA s t→cT ops t.er o.guard=some false→oX N t o=some t'→skip t'=some r→X t.er):X s.er:=by
 unfold wY at h
 have lit:∀{s:aj S}{d:Nat}{f b:Bool}(v:Bool),bp s.bV d=some (.ab f .bool b)→b=v→X (s.put d (.ab true .bool v)).er→X s.er:=by
  intro s d f b v hb e hX
  refine hlit _ d b v ?_ e ?_
  ·rw[show get s.er.fr d=_ from fG hb];exact congrArg some (gZ f b)
  ·rw[iT] at hX
   have e2:(TV.ab true .bool v:TV S).er s.ln=.val (.bool v):=gZ true v
   rw[e2] at hX
   exact hX
 split at h
 ·rename_i hg
  exact hrun s hl (bA.refl s) (by rw[hg];rfl) h
 ·rename_i j want hg
  split at h
  ·rename_i oj hj
   split at h
   ·rename_i d hd
    split at h
    ·rename_i f b hb
     have hlt:=fun v=>aO.put hl d (.ab true .bool v:TV S)
     have ht:∀v,bp (s.put d (.ab true .bool v)).bV d=some (.ab true .bool v):=fun v=>by simp only[aj.put,aj.bV,bd,bp,aQ,cond_true]
     split at h
     ·cases hbv:b with
      | true=>
       rw[hbv] at h
       exact lit true hb hbv (hrun _ (hlt true) ⟨rfl,rfl,rfl⟩ (by rw[hg,tQ hj hd (ht true)];rfl) h)
      | false=>
       rw[hbv] at h
       dsimp only[cond_false] at h
       refine lit false hb hbv ?_
       split at h
       ·rename_i s' hs
        exact hskip _ s' (hlt false) ⟨rfl,rfl,rfl⟩ (by rw[hg,tQ hj hd (ht false)];rfl) hs h
       ·cases h
     ·cases hbv:b with
      | true=>
       rw[hbv] at h
       dsimp only[cond_true] at h
       refine lit true hb hbv ?_
       split at h
       ·rename_i s' hs
        exact hskip _ s' (hlt true) ⟨rfl,rfl,rfl⟩ (by rw[hg,tQ hj hd (ht true)];rfl) hs h
       ·cases h
      | false=>
       rw[hbv] at h
       exact lit false hb hbv (hrun _ (hlt false) ⟨rfl,rfl,rfl⟩ (by rw[hg,tQ hj hd (ht false)];rfl) h)
    ·rename_i hb
     split at h
     ·rename_i s' hs
      exact hskip _ s' hl (bA.refl s) (by rw[hg,KM hj hd hb]) hs h
     ·cases h
    ·cases h
   ·cases h
  ·cases h
theorem qN {s t:aj S}{o:Oper}{d:Nat}(hd:o.dst=some d) (h:oX N s o=some t):d<N∧t=s.put d (.aU []):=by
 unfold oX at h
 rw[hd] at h
 dsimp only at h
 split at h
 ·rename_i hN
  cases h
  exact⟨by simpa[fh] using hN,rfl⟩
 ·cases h
theorem dI.UP {s:St}{aY:Nat}{listed:Array Bool}(i:Nat){o:Oper}(hi:ops[i]?=some o) (hs:Region.noSelect ops=true) (hf:Region.free .any ops listed i=true)
  (hr:(Region.ready .any ops listed).contains i=true) (hw:cT ops s o.guard=some false) (hd:o.dst=none)
  (h:dI P N cx ops Q W aY (listed.setIfInBounds i true) s):dI P N cx ops Q W (aY+1) listed s:=by
 intro ws Wb μ a w hrel hS hW
 refine wpAnyH_take (v:=undef) hi hs hf hr (fun c a' w' h=>(by rw[hd] at h;exact h)) (.inr ⟨dD hrel hw,rfl⟩) hS ?_
 rw[hd]
 exact h ws Wb μ _ w hrel hS hW
theorem ji (hokW:∀h,ok h=true→W.contains h=true){kp:List PanicEntry→aj S→Option A}(hcl:Ac P N W cl kp r) (hs:Region.noSelect ops=true) (hpn:DY Q (sE ops)):∀{aY:Nat}{listed:Array Bool}{s:aj S}{k:aj S→Option A},aO s→mf P N ok ops cl aY listed s k=some r→
  (∀t:aj S,aO t→bA s t→k t=some r→Q .normal t.er)→(∀ch (t:aj S),aO t→bA s t→kp ch t=some r→∃u,Gh t.er u∧Q (.panic ch) u)→dI P N cx ops Q W aY listed s.er
 | 0,listed,s,k,hl,h,hk,hkp=>by
  unfold mf at h
  split at h
  ·rename_i hr
   exact dI.done hr (hk s hl (bA.refl s) h)
  ·cases h
 | aY+1,listed,s,k,hl,h,hk,hkp0=>by
  unfold mf at h
  split at h
  ·rename_i hr
   exact dI.done hr (hk s hl (bA.refl s) h)
  ·rename_i i0 rs hr
   split at h
   ·rename_i i o hp
    obtain⟨p1,p2,p3,p4⟩:=wM hp
    simp only[ag] at p3
    obtain⟨⟨q1,q2⟩,q4⟩:=p3
    have hcon:(Region.ready .any ops listed).contains i=true:=by rw[hr];exact fI.2 p1
    refine vO (X:=fun s=>dI P N cx ops Q W (aY+1) listed s) (fun s t b v h1 h2 h3=>dI.lit t h1 h2 h3) hl h (fun t hl' hkp hw h'=>?_) (fun t t' hl' hkp hw hsk h'=>?_)
    ·cases hd:o.dst with
     | none=>rw[hd] at q4;cases q4
     | some d=>
      rw[hd] at h' q1
      dsimp only at h'
      have hN:d<N:=by simpa[rn,fh] using q1
      obtain⟨v,x,h1,h2,h3⟩:=CE (dst:=o.dst) (ty:=o.type) (pos:=o.pos) (after:=o.after) (guard:=o.guard) h'
      refine dI.take i hpn p2 hs p4 hcon hw hd hN h1 ?_
      rw[←Ak t d v x]
      exact ji hokW hcl hs hpn (Eg hl' d h2) h3 (fun t2 a1 a2 a3=>hk t2 a1 ((hkp.trans (sY t d v x)).trans a2) a3) fun ch t2 a1 a2 a3=>hkp0 ch t2 a1 ((hkp.trans (sY t d v x)).trans a2) a3
    ·cases hd:o.dst with
     | none=>rw[hd] at q4;cases q4
     | some d=>
      obtain⟨hN,e⟩:=qN hd hsk
      subst e
      exact dI.Al i hpn p2 hs p4 hcon hw hd hN (ji hokW hcl hs hpn (hl'.put _ _) h' (fun t2 a1 a2 a3=>hk t2 a1 (hkp.trans ⟨a2.lo,a2.bM,a2.df⟩) a3) fun ch t2 a1 a2 a3=>hkp0 ch t2 a1 (hkp.trans ⟨a2.lo,a2.bM,a2.df⟩) a3)
   ·split at h
    ·split at h
     ·rename_i o ho
      split at h
      ·rename_i hdN
       split at h
       ·rename_i d hd hld
        have hN:d<N:=by rw[hd] at hdN;simpa[rn,fh] using hdN
        refine vO (X:=fun s=>dI P N cx ops Q W (aY+1) listed s) (fun s t b v h1 h2 h3=>dI.lit t h1 h2 h3) hl h (fun t hl' hkp hw h'=>?_) (fun t t' hl' hkp hw hsk h'=>?_)
        ·obtain⟨v,h1,h2⟩:=Ck (dst:=o.dst) (ty:=o.type) (pos:=o.pos) (after:=o.after) (guard:=o.guard) hl' h'
         exact dI.VD i0 hr ho hw hd hN h1 (ji hokW hcl hs hpn (hl'.put d v) h2 (fun t2 a1 a2 a3=>hk t2 a1 (hkp.trans ⟨a2.lo,a2.bM,a2.df⟩) a3) fun ch t2 a1 a2 a3=>hkp0 ch t2 a1 (hkp.trans ⟨a2.lo,a2.bM,a2.df⟩) a3)
        ·split at h'
         ·rename_i hf
          obtain⟨_,e⟩:=qN hd hsk
          subst e
          exact dI.Al i0 hpn ho hs hf (by rw[hr];simp) hw hd hN (ji hokW hcl hs hpn (hl'.put _ _) h' (fun t2 a1 a2 a3=>hk t2 a1 (hkp.trans ⟨a2.lo,a2.bM,a2.df⟩) a3) fun ch t2 a1 a2 a3=>hkp0 ch t2 a1 (hkp.trans ⟨a2.lo,a2.bM,a2.df⟩) a3)
         ·cases h'
       ·split at h
        ·refine vO (X:=fun s=>dI P N cx ops Q W (aY+1) listed s) (fun s t b v h1 h2 h3=>dI.lit t h1 h2 h3) hl h (fun t hl' hkp hw h'=>?_) (fun t t' hl' hkp hw hsk h'=>?_)
         ·obtain⟨T,Tp,h1,h2,h2p⟩:=IH hokW hcl hl' h'
          refine dI.VE i0 hr ho hw (fun d e=>?_) (kJ.tell (Tp':=fun ch u=>Q (.panic ch) u) h1 fun ch s' ht=>?_) (fun s' ht=>?_) fun _ _ h=>h
          ·rw[e] at hdN;simpa[rn,fh] using hdN
          ·obtain⟨t2,g1,g2,g3,g4⟩:=h2p ch s' ht
           obtain⟨u,g5,g6⟩:=hkp0 ch t2 g2 (hkp.trans g3) g4
           exact⟨u,g1.trans g5,g6⟩
          ·obtain⟨t2,g1,g2,g3,g4⟩:=h2 s' ht
           exact dI.gh g1 (ji hokW hcl hs hpn g2 g4 (fun t3 a1 a2 a3=>hk t3 a1 ((hkp.trans g3).trans a2) a3) fun ch t3 a1 a2 a3=>hkp0 ch t3 a1 ((hkp.trans g3).trans a2) a3)
         ·split at h'
          ·rename_i hf
           cases hd:o.dst with
           | none=>
            unfold oX at hsk
            rw[hd] at hsk
            dsimp only at hsk
            cases hsk
            exact dI.UP i0 ho hs hf (by rw[hr];simp) hw hd (ji hokW hcl hs hpn hl' h' (fun t2 a1 a2 a3=>hk t2 a1 (hkp.trans ⟨a2.lo,a2.bM,a2.df⟩) a3) fun ch t2 a1 a2 a3=>hkp0 ch t2 a1 (hkp.trans ⟨a2.lo,a2.bM,a2.df⟩) a3)
           | some d=>
            obtain⟨hN,e⟩:=qN hd hsk
            subst e
            exact dI.Al i0 hpn ho hs hf (by rw[hr];simp) hw hd hN (ji hokW hcl hs hpn (hl'.put _ _) h' (fun t2 a1 a2 a3=>hk t2 a1 (hkp.trans ⟨a2.lo,a2.bM,a2.df⟩) a3) fun ch t2 a1 a2 a3=>hkp0 ch t2 a1 (hkp.trans ⟨a2.lo,a2.bM,a2.df⟩) a3)
          ·cases h'
        ·cases h
      ·cases h
     ·cases h
    ·refine mX (X:=fun s=>dI P N cx ops Q W (aY+1) listed s) (fun s t b v h1 h2 h3=>dI.lit t h1 h2 h3) hl h fun s1 hl1 hk1 h=>?_
     split at h
     ·rename_i i o hp
      obtain⟨p1,p2,p3,p4⟩:=wM hp
      simp only[ag] at p3
      obtain⟨⟨q1,q2⟩,q4⟩:=p3
      have hcon:(Region.ready .any ops listed).contains i=true:=by rw[hr];exact fI.2 p1
      split at h
      ·rename_i s' hsk
       cases hd:o.dst with
       | none=>rw[hd] at q4;cases q4
       | some d=>
        obtain⟨hN,e⟩:=qN hd hsk
        subst e
        exact dI.Al i hpn p2 hs p4 hcon (Sg q2) hd hN (ji hokW hcl hs hpn (hl1.put _ _) h (fun t2 a1 a2 a3=>hk t2 a1 (hk1.trans ⟨a2.lo,a2.bM,a2.df⟩) a3) fun ch t2 a1 a2 a3=>hkp0 ch t2 a1 (hk1.trans ⟨a2.lo,a2.bM,a2.df⟩) a3)
      ·cases h
     ·have hall:=FT h
      refine dI.any i0 rs hr ?_
      have G0:∀i,i∈i0::rs→va P N cx ops Q W aY listed s1.er i:=by
       intro i hi
       have hx:=hall _ (gM hi)
       split at hx
       ·rename_i o ho
        split at hx
        ·rename_i hc
         simp only[ag] at hc
         obtain⟨hdN,hkn⟩:=hc
         have hw:=NQ hkn
         split at hx
         ·rename_i d hd hld
          have hN:d<N:=by rw[hd] at hdN;simpa[rn,fh] using hdN
          obtain⟨v,h1,h2⟩:=Ck (dst:=o.dst) (ty:=o.type) (pos:=o.pos) (after:=o.after) (guard:=o.guard) hl1 hx
          exact va.y i ho hw hd hN h1 (ji hokW hcl hs hpn (hl1.put d v) h2 (fun t2 a1 a2 a3=>hk t2 a1 (hk1.trans ⟨a2.lo,a2.bM,a2.df⟩) a3) fun ch t2 a1 a2 a3=>hkp0 ch t2 a1 (hk1.trans ⟨a2.lo,a2.bM,a2.df⟩) a3)
         ·split at hx
          ·obtain⟨T,Tp,h1,h2,h2p⟩:=IH hokW hcl hl1 hx
           refine va.eP i ho hw (fun d e=>?_) (kJ.tell (Tp':=fun ch u=>Q (.panic ch) u) h1 fun ch s' ht=>?_) (fun s' ht=>?_) fun _ _ h=>h
           ·rw[e] at hdN;simpa[rn,fh] using hdN
           ·obtain⟨t2,g1,g2,g3,g4⟩:=h2p ch s' ht
            obtain⟨u,g5,g6⟩:=hkp0 ch t2 g2 (hk1.trans g3) g4
            exact⟨u,g1.trans g5,g6⟩
           ·obtain⟨t2,g1,g2,g3,g4⟩:=h2 s' ht
            exact dI.gh g1 (ji hokW hcl hs hpn g2 g4 (fun t3 a1 a2 a3=>hk t3 a1 (hk1.trans (g3.trans a2)) a3) fun ch t3 a1 a2 a3=>hkp0 ch t3 a1 (hk1.trans (g3.trans a2)) a3)
          ·cases hx
        ·cases hx
       ·cases hx
      clear hr hall h
      generalize i0::rs=l at G0
      induction l with
      | nil=>exact trivial
      | cons x r ih=>exact⟨G0 x au,ih fun i hi=>G0 i (ap _ hi)⟩
theorem vV (hokW:∀h,ok h=true→W.contains h=true){kp:List PanicEntry→aj S→Option A}(hcl:Ac P N W cl kp r) (hs:Region.noSelect ops=true) (hpn:DY Q (sE ops)):∀{aY:Nat}{listed:Array Bool}{s:aj S}{k:aj S→Option A},aO s→w8 P N ok W ops cl aY listed s k=some r→
  (∀t:aj S,aO t→bA s t→k t=some r→Q .normal t.er)→(∀ch (t:aj S),aO t→bA s t→kp ch t=some r→∃u,Gh t.er u∧Q (.panic ch) u)→nP P N cx ops Q W aY listed s.er
 | 0,listed,s,k,hl,h,hk,hkp0=>nP.later (ji hokW hcl hs hpn hl h hk hkp0)
 | aY+1,listed,s,k,hl,h,hk,hkp0=>by
  unfold w8 at h
  split at h
  ·rename_i i o hp
   obtain⟨p1,p2,p3,p4⟩:=wM hp
   simp only[ag] at p3
   obtain⟨⟨q1,q2⟩,q4⟩:=p3
   have hcon:(Region.ready .any ops listed).contains i=true:=fI.2 p1
   refine vO (X:=fun s=>nP P N cx ops Q W (aY+1) listed s) (fun s t b v h1 h2 h3=>nP.lit t h1 h2 h3) hl h (fun t hl' hkp hw h'=>?_) (fun t t' hl' hkp hw hsk h'=>?_)
   ·cases hd:o.dst with
    | none=>rw[hd] at q4;cases q4
    | some d=>
     rw[hd] at h' q1
     dsimp only at h'
     have hN:d<N:=by simpa[rn,fh] using q1
     split at h'
     ·obtain⟨v,h1,h2⟩:=Ck (dst:=o.dst) (ty:=o.type) (pos:=o.pos) (after:=o.after) (guard:=o.guard) hl' h'
      exact nP.take i hpn p2 hs p4 hcon hw hd hN h1 (vV hokW hcl hs hpn (hl'.put d v) h2 (fun t2 a1 a2 a3=>hk t2 a1 (hkp.trans ⟨a2.lo,a2.bM,a2.df⟩) a3) fun ch t2 a1 a2 a3=>hkp0 ch t2 a1 (hkp.trans ⟨a2.lo,a2.bM,a2.df⟩) a3)
     ·obtain⟨v,x,h1,h2,h3⟩:=CE (dst:=o.dst) (ty:=o.type) (pos:=o.pos) (after:=o.after) (guard:=o.guard) h'
      refine nP.take i hpn p2 hs p4 hcon hw hd hN (h1.yield W) ?_
      rw[←Ak t d v x]
      exact vV hokW hcl hs hpn (Eg hl' d h2) h3 (fun t2 a1 a2 a3=>hk t2 a1 ((hkp.trans (sY t d v x)).trans a2) a3) fun ch t2 a1 a2 a3=>hkp0 ch t2 a1 ((hkp.trans (sY t d v x)).trans a2) a3
   ·cases hd:o.dst with
    | none=>rw[hd] at q4;cases q4
    | some d=>
     obtain⟨hN,e⟩:=qN hd hsk
     subst e
     exact nP.Al i hpn p2 hs p4 hcon hw hd hN (vV hokW hcl hs hpn (hl'.put _ _) h' (fun t2 a1 a2 a3=>hk t2 a1 (hkp.trans ⟨a2.lo,a2.bM,a2.df⟩) a3) fun ch t2 a1 a2 a3=>hkp0 ch t2 a1 (hkp.trans ⟨a2.lo,a2.bM,a2.df⟩) a3)
  ·exact nP.later (ji hokW hcl hs hpn hl h hk hkp0)
theorem II {id:Nat}(hm:P.follows .mixedOrders=true) (hokW:∀h,ok h=true→W.contains h=true){kp:List PanicEntry→aj S→Option A}(hcl:Ac P N W cl kp r){s:aj S}{k:aj S→Option A}(hl:aO s) (h:vW P N ok W ops cl s k=some r)
  (hk:∀t:aj S,aO t→bA s t→k t=some r→Q .normal t.er) (hkp:∀ch (t:aj S),aO t→bA s t→kp ch t=some r→∃u,Gh t.er u∧Q (.panic ch) u∧∀d,d∈sE ops→get u.fr d=none):GW P N cx (.region id ops true) Q s.er:=by
 unfold vW at h
 split at h
 ·rename_i hc
  simp only[ag] at hc
  refine(GW.Gy (Q:=fun e s=>Q e s∧∀ch,e=.panic ch→∀d,d∈sE ops→get s.fr d=none) W hm (vV hokW hcl hc.1 (fun c s h d hd=>h.2 c rfl d hd) hl h (fun t a b c=>⟨hk t a b c,fun ch e=>by cases e⟩) fun ch t a b c=>?_) hc.2).mono fun e s h=>h.1
  obtain⟨u,g1,g2,g3⟩:=hkp ch t a b c
  exact⟨u,g1,g2,fun _ _=>g3⟩
 ·cases h
end
end
end Go.DN
