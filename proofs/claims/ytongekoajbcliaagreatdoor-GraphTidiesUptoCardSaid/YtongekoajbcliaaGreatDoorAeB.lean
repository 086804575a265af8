/-
  Arrays: the plain law: views flipped, formed anew.
-/
import Derived.Test.YtongekoajbcliaaGreatDoorAeA
set_option linter.unusedSimpArgs false
set_option linter.unusedVariables false
namespace Go.DN.Pl
open Go.AM Go.PL
theorem Lv {l:List Int}{rank:Nat}(h:nS l rank=true):l.Pairwise (· < ·):=by
 obtain⟨h1,h2⟩:=qZ.1 h;have hlt:∀d k,k+d+1<l.length→ao l k<ao l (k+d+1):=by
  intro d
  induction d with
  | zero=>intro k hk;exact h2 k hk
  | succ d ih=>intro k hk;have:=ih k (by omega);have h3:=h2 (k+d+1) (by omega);rw[show k+(d+1)+1=k+d+1+1 by omega];omega
 rw[iz];intro i j hi hj hij;have:=hlt (j-i-1) i (by omega);rw[show i+(j-i-1)+1=j by omega] at this;have e1:=(ai.1 (aY (l:=l) (show i<l.length by omega))).2;have e2:=(ai.1 (aY (l:=l) hj)).2;rw[←e1,←e2] at this;exact this
theorem filter_lt:∀(l:List Int) (k:Int),l.Pairwise (· < ·)→l.filter (fun x=>decide (x<k+1))=l.filter (fun x=>decide (x<k))++if hasB l k then[k] else[]
 | [],k,_=>rfl
 | x::r,k,h=>by
  obtain⟨h1,h2⟩:=List.pairwise_cons.1 h;have ih:=filter_lt r k h2;have hh:hasB (x::r) k=(x==k||hasB r k):=rfl
  by_cases hx:x<k
  ·rw[List.filter_cons_of_pos (by simp;omega),List.filter_cons_of_pos (by simp;omega),ih,hh];have:(x==k)=false:=by simp;omega
   rw[this,fW];rfl
  ·have hr:∀k',k'≤k+1→r.filter (fun y=>decide (y<k'))=[]∨k'=k+1:=fun k' hk'=>by
    by_cases e:k'=k+1
    ·exact .inr e
    ·refine .inl (List.filter_eq_nil_iff.2 fun y hy=>?_);have:=h1 y hy;simp;omega
   have hr1:r.filter (fun y=>decide (y<k))=[]:=(hr k (by omega)).resolve_right (by omega);have hr2:r.filter (fun y=>decide (y<k+1))=[]:=by
    refine List.filter_eq_nil_iff.2 fun y hy=>?_;have:=h1 y hy;simp;omega
   by_cases e:x=k
   ·subst e;rw[List.filter_cons_of_pos (by simp;omega),List.filter_cons_of_neg (by simp),hr1,hr2,hh];simp
   ·have:hasB r k=false:=by
     cases hb:hasB r k with
     | false=>rfl
     | true=>have:=h1 k (ju.1 hb);omega
    have e2:(x==k)=false:=by simp;omega
    rw[List.filter_cons_of_neg (by simp;omega),List.filter_cons_of_neg (by simp;omega),hr1,hr2,hh,e2,this];rfl
def gF (v:aK) (s x:Int):Int:=if ao v.au x.toNat>0 then IntKind.wrap .i64 (s+IntKind.wrap .i64 (IntKind.wrap .i64 (ao v.au x.toNat-1)*ao v.Steps x.toNat)) else s
def mH (v:aK) (p:List Int) (k:Nat):List Int:=(List.range k).map fun (i:Nat)=>if hasB p (i:Int) then IntKind.wrap .i64 (0-ao v.Steps i) else ao v.Steps i
theorem pK (v:aK) (p:List Int) (k:Nat):(mH v p k).length=k:=by unfold mH;simp
theorem uw {v:aK}{p:List Int}{n i:Nat}(h:i<n):(mH v p n)[i]?=some (if hasB p (i:Int) then IntKind.wrap .i64 (0-ao v.Steps i) else ao v.Steps i):=by
 unfold mH;rw[ak,dr h];rfl
theorem S1 {v:aK}{p:List Int}{n q:Nat}(h:q<n):(mH v p n).set q (IntKind.wrap .i64 (0-ao v.Steps q))=mH v (p++[(q:Int)]) n:=by
 apply du;intro i;rw[dN]
 by_cases hi:i<n
 ·rw[uw hi]
  by_cases e:q=i
  ·subst e;have:hasB (p++[(q:Int)]) (q:Int)=true:=ju.2 (by simp);rw[if_pos rfl,if_pos (by rw[pK];omega),uw hi,this];rfl
  ·rw[if_neg e,uw hi,EU];have:hasB [(q:Int)] (i:Int)=false:=by unfold hasB;simp;omega
   rw[this,cF]
 ·rw[bV (show(mH v (p++[(q:Int)]) n).length≤i by rw[pK];omega)]
  by_cases e:q=i
  ·omega
  ·rw[if_neg e];exact bV (by rw[pK];omega)
theorem S2 (v:aK) (n:Nat) (h:v.Steps.length=n):mH v [] n=v.Steps:=by
 apply du;intro i
 by_cases hi:i<n
 ·rw[uw hi,aY (by omega)];rfl
 ·rw[bV (by rw[pK];omega),bV (by omega)]
theorem QG (v:aK) (p:List Int) (k:Nat):mH v p (k+1)=mH v p k++[if hasB p (k:Int) then IntKind.wrap .i64 (0-ao v.Steps k) else ao v.Steps k]:=by
 unfold mH;rw[qI,dW];rfl
def OV (n:Int):Prop:=-9223372036854775808≤n∧n≤9223372036854775807
theorem U2 (n:Int):OV (IntKind.wrap .i64 n):=by unfold OV;rw[IntKind.wrap_i64];omega
theorem SJ (v:aK):∀(l:List Int) (s:Int),OV s→OV (l.foldl (gF v) s)
 | [],s,h=>h
 | x::r,s,h=>by
  rw[cz];refine SJ v r _ ?_;unfold gF;split
  ·exact U2 _
  ·exact h
def Ae (v:aK) (at_:List Int):aK:=⟨at_.foldl (gF v) v.Start,v.au,mH v at_ v.au.length⟩
def Dm (v:aK) (at_:List Int):aK×Int:=
 if fo v≠0 then(jS,fo v) else if nS at_ v.au.length then vt (Ae v at_) else(jS,6)
theorem Xv (fu:Nat) (v:aK) (at_:List Int) (hd:v.au.length≤4000000) (hs:v.Steps.length≤4000000) (ha:at_.length≤4000000) (hf:4000000<fu):F.w7 fu v at_=some (Dm v at_):=by
 unfold F.w7 Dm;simp only[sW fu v hd hs hf,aa]
 by_cases hw0:fo v=0
 ·rw[if_neg (by omega),bne_false hw0,cond_false];obtain⟨hsz,hsl,hnear,_⟩:=mo hw0;have hst:OV v.Start:=by unfold lV at hnear;simp at hnear;unfold OV;omega
  simp only[FU fu at_ v.au.length ha hf,aa];cases hr:nS at_ v.au.length with
  | false=>rfl
  | true=>
   have hrn:=(qZ.1 hr).1;have di:=Lv hr;have h:=iP (body:=F.rR fu at_ v.au) at_.length (fun k=>((k:Int),(at_.take k).foldl (gF v) v.Start,mH v (at_.take k) v.au.length)) (at_.foldl (gF v) v.Start,mH v at_ v.au.length)
    (fun k hk=>by
     have hx:=aY hk;have hw:=aT hk (by omega);have hrk:=hrn k hk;obtain⟨q,hq⟩:∃q:Nat,ao at_ k=q:=⟨(ao at_ k).toNat,by omega⟩;have hqn:q<v.au.length:=by omega
     have hno:hasB (at_.take k) (q:Int)=false:=by
      cases hb:hasB (at_.take k) (q:Int) with
      | false=>rfl
      | true=>
       obtain⟨j,hj⟩:=cA (ju.1 hb);have hjl:=bP hj;have hjk:j<k:=by rw[br] at hjl;omega
       rw[List.getElem?_take_of_lt hjk] at hj;have:=(iz.1 di) j k (by omega) hk hjk;have e1:=(ai.1 hj).2;have e2:=(ai.1 hx).2;rw[e1,e2,hq] at this;omega
     have i1:=aC (aY (l:=v.au) hqn);have i2:=aC (uw (v:=v) (p:=at_.take k) hqn);rw[hno] at i2;simp only[bF,if_false] at i2;simp only[F.rR,dec_lt hx,cond_true,aC hx,hq,i1,i2,aa,hw,dG,dK,fM,fL,bO,S1 hqn];rw[take_succ hx,hq,eo,cz,eZ];have hin:=SJ v (at_.take k) _ hst;have hdq:=(fC hsz).2.1 _ (aj (aY hqn));have e:IntKind.i64.wrap ((at_.take k).foldl (gF v) v.Start+IntKind.i64.wrap ((if IntKind.i64.wrap (ao v.au q-1)>0 then IntKind.i64.wrap (ao v.au q-1) else 0)*ao v.Steps q))=gF v ((at_.take k).foldl (gF v) v.Start) (q:Int):=by
      unfold gF;rw[bO];have w1:IntKind.i64.wrap (ao v.au q-1)=ao v.au q-1:=i64 (by omega) (by omega);rw[w1]
      by_cases h0:ao v.au q>0
      ·rw[if_pos h0]
       by_cases h1:ao v.au q-1>0
       ·rw[if_pos h1]
       ·rw[if_neg h1,show ao v.au q-1=0 by omega]
      ·rw[if_neg h0,if_neg (by omega),Int.zero_mul,show IntKind.i64.wrap 0=0 from rfl,Int.add_zero];exact i64 hin.1 hin.2
     rw[e])
    (by simp only[F.rR,bw,cond_false,bK]) fu (by omega)
   rw[dA,eZ,S2 v _ hsl,show((0:Nat):Int)=0 from rfl] at h;have h6:=(fC hsz).1;have hdn:=Ip fu (Ae v at_) hsz (by unfold Ae;simp only[pK]) hf;unfold Ae at hdn;simp only[fj,cond_false,kP fu v.au (by omega),kP fu v.Steps (by omega),aa,dG,dK,fM,fL,h,hdn,if_true];rfl
 ·rw[if_pos hw0,bne_true hw0,cond_true];rfl
theorem Vf (fu:Nat) (v:aK) (at_:List Int) (hd:v.au.length≤4000000) (hs:v.Steps.length≤4000000) (ha:at_.length≤4000000) (hf:4000000<fu):F.ot fu v at_=some (Dm v at_):=by
 unfold F.ot Dm;simp only[ua fu v hd hs hf,aa]
 by_cases hw0:fo v=0
 ·rw[if_neg (by omega),bne_false hw0,cond_false];obtain⟨hsz,hsl,_⟩:=mo hw0;simp only[zA fu at_ v.au.length ha hf,aa];cases hr:nS at_ v.au.length with
  | false=>rfl
  | true=>
   have hrn:=(qZ.1 hr).1;have di:=Lv hr;have hrm:∀x∈at_,0≤x∧x<(v.au.length:Int):=fun x hx=>by
    obtain⟨k,hk⟩:=cA hx;have:=hrn k (bP hk);rwa[nE hk] at this
   have h:=iP (body:=F.mf fu v at_) v.Steps.length (fun k=>((k:Int),(at_.filter fun x=>decide (x<(k:Int))).foldl (gF v) v.Start,v.au,mH v at_ k)) (at_.foldl (gF v) v.Start,v.au,mH v at_ v.au.length)
    (fun k hk=>by
     have hx:=aY hk;have hw:=aT hk (by omega);have i1:=aC (aY (l:=v.au) (show k<v.au.length by omega));have hl:=pK v at_ k;have ek:((k+1:Nat):Int)=(k:Int)+1:=by omega
     simp only[F.mf,dec_lt hx,cond_true,aC hx,H8 fu at_ _ ha hf,aa,hw];rw[QG,ek,filter_lt at_ (k:Int) di];cases hh:hasB at_ (k:Int) with
     | false=>
      simp only[cond_false,aa,bF,if_false,bM];rw[cQ (by simp only[ah];omega) (by simp only[ah];omega)];rfl
     | true=>
      simp only[cond_true,i1,aa,if_true,eo,cz,eZ];unfold gF;rw[bO]
      by_cases h0:ao v.au k>0
      ·rw[ed h0,if_pos h0];simp only[cond_true,aa];rw[cQ (by simp only[ah];omega) (by simp only[ah];omega)];rfl
      ·rw[cB h0,if_neg h0];simp only[cond_false,aa];rw[cQ (by simp only[ah];omega) (by simp only[ah];omega)];rfl)
    (by
     have:(at_.filter fun x=>decide (x<(v.Steps.length:Int)))=at_:=List.filter_eq_self.2 fun x hx=>by have:=hrm x hx;simp;omega
     rw[←hsl] at *;simp only[F.mf,bw,cond_false,this]) fu (by omega)
   have e0:(at_.filter fun x=>decide (x<((0:Nat):Int)))=[]:=List.filter_eq_nil_iff.2 fun x hx=>by have:=hrm x hx;simp;omega
   rw[e0,eZ,show mH v at_ 0=[] from rfl,show((0:Nat):Int)=0 from rfl] at h;have hdn:=OC fu (Ae v at_) hsz (by unfold Ae;simp only[pK]) hf;unfold Ae at hdn;simp only[fj,cond_false,h,hdn,aa,if_true];rfl
 ·rw[if_pos hw0,bne_true hw0,cond_true];rfl
theorem uk:∀(l:List Int) (n x:Int),ep n (l++[x])=ep n l*x
 | [],n,x=>rfl
 | y::r,n,x=>uk r (n*y) x
theorem DL:∀(l m:List Int) (n:Int),ep n (l++m)=ep (ep n l) m
 | [],m,n=>rfl
 | y::r,m,n=>DL r m (n*y)
theorem vc {l:List Int}(h:∀x∈l,1≤x) (k:Nat):1≤ep 1 (l.take k)∧ep 1 (l.take k)≤b8 l:=by
 have h1:=vd (l.take k) 1 (by omega) fun x hx=>h x (fA hx);refine⟨h1,?_⟩;have h2:=vd (l.drop k) (ep 1 (l.take k)) (by omega) fun x hx=>h x (iW hx);rw[←DL,oL,s6 l,nI] at h2;exact h2
def yw (p t:Int):List eO:=if p=1 then[] else[⟨p,t⟩]
theorem Tv (fu:Nat) (d:List Int) (h:(cn d).2=0) (hz:hasB d 0=false) (hf:4000000<fu):F.tP fu ⟨0,d,dc d⟩=some (yw (b8 d) 1):=by
 obtain⟨h6,hg,hp,_⟩:=fC h;obtain⟨h1,h2,_⟩:=hp hz;unfold F.tP;have hss:dc d=lF d:=by unfold dc;rw[hz];rfl
 have hl:=iP (body:=F.pY fu ⟨0,d,dc d⟩) d.length (fun k=>((k:Int),yw (ep 1 (d.take k)) (b8 (d.drop k)))) (yw (ep 1 d) 1)
  (fun k hk=>by
   have hx:=aY hk;have hw:=aT hk (by omega);have i1:=aC (aY (l:=lF d) (show k<(lF d).length by rw[kY];exact hk));rw[u9 d k hk] at i1;have hpk:=vc h1 k;have hpk1:=vc h1 (k+1);rw[take_succ hx,uk] at hpk1;have hxg:=hg _ (aj hx);have hx1:=h1 _ (aj hx);have hd:d.drop k=ao d k::d.drop (k+1):=by
    rw[cM hk,←(ai.1 hx).2]
   have q1:=mz d h1 k;have q2:=my (d.drop (k+1)) fun x hx=>h1 x (iW hx);have q3:=mz d h1 (k+1);rw[hd,show b8 (ao d k::d.drop (k+1))=b8 (d.drop (k+1))*ao d k from rfl] at q1;simp only[F.pY,dec_lt hx,cond_true,aC hx,aa,hw,hss,i1];rw[take_succ hx,uk,hd,show b8 (ao d k::d.drop (k+1))=b8 (d.drop (k+1))*ao d k from rfl]
   by_cases e1:ao d k=1
   ·rw[e1,Int.mul_one,Int.mul_one];rfl
   ·have eb:(ao d k==1)=false:=by simp[e1]
    rw[eb,cond_false];have w1:IntKind.i64.wrap (ao d k*b8 (d.drop (k+1)))=b8 (d.drop (k+1))*ao d k:=by rw[Int.mul_comm,i64 (by have:=iH (show 0≤b8 (d.drop (k+1)) by omega) (show 0≤ao d k by omega);omega) (by omega)]
    have w2:IntKind.i64.wrap (ep 1 (d.take k)*ao d k)=ep 1 (d.take k)*ao d k:=i64 (by omega) (by omega);have hne:ep 1 (d.take k)*ao d k≠1:=fun e=>by
     have:=Int.mul_le_mul_of_nonneg_right hpk.1 (show 0≤ao d k by omega);omega
    by_cases e0:ep 1 (d.take k)=1
    ·unfold yw;rw[e0,nI,if_pos rfl,if_neg e1];rfl
    ·unfold yw;rw[if_neg e0,if_neg hne];simp only[ah];rw[show IntKind.i64.wrap (((1:Nat):Int)-1)=((0:Nat):Int) from rfl];rw[aC (show[(⟨ep 1 (d.take k),b8 (d.drop (k+1))*ao d k⟩:eO)][0]?=some _ from rfl)];simp only[aa,w1,w2,bO,iX,List.set_cons_zero,show decide (((1:Nat):Int)>0)=true from rfl,cond_true,beq_self_eq_true])
  (by simp only[F.pY,bw,cond_false,bK,jQ];rfl) fu (by omega)
 rw[show((0:Nat):Int)=0 from rfl,show yw (ep 1 (d.take 0)) (b8 (d.drop 0))=[] from rfl] at hl;rw[hl,s6,nI];rfl
def j7 (e:List Int) (k:Nat):List Int:=(List.range e.length).map fun (i:Nat)=>if i<k∨ao e i=1 then 0 else b8 (e.drop (i+1))
theorem lq (e:List Int) (k:Nat):(j7 e k).length=e.length:=by unfold j7;simp
theorem xy {e:List Int}{k i:Nat}(h:i<e.length):(j7 e k)[i]?=some (if i<k∨ao e i=1 then 0 else b8 (e.drop (i+1))):=by
 unfold j7;rw[ak,dr h];rfl
theorem SX (e:List Int):j7 e e.length=List.replicate e.length 0:=by
 apply du;intro i;rw[ko]
 by_cases h:i<e.length
 ·rw[xy h,if_pos h,if_pos (.inl h)]
 ·rw[if_neg h,bV (by rw[lq];omega)]
theorem SW {e:List Int}{k:Nat}(h:ao e k=1):j7 e (k+1)=j7 e k:=by
 unfold j7;apply fh;intro i _
 by_cases hi:i=k
 ·subst hi;rw[if_pos (.inr h),if_pos (.inr h)]
 ·have:(i<k+1∨ao e i=1)↔(i<k∨ao e i=1):=by constructor <;> intro h <;> rcases h with h | h <;> (try exact .inr h) <;> exact .inl (by omega)
  by_cases h2:i<k∨ao e i=1
  ·rw[if_pos h2,if_pos (this.2 h2)]
  ·rw[if_neg h2,if_neg (fun h3=>h2 (this.1 h3))]
theorem JI {e:List Int}{k:Nat}(hk:k<e.length) (h:ao e k≠1):(j7 e (k+1)).set k (b8 (e.drop (k+1)))=j7 e k:=by
 apply du;intro i;rw[dN]
 by_cases hi:i<e.length
 ·rw[xy hi]
  by_cases e2:k=i
  ·subst e2;rw[if_pos rfl,if_pos (by rw[lq];exact hi),xy hi,if_neg (by intro h3;rcases h3 with h3 | h3 <;> omega)]
  ·rw[if_neg e2,xy hi];have:(i<k+1∨ao e i=1)↔(i<k∨ao e i=1):=by constructor <;> intro h <;> rcases h with h | h <;> (try exact .inr h) <;> exact .inl (by omega)
   by_cases h2:i<k∨ao e i=1
   ·rw[if_pos h2,if_pos (this.2 h2)]
   ·rw[if_neg h2,if_neg (fun h3=>h2 (this.1 h3))]
 ·rw[bV (show(j7 e k).length≤i by rw[lq];omega)]
  by_cases e2:k=i
  ·omega
  ·rw[if_neg e2];exact bV (by rw[lq];omega)
theorem XT (fu:Nat) (e:List Int) (s:Int) (l0:List Int) (h:(cn e).2=0) (hz:hasB e 0=false) (hf:4000000<fu):
  F.lU fu 0 e 0 [] [] 0 s l0 (List.replicate e.length 0) (yw (b8 e) 1)=some (0,e,0,[],[],0,s,l0,j7 e 0,[]):=by
 obtain⟨h6,hg,hp,_⟩:=fC h;obtain⟨h1,h2,_⟩:=hp hz;unfold F.lU;have hl:=iP (body:=F.j0 fu e) e.length (fun j=>((e.length:Int)-1-(j:Int),0,0,[],[],0,s,l0,j7 e (e.length-j),yw (ep 1 (e.take (e.length-j))) (b8 (e.drop (e.length-j))))) (Ex.bJ (0,0,[],[],0,s,l0,j7 e 0,[]))
  (fun j hj=>by
   obtain⟨k,hk⟩:∃k:Nat,e.length-j=k+1:=⟨e.length-j-1,by omega⟩;have e1:(e.length:Int)-1-(j:Int)=(k:Int):=by omega
   have hx:=aY (l:=e) (show k<e.length by omega);have e2:e.length-(j+1)=k:=by omega
   have e3:(e.length:Int)-1-((j+1:Nat):Int)=(k:Int)-1:=by omega
   have hw:IntKind.i64.wrap ((k:Int)-1)=(k:Int)-1:=i64 (by omega) (by omega);have hd:e.drop k=ao e k::e.drop (k+1):=by
    rw[cM (show k<e.length by omega),←(ai.1 hx).2]
   have hpk:=vc h1 k;have hpk1:=vc h1 (k+1);rw[take_succ hx,uk] at hpk1;have hxg:=hg _ (aj hx);have hx1:=h1 _ (aj hx);have q1:=mz e h1 k;have q2:=my (e.drop (k+1)) fun x hx=>h1 x (iW hx);rw[hd,show b8 (ao e k::e.drop (k+1))=b8 (e.drop (k+1))*ao e k from rfl] at q1;rw[e1,e2,e3,hk];simp only[F.j0,ed (show(k:Int)≥0 by omega),cond_true,aC hx,aa,hw,VF,ey (show(0:Int)=0 from rfl)];rw[take_succ hx,uk,hd,show b8 (ao e k::e.drop (k+1))=b8 (e.drop (k+1))*ao e k from rfl];unfold F.uK
   by_cases ek:ao e k=1
   ·rw[ek,Int.mul_one,Int.mul_one,SW ek];simp only[show((1:Int)==1)=true from rfl,cond_true,bd,aa,qD,show((0:Int)==0)=true from rfl,fj,cond_false]
   ·have eb:(ao e k==1)=false:=by simp[ek]
    have hne:ep 1 (e.take k)*ao e k≠1:=fun h=>by
     have:=Int.mul_le_mul_of_nonneg_right hpk.1 (show 0≤ao e k by omega);omega
    have hb:yw (ep 1 (e.take k)*ao e k) (b8 (e.drop (k+1)))=[⟨ep 1 (e.take k)*ao e k,b8 (e.drop (k+1))⟩]:=if_neg hne;have hm:Int.tmod (ep 1 (e.take k)*ao e k) (ao e k)=0:=by rw[Int.mul_tmod_left]
    have hq:Int.tdiv (ep 1 (e.take k)*ao e k) (ao e k)=ep 1 (e.take k):=Int.mul_tdiv_cancel _ (by omega);have w1:IntKind.i64.wrap (ep 1 (e.take k))=ep 1 (e.take k):=i64 (by omega) (by omega);have w2:IntKind.i64.wrap (b8 (e.drop (k+1))*ao e k)=b8 (e.drop (k+1))*ao e k:=i64 (by have:=iH (show 0≤b8 (e.drop (k+1)) by omega) (show 0≤ao e k by omega);omega) (by omega);have w0:IntKind.i64.wrap (((1:Nat):Int)-1)=((0:Nat):Int):=rfl;have gf:=aC (aY (l:=j7 e (k+1)) (show k<(j7 e (k+1)).length by rw[lq];omega));have gi:∀b:eO,idx [b] ((0:Nat):Int)=some b:=fun b=>aC rfl;rw[eb,hb];simp only[cond_false,ah,w0,gi,aa,ey (show ao e k≠0 by omega),hm,hq,w1,w2,gf,fP,bO,List.set_cons_zero,iX,show((0:Int) !=0)=false from rfl,dG]
    by_cases e0:ep 1 (e.take k)=1
    ·rw[e0];simp only[beq_self_eq_true,cond_true,ey (show(0:Int)≤((0:Nat):Int)∧((0:Nat):Int)≤((1:Nat):Int) by omega),ey (show(0:Nat)≤1 by omega),aa,JI (show k<e.length by omega) ek,bd,qD,lq,fj,cond_false];rfl
    ·have eb0:(ep 1 (e.take k)==1)=false:=by simp[e0]
     rw[eb0];simp only[cond_false,aa,JI (show k<e.length by omega) ek,bd,qD,lq,beq_self_eq_true,cond_true,fj];unfold yw;rw[if_neg e0])
  (by
   have e1:¬((e.length:Int)-1-(e.length:Int)≥0):=by omega
   simp only[F.j0,cB e1,cond_false,Nat.sub_self,dA];rfl) fu (by omega)
 have e0:IntKind.i64.wrap ((e.length:Int)-1)=(e.length:Int)-1-((0:Nat):Int):=by rw[i64 (by omega) (by omega)];simp
 simp only[Nat.sub_zero,jQ,bK,SX] at hl;rw[show b8 []=1 from rfl,s6,nI] at hl;simp only[e0,hl];rfl
def KI (e:List Int):aK:=⟨0,e,if (cn e).1=0 then List.replicate e.length 0 else j7 e 0⟩
def sy (d e:List Int):aK×Int:=if (cn e).2≠0 then(jS,(cn e).2) else if (cn d).1≠(cn e).1 then(jS,6) else(KI e,0)
theorem NF {d:List Int}(h:(cn d).2=0):fo ⟨0,d,dc d⟩=0:=by
 obtain⟨h6,hg,hp,_⟩:=fC h;have hlen:(dc d).length=d.length:=by unfold dc;split <;> simp[kY]
 unfold fo;rw[if_neg (by simpa using h),if_neg (by simpa using hlen),if_neg];rw[Bool.not_eq_true,bi,fV];refine⟨rfl,fun s hs=>?_⟩;have:0≤s∧s≤65536:=by
  replace hs:s∈dc d:=hs;unfold dc at hs;cases hz:hasB d 0 with
  | true=>
   rw[hz] at hs;have:=(List.mem_replicate.1 hs).2;omega
  | false=>
   rw[hz] at hs;obtain⟨h1,h2,_⟩:=hp hz;simp only[bF,if_false] at hs;obtain⟨k,hk⟩:=cA hs;have hkl:=bP hk;rw[kY] at hkl;have e:=u9 d k hkl;rw[nE hk] at e;have:=mz d h1 (k+1);have:=my (d.drop (k+1)) fun x hx=>h1 x (iW hx);omega
 unfold lV;simp;omega
theorem QE {e:List Int}(h:(cn e).2=0) (hz:hasB e 0=false):fo ⟨0,e,j7 e 0⟩=0:=by
 obtain⟨h6,hg,hp,_⟩:=fC h;obtain⟨h1,h2,_⟩:=hp hz;unfold fo;rw[if_neg (by simpa using h),if_neg (by simpa using lq e 0),if_neg];rw[Bool.not_eq_true,bi,fV];refine⟨rfl,fun s hs=>?_⟩;have:0≤s∧s≤65536:=by
  replace hs:s∈j7 e 0:=hs;unfold j7 at hs;obtain⟨i,hi,rfl⟩:=fc.1 hs;split
  ·omega
  ·have:=mz e h1 (i+1);have:=my (e.drop (i+1)) fun x hx=>h1 x (iW hx);omega
 unfold lV;simp;omega
theorem R0 (fu:Nat) (d e:List Int) (h:(cn d).2=0) (he:e.length≤4000000) (hf:4000000<fu):F.tR fu ⟨0,d,dc d⟩ e=some (sy d e):=by
 obtain⟨h6,hg,hp,hq⟩:=fC h;have hlen:(dc d).length=d.length:=by unfold dc;split <;> simp[kY]
 unfold F.tR sy;simp only[sW fu ⟨0,d,dc d⟩ (show d.length≤_ by omega) (show(dc d).length≤_ by omega) hf,NF h,aa,rq fu e he hf,rq fu d (by omega) hf];rw[show((0:Int) !=0)=false from rfl,cond_false]
 by_cases hz:(cn e).2=0
 ·rw[if_neg (by omega),bne_false hz,cond_false]
  by_cases hs:(cn d).1=(cn e).1
  ·rw[if_neg (by omega),bne_false hs,cond_false,kP fu e (by omega),aa,ey (by omega),aa];simp only[aa,dG,dK];obtain⟨g6,gg,gp,gq⟩:=fC hz;cases hez:hasB e 0 with
   | true=>
    have:=gq hez;have eb:((cn e).1==0)=true:=by simp[this]
    rw[eb,cond_true];unfold KI;rw[if_pos this,bO]
   | false=>
    obtain⟨g1,g2,g3⟩:=gp hez;have g4:=my e g1;have hdz:hasB d 0=false:=by
     cases hb:hasB d 0 with
     | false=>rfl
     | true=>have:=hq hb;omega
    obtain⟨_,_,h3⟩:=hp hdz;have eb:((cn e).1==0)=false:=by simp;omega
    rw[eb,cond_false,Tv fu d h hdz hf];rw[show b8 d=b8 e by omega];unfold F.mu;simp only[aa,bO,XT fu e 0 e hz hez hf,qD,lq,oM,cond_true,show((0:Int)==0)=true from rfl];have hdn:=Ip fu ⟨0,e,j7 e 0⟩ hz (lq e 0) hf;unfold vt at hdn;rw[if_pos (QE hz hez)] at hdn;rw[hdn];unfold KI;rw[if_neg (by omega)];rfl
  ·rw[if_pos hs,bne_true hs,cond_true];rfl
 ·rw[if_pos hz,bne_true hz,cond_true];rfl
end Go.DN.Pl
