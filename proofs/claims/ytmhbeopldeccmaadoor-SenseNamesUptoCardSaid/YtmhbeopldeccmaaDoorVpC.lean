/-
  Text, printing: the plain law: the program's small steps.
-/
import Derived.Test.YtmhbeopldeccmaaDoorVpB
set_option linter.unusedVariables false
set_option linter.unusedSimpArgs false
namespace Go.DN
open Go.AM
abbrev W4:Type:=Bool×Int×Bool×List Int
abbrev RS:Type:=Option (W4⊕((Int×Int)×W4))
def ix (g:Bool) (d:Int) (m:Bool) (l:List Int) (o:RS):Prop:=match g with
 | true=>∃b,o=some (.inl (b,d,m,l))
 | false=>∃s,o=some (.inr ((7,0),s))
theorem dh {σ ρ α:Type}{body:σ→Option (σ⊕ρ)}(l:List α) (I:Nat→σ→Prop) (R:ρ→Prop)
  (hs:∀(k:Nat) (x:α) (s:σ),l[k]?=some x→I k s→(∃s',body s=some (.inl s')∧I (k+1) s')∨∃r,body s=some (.inr r)∧R r)
  (he:∀s,I l.length s→∃r,body s=some (.inr r)∧R r):∀(m k n:Nat) (s:σ),m=l.length-k→k≤l.length→m<n→I k s→∃r,aW body n s=some r∧R r
 | 0,k,n,s,hm,hk,hn,hI=>by
  obtain rfl:k=l.length:=by omega
  obtain⟨n',rfl⟩:∃n',n=n'+1:=⟨n-1,by omega⟩
  obtain⟨r,h1,h2⟩:=he s hI
  exact⟨r,by simp only[aW,h1],h2⟩
 | m+1,k,n,s,hm,hk,hn,hI=>by
  obtain⟨n',rfl⟩:∃n',n=n'+1:=⟨n-1,by omega⟩
  have hx:l[k]?=some (l[k]'(by omega)):=ao _
  rcases hs k _ s hx hI with ⟨s',h1,h2⟩ | ⟨r,h1,h2⟩
  ·obtain⟨r,h3,h4⟩:=dh l I R hs he m (k+1) n' s' (by omega) (by omega) (by omega) h2
   exact⟨r,by simp only[aW,h1];exact h3,h4⟩
  ·exact⟨r,by simp only[aW,h1],h2⟩
def sj:List ByteArray→List Int
 | []=>[]
 | x::r=>aF x++sj r
theorem QY (fu:Nat) (s:ByteArray) (b:Bool) (d:Int) (m:Bool) (l:List Int) (h:l.length+s.size≤140737488355328):F.gG fu s b d m l=some ((s.size:Int),d,m,l++aF s):=by
 unfold F.gG Oo
 simp only[aa,aK,cond_true,ou h]
theorem Fj (fu:Nat) (ls:List ByteArray) (d:Int) (m:Bool) (hls:ls.length≤Bd):∀(r:List ByteArray) (k n:Nat) (b:Bool) (l:List Int),r=ls.drop k→k≤ls.length→r.length<n→l.length+(sj r).length≤140737488355328→
  ∃b',aW (F.jM fu ls) n ((k:Int),b,d,m,l)=some (b',d,m,l++sj r)
 | [],k,n,b,l,hr,hk,hn,hl=>by
  obtain⟨n',rfl⟩:∃n',n=n'+1:=⟨n-1,by omega⟩
  have:k=ls.length:=by have:=List.drop_eq_nil_iff.1 hr.symm;omega
  subst this
  refine⟨b,?_⟩
  simp only[aW,F.jM,dj,cond_false,sj,cH]
 | x::r,k,n,b,l,hr,hk,hn,hl=>by
  obtain⟨n',rfl⟩:∃n',n=n'+1:=⟨n-1,by omega⟩
  have hlt:k<ls.length:=by
   rcases Nat.lt_or_ge k ls.length with h | h
   ·exact h
   ·rw[List.drop_eq_nil_of_le h] at hr;cases hr
  rw[b9 hlt] at hr
  cases hr
  have hx:ls[k]?=some ls[k]:=ao hlt
  simp only[sj,al,bI] at hl
  obtain⟨b',h⟩:=Fj fu ls d m hls (ls.drop (k+1)) (k+1) n' false (l++aF ls[k]) rfl (by omega) (by simp at hn⊢;omega) (by rw[al,bI];omega)
  refine⟨b',?_⟩
  simp only[aW,F.jM,dec_lt hx,cond_true,cc hx,aa,QY fu ls[k] b d m l (by omega),mH hlt hls]
  rw[h,sj,aL]
theorem KC {fu:Nat}{ls:List ByteArray}{b:Bool}{d:Int}{m:Bool}{l:List Int}(hf:ls.length<fu) (hls:ls.length≤Bd) (h:l.length+(sj ls).length≤140737488355328):∃b',F.a8 fu ls b d m l=some (b',d,m,l++sj ls):=by
 obtain⟨b',h⟩:=Fj fu ls d m hls ls 0 fu b l rfl (cI _) hf h
 refine⟨b',?_⟩
 unfold F.a8
 have h:aW (F.jM fu ls) fu (0,b,d,m,l)=_:=h
 rw[h];rfl
theorem kM {fu:Nat}{s:ByteArray}{b:Bool}{d:Int}{m:Bool}{l:List Int}(hf:1<fu) (h:l.length+s.size≤140737488355328):∃b',F.a8 fu [s] b d m l=some (b',d,m,l++aF s):=by
 obtain⟨b',h⟩:=KC (fu:=fu) (ls:=[s]) (b:=b) (d:=d) (m:=m) (l:=l) hf (by show 1≤1099511627776;decide) (by simp[sj,bI];omega)
 exact⟨b',by rw[h];simp[sj]⟩
theorem pk {fu:Nat}{s:ByteArray}{b:Bool}{d:Int}{m:Bool}{l:List Int}(hf:1<fu) (hfs:s.size<fu) (hs:s.size≤Bd) (h:l.length+s.size≤140737488355328):ix (nm s) d m (l++aF s) (F.eJ fu s b d m l):=by
 unfold F.eJ
 rw[D3 hs hfs]
 cases hn:nm s with
 | false=>exact⟨_,rfl⟩
 | true=>
  obtain⟨b',h1⟩:=kM (b:=b) (d:=d) (m:=m) hf h
  refine⟨b',?_⟩
  simp only[aa,dL,cond_false,h1]
theorem sG {fu:Nat}{n:Int}{b:Bool}{d:Int}{m:Bool}{l:List Int}(hf:1<fu) (hn:ss n) (h:l.length+20≤140737488355328):ix (decide (0≤n)) d m (l++dg n) (F.fW fu n b d m l):=by
 unfold F.fW
 by_cases h0:n<0
 ·have:decide (0≤n)=false:=decide_eq_false (by omega)
  rw[this,decide_eq_true h0]
  exact⟨_,rfl⟩
 ·have h1:decide (0≤n)=true:=decide_eq_true (by omega)
  have hs:(ph n).size≤20:=by have:=mO hn;unfold dg at this;rw[bI] at this;exact this
  obtain⟨b',h2⟩:=kM (s:=ph n) (b:=b) (d:=d) (m:=m) (l:=l) hf (by omega)
  rw[h1,decide_eq_false h0]
  refine⟨b',?_⟩
  unfold Cv
  rw[ou ⟨rfl,hn⟩]
  simp only[cond_false,aa,h2]
  rfl
theorem Bn (s:ByteArray):(s.toList==(ByteArray.mk #[]).toList)=em s:=x9
theorem wY {fu:Nat}{k:Nat}{s:ByteArray}{b:Bool}{d:Int}{m:Bool}{l:List Int}(hf:1<fu) (h:l.length+s.size≤140737488355328):
  ∃b',(cond (decide ((k:Int)>0)) ((F.a8 fu [s] b d m l).bind fun ((r1,r2,r3,r4):W4)=>some (r1,r2,r3,r4)) (some (b,d,m,l)):Option W4)=some (b',d,m,l++(if 0<k then aF s else[])):=by
 by_cases hk:0<k
 ·obtain⟨b',h1⟩:=kM (b:=b) (d:=d) (m:=m) hf h
  refine⟨b',?_⟩
  rw[decide_eq_true (by omega),if_pos hk,cond_true,h1];rfl
 ·refine⟨b,?_⟩
  rw[decide_eq_false (by omega),if_neg hk,cond_false,cH]
abbrev XS:Type:=Ex W4 (W4⊕((Int×Int)×W4))
def R1 (g:Bool) (d:Int) (m:Bool) (l:List Int) (e:XS):Prop:=match g with
 | true=>∃b,e=.bw (b,d,m,l)
 | false=>∃s,e=.ret (.inr ((7,0),s))
theorem mem_of {α:Type}{l:List α}{k:Nat}{x:α}(h:l[k]?=some x):x∈l:=aQ h
theorem jC {α:Type}{p:α→Bool}{l:List α}{k:Nat}{x:α}(h:l[k]?=some x):(l.take (k+1)).all p=((l.take k).all p&&p x):=by
 rw[dD,h];simp
theorem all_false {α:Type}{p:α→Bool}{l:List α}{k:Nat}{x:α}(h:l[k]?=some x) (hp:p x=false):l.all p=false:=by
 rw[gE]
 intro ha
 rw[cu.1 ha x (mem_of h)] at hp;cases hp
theorem lk {α:Type}{f:α→List Int}{w:α→Nat}{c:List Int}{K:Nat}{l:List α}(k:Nat) (h:∀x∈l,(f x).length+c.length≤K*w x):(sep c ((l.take k).map f)).length≤K*((l.take k).map w).sum:=lj fun x hx=>h x (lh hx)
theorem jz {α:Type}{w:α→Nat}{l:List α}{k:Nat}{x:α}(h:l[k]?=some x):((l.take k).map w).sum+w x≤(l.map w).sum:=by
 conv=>rhs;rw[←List.take_append_drop k l]
 obtain⟨h1,h2⟩:=av.1 h
 rw[b9 h1,h2]
 simp only[gk,az,List.sum_append,iy]
 omega
theorem C5 {fu:Nat}{sp:List iu}{b:Bool}{d:Int}{m:Bool}{l:List Int}(hf:bu dP sp+1<fu) (ho:∀x∈sp,AJ x) (hw:bu dP sp≤Bd) (h:l.length+40*bu dP sp≤140737488355328):
  ix (sp.all ga) d m (l++eL sp) (F.ja fu sp b d m l):=by
 unfold F.ja
 have hlen:sp.length≤(sp.map dP).sum:=dI (w:=dP) (fun x=>by simp only[dP,gM];omega) sp
 have hW:bu dP sp=(sp.map dP).sum+1:=rfl
 obtain⟨b0,h0⟩:=kM (fu:=fu) (s:=ByteArray.mk #[91]) (b:=b) (d:=d) (m:=m) (l:=l) (by omega) (by show l.length+1≤_;omega)
 rw[h0,aa]
 obtain⟨r,h1,h2⟩:=dh (body:=F.iF fu sp) sp (fun k s=>(sp.take k).all ga=true∧∃b',s=((k:Int),b',d,m,l++aF (ByteArray.mk #[91])++sep [32] ((sp.take k).map fQ)))
  (R1 (sp.all ga) d m (l++aF (ByteArray.mk #[91])++sep [32] (sp.map fQ))) (by
   rintro k x s hx ⟨hall,b',rfl⟩
   have hk:=dR hx
   have hsum:=jz (w:=dP) hx
   have hle:=lk (f:=fQ) (w:=dP) (c:=[32]) (K:=40) (l:=sp) k fun y hy=>rp (ho y hy)
   have hdx:=rp (ho x (mem_of hx))
   have hb1:(l++aF (ByteArray.mk #[91])++sep [32] ((sp.take k).map fQ)).length+40*dP x+1≤140737488355328:=by
    simp only[al,bI]
    have:(ByteArray.mk #[91]).size=1:=rfl
    omega
   obtain⟨b2,h3⟩:=wY (fu:=fu) (k:=k) (s:=ByteArray.mk #[32]) (b:=b') (d:=d) (m:=m) (l:=l++aF (ByteArray.mk #[91])++sep [32] ((sp.take k).map fQ)) (by omega) (by show _+1≤_;omega)
   generalize hL:l++aF (ByteArray.mk #[91])++sep [32] ((sp.take k).map fQ)=L at hb1 h3⊢
   have hL2:(L++(if 0<k then aF (ByteArray.mk #[32]) else[])).length≤L.length+1:=by
    rw[al];split
    ·show _+1≤_;omega
    ·simp
   simp only[F.iF,dec_lt hx,cond_true,cc hx,aa,Bn]
   rw[h3,aa]
   have hnx:l++aF (ByteArray.mk #[91])++sep [32] ((sp.take (k+1)).map fQ)=L++(if 0<k then aF (ByteArray.mk #[32]) else[])++fQ x:=by
    rw[mi fQ [32] hx,←hL]
    simp only[aL]
    rfl
   generalize hM:L++(if 0<k then aF (ByteArray.mk #[32]) else[])=M at hL2 h3 hnx⊢
   cases he:em x.Name with
   | true=>
    have hdim:ga x=decide (0≤x.iW):=by unfold ga;rw[he];rfl
    have hdX:fQ x=dg x.iW:=by unfold fQ;rw[he];rfl
    have hn:=sG (fu:=fu) (n:=x.iW) (b:=b2) (d:=d) (m:=m) (l:=M) (by omega) (ho x (mem_of hx)) (by simp only[dP,gM] at hb1;omega)
    cases hv:decide (0≤x.iW) with
    | true=>
     rw[hv] at hn
     obtain⟨b3,hn⟩:=hn
     left
     refine⟨_,?_,(jC hx).trans (by rw[hall,hdim,hv];rfl),b3,rfl⟩
     simp only[cond_true,hn,aV,br,aa]
     rw[mH hk (by omega),hnx,hdX]
    | false=>
     rw[hv] at hn
     obtain⟨s,hn⟩:=hn
     obtain⟨s1,s2,s3,s4⟩:=s
     right
     have:sp.all ga=false:=all_false hx (by rw[hdim,hv])
     rw[this]
     refine⟨_,?_,(s1,s2,s3,s4),rfl⟩
     simp only[cond_true,hn,aV,br,aa]
   | false=>
    have hdX:fQ x=aF x.Name:=by unfold fQ;rw[he];rfl
    by_cases hz:x.iW=0
    ·have hdim:ga x=nm x.Name:=by unfold ga;rw[he,decide_eq_true hz];rfl
     have hz2:(x.iW !=0)=false:=by simp[hz]
     have hn:=pk (fu:=fu) (s:=x.Name) (b:=b2) (d:=d) (m:=m) (l:=M) (by omega) (by simp only[dP,gM] at hsum;omega) (by simp only[dP,gM] at hsum;omega) (by simp only[dP,gM] at hb1;omega)
     cases hv:nm x.Name with
     | true=>
      rw[hv] at hn
      obtain⟨b3,hn⟩:=hn
      left
      refine⟨_,?_,(jC hx).trans (by rw[hall,hdim,hv];rfl),b3,rfl⟩
      simp only[cond_false,hz2,hn,aV,br,aa]
      rw[mH hk (by omega),hnx,hdX]
     | false=>
      rw[hv] at hn
      obtain⟨s,hn⟩:=hn
      obtain⟨s1,s2,s3,s4⟩:=s
      right
      have:sp.all ga=false:=all_false hx (by rw[hdim,hv])
      rw[this]
      refine⟨_,?_,(s1,s2,s3,s4),rfl⟩
      simp only[cond_false,hz2,hn,aV,br,aa]
    ·have hdim:ga x=false:=by unfold ga;rw[he,decide_eq_false hz];rfl
     have hz2:(x.iW !=0)=true:=by simp[hz]
     right
     have:sp.all ga=false:=all_false hx hdim
     rw[this]
     refine⟨_,?_,(b2,d,m,M),rfl⟩
     simp only[cond_false,cond_true,hz2,br])
  (by
   rintro s ⟨hall,b',rfl⟩
   rw[gB] at hall⊢
   rw[hall]
   exact⟨_,by simp only[F.iF,dj,cond_false],b',rfl⟩) sp.length 0 fu ((0:Nat),b0,d,m,l++aF (ByteArray.mk #[91])) rfl (cI _) (by omega) ⟨rfl,b0,by simp[sep]⟩
 have h1:aW (F.iF fu sp) fu (0,b0,d,m,l++aF (ByteArray.mk #[91]))=some r:=h1
 dsimp only
 rw[h1]
 cases ha:sp.all ga with
 | true=>
  rw[ha] at h2
  obtain⟨b4,rfl⟩:=h2
  have hle:=lj (f:=fQ) (w:=dP) (c:=[32]) (K:=40) (l:=sp) fun y hy=>rp (ho y hy)
  obtain⟨b5,h5⟩:=kM (fu:=fu) (s:=ByteArray.mk #[93]) (b:=b4) (d:=d) (m:=m) (l:=l++aF (ByteArray.mk #[91])++sep [32] (sp.map fQ)) (by omega) (by
   simp only[al,bI]
   show l.length+1+_+1≤_
   omega)
  refine⟨b5,?_⟩
  simp only[br,h5,aa]
  rw[show l++aF (ByteArray.mk #[91])++sep [32] (sp.map fQ)++aF (ByteArray.mk #[93])=l++eL sp by unfold eL;simp only[aL];rfl]
 | false=>
  rw[ha] at h2
  obtain⟨s,rfl⟩:=h2
  exact⟨s,rfl⟩
end Go.DN
