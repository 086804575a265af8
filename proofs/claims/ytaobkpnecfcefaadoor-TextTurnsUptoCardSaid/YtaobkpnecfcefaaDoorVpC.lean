/-
  Text, printing: the plain law: the program's small steps.
-/
import Derived.Test.YtaobkpnecfcefaaDoorVpB
set_option linter.unusedVariables false
set_option linter.unusedSimpArgs false
namespace Go.DN
open Go.AM
abbrev W4:Type:=Bool×Int×Bool×List Int
abbrev RS:Type:=Option (W4⊕((Int×Int)×W4))
def iK (g:Bool) (d:Int) (m:Bool) (l:List Int) (o:RS):Prop:=match g with
 | true=>∃b,o=some (.inl (b,d,m,l))
 | false=>∃s,o=some (.inr ((7,0),s))
theorem pZ {σ ρ α:Type}{body:σ→Option (σ⊕ρ)}(l:List α) (I:Nat→σ→Prop) (R:ρ→Prop)
  (hs:∀(k:Nat) (x:α) (s:σ),l[k]?=some x→I k s→(∃s',body s=some (.inl s')∧I (k+1) s')∨∃r,body s=some (.inr r)∧R r)
  (he:∀s,I l.length s→∃r,body s=some (.inr r)∧R r):∀(m k n:Nat) (s:σ),m=l.length-k→k≤l.length→m<n→I k s→∃r,aX body n s=some r∧R r
 | 0,k,n,s,hm,hk,hn,hI=>by
  obtain rfl:k=l.length:=by omega
  obtain⟨n',rfl⟩:∃n',n=n'+1:=⟨n-1,by omega⟩
  obtain⟨r,h1,h2⟩:=he s hI
  exact⟨r,by simp only[aX,h1],h2⟩
 | m+1,k,n,s,hm,hk,hn,hI=>by
  obtain⟨n',rfl⟩:∃n',n=n'+1:=⟨n-1,by omega⟩
  have hx:l[k]?=some (l[k]'(by omega)):=av _
  rcases hs k _ s hx hI with ⟨s',h1,h2⟩ | ⟨r,h1,h2⟩
  ·obtain⟨r,h3,h4⟩:=pZ l I R hs he m (k+1) n' s' (by omega) (by omega) (by omega) h2
   exact⟨r,by simp only[aX,h1];exact h3,h4⟩
  ·exact⟨r,by simp only[aX,h1],h2⟩
def tG:List ByteArray→List Int
 | []=>[]
 | x::r=>aH x++tG r
theorem UG (fu:Nat) (s:ByteArray) (b:Bool) (d:Int) (m:Bool) (l:List Int) (h:l.length+s.size≤140737488355328):F.gS fu s b d m l=some ((s.size:Int),d,m,l++aH s):=by
 unfold F.gS Rw
 simp only[aa,aQ,cond_true,lN h]
theorem Hv (fu:Nat) (ls:List ByteArray) (d:Int) (m:Bool) (hls:ls.length≤Bd):∀(r:List ByteArray) (k n:Nat) (b:Bool) (l:List Int),r=ls.drop k→k≤ls.length→r.length<n→l.length+(tG r).length≤140737488355328→
  ∃b',aX (F.kg fu ls) n ((k:Int),b,d,m,l)=some (b',d,m,l++tG r)
 | [],k,n,b,l,hr,hk,hn,hl=>by
  obtain⟨n',rfl⟩:∃n',n=n'+1:=⟨n-1,by omega⟩
  have:k=ls.length:=by have:=List.drop_eq_nil_iff.1 hr.symm;omega
  subst this
  refine⟨b,?_⟩
  simp only[aX,F.kg,ld,cond_false,tG,bL]
 | x::r,k,n,b,l,hr,hk,hn,hl=>by
  obtain⟨n',rfl⟩:∃n',n=n'+1:=⟨n-1,by omega⟩
  have hlt:k<ls.length:=by
   rcases Nat.lt_or_ge k ls.length with h | h
   ·exact h
   ·rw[List.drop_eq_nil_of_le h] at hr;cases hr
  rw[fc hlt] at hr
  cases hr
  have hx:ls[k]?=some ls[k]:=av hlt
  simp only[tG,ak,cu] at hl
  obtain⟨b',h⟩:=Hv fu ls d m hls (ls.drop (k+1)) (k+1) n' false (l++aH ls[k]) rfl (by omega) (by simp at hn⊢;omega) (by rw[ak,cu];omega)
  refine⟨b',?_⟩
  simp only[aX,F.kg,dec_lt hx,cond_true,jI hx,aa,UG fu ls[k] b d m l (by omega),yU hlt hls]
  rw[h,tG,aA]
theorem Nl {fu:Nat}{ls:List ByteArray}{b:Bool}{d:Int}{m:Bool}{l:List Int}(hf:ls.length<fu) (hls:ls.length≤Bd) (h:l.length+(tG ls).length≤140737488355328):∃b',F.bl fu ls b d m l=some (b',d,m,l++tG ls):=by
 obtain⟨b',h⟩:=Hv fu ls d m hls ls 0 fu b l rfl (cv _) hf h
 refine⟨b',?_⟩
 unfold F.bl
 have h:aX (F.kg fu ls) fu (0,b,d,m,l)=_:=h
 rw[h];rfl
theorem lj {fu:Nat}{s:ByteArray}{b:Bool}{d:Int}{m:Bool}{l:List Int}(hf:1<fu) (h:l.length+s.size≤140737488355328):∃b',F.bl fu [s] b d m l=some (b',d,m,l++aH s):=by
 obtain⟨b',h⟩:=Nl (fu:=fu) (ls:=[s]) (b:=b) (d:=d) (m:=m) (l:=l) hf (by show 1≤1099511627776;decide) (by simp[tG,cu];omega)
 exact⟨b',by rw[h];simp[tG]⟩
theorem pW {fu:Nat}{s:ByteArray}{b:Bool}{d:Int}{m:Bool}{l:List Int}(hf:1<fu) (hfs:s.size<fu) (hs:s.size≤Bd) (h:l.length+s.size≤140737488355328):iK (nm s) d m (l++aH s) (F.ey fu s b d m l):=by
 unfold F.ey
 rw[FZ hs hfs]
 cases hn:nm s with
 | false=>exact⟨_,rfl⟩
 | true=>
  obtain⟨b',h1⟩:=lj (b:=b) (d:=d) (m:=m) hf h
  refine⟨b',?_⟩
  simp only[aa,de,cond_false,h1]
theorem tW {fu:Nat}{n:Int}{b:Bool}{d:Int}{m:Bool}{l:List Int}(hf:1<fu) (hn:pF n) (h:l.length+20≤140737488355328):iK (decide (0≤n)) d m (l++dg n) (F.ga fu n b d m l):=by
 unfold F.ga
 by_cases h0:n<0
 ·have:decide (0≤n)=false:=decide_eq_false (by omega)
  rw[this,decide_eq_true h0]
  exact⟨_,rfl⟩
 ·have h1:decide (0≤n)=true:=decide_eq_true (by omega)
  have hs:(gN n).size≤20:=by have:=uT hn;unfold dg at this;rw[cu] at this;exact this
  obtain⟨b',h2⟩:=lj (s:=gN n) (b:=b) (d:=d) (m:=m) (l:=l) hf (by omega)
  rw[h1,decide_eq_false h0]
  refine⟨b',?_⟩
  unfold Ez
  rw[lN ⟨rfl,hn⟩]
  simp only[cond_false,aa,h2]
  rfl
theorem Me (s:ByteArray):(s.toList==(ByteArray.mk #[]).toList)=em s:=oN
theorem yH {fu:Nat}{k:Nat}{s:ByteArray}{b:Bool}{d:Int}{m:Bool}{l:List Int}(hf:1<fu) (h:l.length+s.size≤140737488355328):
  ∃b',(cond (decide ((k:Int)>0)) ((F.bl fu [s] b d m l).bind fun ((r1,r2,r3,r4):W4)=>some (r1,r2,r3,r4)) (some (b,d,m,l)):Option W4)=some (b',d,m,l++(if 0<k then aH s else[])):=by
 by_cases hk:0<k
 ·obtain⟨b',h1⟩:=lj (b:=b) (d:=d) (m:=m) hf h
  refine⟨b',?_⟩
  rw[decide_eq_true (by omega),if_pos hk,cond_true,h1];rfl
 ·refine⟨b,?_⟩
  rw[decide_eq_false (by omega),if_neg hk,cond_false,bL]
abbrev XS:Type:=Ex W4 (W4⊕((Int×Int)×W4))
def R1 (g:Bool) (d:Int) (m:Bool) (l:List Int) (e:XS):Prop:=match g with
 | true=>∃b,e=.cD (b,d,m,l)
 | false=>∃s,e=.ret (.inr ((7,0),s))
theorem mem_of {α:Type}{l:List α}{k:Nat}{x:α}(h:l[k]?=some x):x∈l:=aL h
theorem qf {α:Type}{p:α→Bool}{l:List α}{k:Nat}{x:α}(h:l[k]?=some x):(l.take (k+1)).all p=((l.take k).all p&&p x):=by
 rw[List.take_add_one,h];simp
theorem all_false {α:Type}{p:α→Bool}{l:List α}{k:Nat}{x:α}(h:l[k]?=some x) (hp:p x=false):l.all p=false:=by
 rw[Bool.eq_false_iff]
 intro ha
 rw[cz.1 ha x (mem_of h)] at hp;cases hp
theorem tT {α:Type}{f:α→List Int}{w:α→Nat}{c:List Int}{K:Nat}{l:List α}(k:Nat) (h:∀x∈l,(f x).length+c.length≤K*w x):(sep c ((l.take k).map f)).length≤K*((l.take k).map w).sum:=px fun x hx=>h x (ov hx)
theorem rW {α:Type}{w:α→Nat}{l:List α}{k:Nat}{x:α}(h:l[k]?=some x):((l.take k).map w).sum+w x≤(l.map w).sum:=by
 conv=>rhs;rw[←List.take_append_drop k l]
 obtain⟨h1,h2⟩:=aw.1 h
 rw[fc h1,h2]
 simp only[nA,aB,List.sum_append,mh]
 omega
theorem E3 {fu:Nat}{sp:List bh}{b:Bool}{d:Int}{m:Bool}{l:List Int}(hf:dG lR sp+1<fu) (ho:∀x∈sp,yL x) (hw:dG lR sp≤Bd) (h:l.length+40*dG lR sp≤140737488355328):
  iK (sp.all iG) d m (l++gH sp) (F.jc fu sp b d m l):=by
 unfold F.jc
 have hlen:sp.length≤(sp.map lR).sum:=rX (w:=lR) (fun x=>by simp only[lR,nB];omega) sp
 have hW:dG lR sp=(sp.map lR).sum+1:=rfl
 obtain⟨b0,h0⟩:=lj (fu:=fu) (s:=ByteArray.mk #[91]) (b:=b) (d:=d) (m:=m) (l:=l) (by omega) (by show l.length+1≤_;omega)
 rw[h0,aa]
 obtain⟨r,h1,h2⟩:=pZ (body:=F.iP fu sp) sp (fun k s=>(sp.take k).all iG=true∧∃b',s=((k:Int),b',d,m,l++aH (ByteArray.mk #[91])++sep [32] ((sp.take k).map kv)))
  (R1 (sp.all iG) d m (l++aH (ByteArray.mk #[91])++sep [32] (sp.map kv))) (by
   rintro k x s hx ⟨hall,b',rfl⟩
   have hk:=nH hx
   have hsum:=rW (w:=lR) hx
   have hle:=tT (f:=kv) (w:=lR) (c:=[32]) (K:=40) (l:=sp) k fun y hy=>AG (ho y hy)
   have hdx:=AG (ho x (mem_of hx))
   have hb1:(l++aH (ByteArray.mk #[91])++sep [32] ((sp.take k).map kv)).length+40*lR x+1≤140737488355328:=by
    simp only[ak,cu]
    have:(ByteArray.mk #[91]).size=1:=rfl
    omega
   obtain⟨b2,h3⟩:=yH (fu:=fu) (k:=k) (s:=ByteArray.mk #[32]) (b:=b') (d:=d) (m:=m) (l:=l++aH (ByteArray.mk #[91])++sep [32] ((sp.take k).map kv)) (by omega) (by show _+1≤_;omega)
   generalize hL:l++aH (ByteArray.mk #[91])++sep [32] ((sp.take k).map kv)=L at hb1 h3⊢
   have hL2:(L++(if 0<k then aH (ByteArray.mk #[32]) else[])).length≤L.length+1:=by
    rw[ak];split
    ·show _+1≤_;omega
    ·simp
   simp only[F.iP,dec_lt hx,cond_true,jI hx,aa,Me]
   rw[h3,aa]
   have hnx:l++aH (ByteArray.mk #[91])++sep [32] ((sp.take (k+1)).map kv)=L++(if 0<k then aH (ByteArray.mk #[32]) else[])++kv x:=by
    rw[uD kv [32] hx,←hL]
    simp only[aA]
    rfl
   generalize hM:L++(if 0<k then aH (ByteArray.mk #[32]) else[])=M at hL2 h3 hnx⊢
   cases he:em x.Name with
   | true=>
    have hdim:iG x=decide (0≤x.lG):=by unfold iG;rw[he];rfl
    have hdX:kv x=dg x.lG:=by unfold kv;rw[he];rfl
    have hn:=tW (fu:=fu) (n:=x.lG) (b:=b2) (d:=d) (m:=m) (l:=M) (by omega) (ho x (mem_of hx)) (by simp only[lR,nB] at hb1;omega)
    cases hv:decide (0≤x.lG) with
    | true=>
     rw[hv] at hn
     obtain⟨b3,hn⟩:=hn
     left
     refine⟨_,?_,(qf hx).trans (by rw[hall,hdim,hv];rfl),b3,rfl⟩
     simp only[cond_true,hn,aD,bx,aa]
     rw[yU hk (by omega),hnx,hdX]
    | false=>
     rw[hv] at hn
     obtain⟨s,hn⟩:=hn
     obtain⟨s1,s2,s3,s4⟩:=s
     right
     have:sp.all iG=false:=all_false hx (by rw[hdim,hv])
     rw[this]
     refine⟨_,?_,(s1,s2,s3,s4),rfl⟩
     simp only[cond_true,hn,aD,bx,aa]
   | false=>
    have hdX:kv x=aH x.Name:=by unfold kv;rw[he];rfl
    by_cases hz:x.lG=0
    ·have hdim:iG x=nm x.Name:=by unfold iG;rw[he,decide_eq_true hz];rfl
     have hz2:(x.lG !=0)=false:=by simp[hz]
     have hn:=pW (fu:=fu) (s:=x.Name) (b:=b2) (d:=d) (m:=m) (l:=M) (by omega) (by simp only[lR,nB] at hsum;omega) (by simp only[lR,nB] at hsum;omega) (by simp only[lR,nB] at hb1;omega)
     cases hv:nm x.Name with
     | true=>
      rw[hv] at hn
      obtain⟨b3,hn⟩:=hn
      left
      refine⟨_,?_,(qf hx).trans (by rw[hall,hdim,hv];rfl),b3,rfl⟩
      simp only[cond_false,hz2,hn,aD,bx,aa]
      rw[yU hk (by omega),hnx,hdX]
     | false=>
      rw[hv] at hn
      obtain⟨s,hn⟩:=hn
      obtain⟨s1,s2,s3,s4⟩:=s
      right
      have:sp.all iG=false:=all_false hx (by rw[hdim,hv])
      rw[this]
      refine⟨_,?_,(s1,s2,s3,s4),rfl⟩
      simp only[cond_false,hz2,hn,aD,bx,aa]
    ·have hdim:iG x=false:=by unfold iG;rw[he,decide_eq_false hz];rfl
     have hz2:(x.lG !=0)=true:=by simp[hz]
     right
     have:sp.all iG=false:=all_false hx hdim
     rw[this]
     refine⟨_,?_,(b2,d,m,M),rfl⟩
     simp only[cond_false,cond_true,hz2,bx])
  (by
   rintro s ⟨hall,b',rfl⟩
   rw[rV] at hall⊢
   rw[hall]
   exact⟨_,by simp only[F.iP,ld,cond_false],b',rfl⟩) sp.length 0 fu ((0:Nat),b0,d,m,l++aH (ByteArray.mk #[91])) rfl (cv _) (by omega) ⟨rfl,b0,by simp[sep]⟩
 have h1:aX (F.iP fu sp) fu (0,b0,d,m,l++aH (ByteArray.mk #[91]))=some r:=h1
 dsimp only
 rw[h1]
 cases ha:sp.all iG with
 | true=>
  rw[ha] at h2
  obtain⟨b4,rfl⟩:=h2
  have hle:=px (f:=kv) (w:=lR) (c:=[32]) (K:=40) (l:=sp) fun y hy=>AG (ho y hy)
  obtain⟨b5,h5⟩:=lj (fu:=fu) (s:=ByteArray.mk #[93]) (b:=b4) (d:=d) (m:=m) (l:=l++aH (ByteArray.mk #[91])++sep [32] (sp.map kv)) (by omega) (by
   simp only[ak,cu]
   show l.length+1+_+1≤_
   omega)
  refine⟨b5,?_⟩
  simp only[bx,h5,aa]
  rw[show l++aH (ByteArray.mk #[91])++sep [32] (sp.map kv)++aH (ByteArray.mk #[93])=l++gH sp by unfold gH;simp only[aA];rfl]
 | false=>
  rw[ha] at h2
  obtain⟨s,rfl⟩:=h2
  exact⟨s,rfl⟩
end Go.DN
