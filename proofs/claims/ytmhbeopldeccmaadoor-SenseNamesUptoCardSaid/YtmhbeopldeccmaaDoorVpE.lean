/-
  Text, printing: the plain law: calls; sums and products.
-/
import Derived.Test.YtmhbeopldeccmaaDoorVpD
set_option linter.unusedVariables false
set_option linter.unusedSimpArgs false
namespace Go.DN
open Go.AM
def mE (t:ai) (d:Nat):Bool:=decide (64<d+levels t-1)||decide (64<dK t)
abbrev SE:Type:=ai→Bool→Int→Bool→List Int→RS
def BV (self:SE) (t:ai) (d:Nat):Prop:=∀x∈t.Kids,∀(b:Bool) (m:Bool) (l:List Int),l.length+40*bD x≤140737488355328→ix (right x) d (m||mE x (d+1)) (l++tx x) (self x b d m l)
def R2 (g:Bool) (d:Int) (m:Bool) (l:List Int) (e:Ex W4 ((Int×W4)⊕XS)):Prop:=match g with
 | true=>∃b,e=.bw (b,d,m,l)
 | false=>∃s,e=.ret (.inr (.ret (.inr ((7,0),s))))
theorem MV {self:SE}{f fu:Nat}{x:List Int}{b:Bool}{d:Int}{m:Bool}{l:List Int}(hf1:1<f) (hf:bu cU x+1<fu) (hw:bu cU x≤Bd) (ho:∀n∈x,ss n) (h:l.length+40*bu cU x≤140737488355328):
  ∃r,aW (F.jn self f x) fu (0,b,d,m,l)=some r∧R2 (nP x) d m (l++sep [32] (x.map dg)) r:=by
 have hlen:x.length≤(x.map cU).sum:=dI (w:=cU) (fun _=>ar _) x
 have hW:bu cU x=(x.map cU).sum+1:=rfl
 have hwi:∀n∈x,(dg n).length+[32].length≤40*cU n:=fun n hn=>by have:=mO (ho n hn);simp only[dl,cU];omega
 refine dh (body:=F.jn self f x) x (fun k s=>(x.take k).all (fun n=>decide (0≤n))=true∧∃b',s=((k:Int),b',d,m,l++sep [32] ((x.take k).map dg))) _ ?_ ?_ x.length 0 fu ((0:Nat),b,d,m,l) rfl (cI _) (by omega) ⟨rfl,b,by simp[sep]⟩
 ·rintro k y s hx ⟨hall,b',rfl⟩
  have hk:=dR hx
  have hsum:=jz (w:=cU) hx
  have hle:=lk (f:=dg) (w:=cU) (c:=[32]) (K:=40) (l:=x) k hwi
  have hdx:=hwi y (mem_of hx)
  have hb1:(l++sep [32] ((x.take k).map dg)).length+40≤140737488355328:=by
   simp only[al]
   simp only[cU] at hsum
   omega
  obtain⟨b2,h3⟩:=wY (fu:=f) (k:=k) (s:=ByteArray.mk #[32]) (b:=b') (d:=d) (m:=m) (l:=l++sep [32] ((x.take k).map dg)) hf1 (by show _+1≤_;omega)
  generalize hL:l++sep [32] ((x.take k).map dg)=L at hb1 h3⊢
  have hL2:(L++(if 0<k then aF (ByteArray.mk #[32]) else[])).length≤L.length+1:=by
   rw[al];split
   ·show _+1≤_;omega
   ·simp
  simp only[F.jn,dec_lt hx,cond_true,cc hx,aa]
  rw[h3,aa]
  have hnx:l++sep [32] ((x.take (k+1)).map dg)=L++(if 0<k then aF (ByteArray.mk #[32]) else[])++dg y:=by
   rw[mi dg [32] hx,←hL]
   simp only[aL]
   rfl
  generalize hM:L++(if 0<k then aF (ByteArray.mk #[32]) else[])=M at hL2 h3 hnx⊢
  have hn:=sG (fu:=f) (n:=y) (b:=b2) (d:=d) (m:=m) (l:=M) hf1 (ho y (mem_of hx)) (by omega)
  cases hv:decide (0≤y) with
  | true=>
   rw[hv] at hn
   obtain⟨b3,hn⟩:=hn
   left
   refine⟨_,?_,(jC hx).trans (by rw[hall,hv];rfl),b3,rfl⟩
   simp only[hn,aV,aa]
   rw[mH hk (by omega),hnx]
  | false=>
   rw[hv] at hn
   obtain⟨s,hn⟩:=hn
   obtain⟨s1,s2,s3,s4⟩:=s
   right
   have:nP x=false:=all_false (p:=fun n=>decide (0≤n)) hx hv
   rw[this]
   refine⟨_,?_,(s1,s2,s3,s4),rfl⟩
   simp only[hn,aV,aa]
 ·rintro s ⟨hall,b',rfl⟩
  rw[gB] at hall⊢
  have:nP x=true:=hall
  rw[this]
  exact⟨_,by simp only[F.jn,dj,cond_false],b',rfl⟩
theorem KV {self:SE}{f:Nat}{t:ai}{b:Bool}{d:Int}{m:Bool}{l:List Int}(hf:bu (bu cU) t.aE+1<f) (hw:bu (bu cU) t.aE≤Bd) (ho:∀x∈t.aE,∀n∈x,ss n) (h:l.length+40*bu (bu cU) t.aE≤140737488355328):
  ∃r,aW (F.jm self f t) f (0,b,d,m,l)=some r∧R1 (t.aE.all nP) d m (l++(t.aE.map eK).flatten) r:=by
 have hlen:t.aE.length≤(t.aE.map (bu cU)).sum:=dI (w:=bu cU) (fun _=>Nat.succ_le_succ (cI _)) t.aE
 have hW:bu (bu cU) t.aE=(t.aE.map (bu cU)).sum+1:=rfl
 have hwi:∀x∈t.aE,(eK x).length≤40*bu cU x:=fun x hx=>by have:=ri (ho x hx);omega
 refine dh (body:=F.jm self f t) t.aE (fun k s=>(t.aE.take k).all nP=true∧∃b',s=((k:Int),b',d,m,l++((t.aE.take k).map eK).flatten)) _ ?_ ?_ t.aE.length 0 f ((0:Nat),b,d,m,l) rfl (cI _) (by omega) ⟨rfl,b,by simp⟩
 ·rintro k y s hx ⟨hall,b',rfl⟩
  have hk:=dR hx
  have hsum:=jz (w:=bu cU) hx
  have hle:=pO (f:=eK) (w:=bu cU) (K:=40) (l:=t.aE.take k) fun z hz=>hwi z (lh hz)
  have hly:=ri (ho y (mem_of hx))
  have hb1:(l++((t.aE.take k).map eK).flatten).length+40*bu cU y+3≤140737488355328:=by
   simp only[al]
   omega
  generalize hL:l++((t.aE.take k).map eK).flatten=L at hb1⊢
  obtain⟨b1,h1⟩:=kM (fu:=f) (s:=ByteArray.mk #[123]) (b:=b') (d:=d) (m:=m) (l:=L) (by omega) (by show _+1≤_;omega)
  have hL1:(L++aF (ByteArray.mk #[123])).length=L.length+1:=by rw[al];rfl
  obtain⟨r,h2,h3⟩:=MV (self:=self) (f:=f) (fu:=f) (x:=y) (b:=b1) (d:=d) (m:=m) (l:=L++aF (ByteArray.mk #[123])) (by omega) (by omega) (by omega) (ho y (mem_of hx)) (by omega)
  simp only[F.jm,dec_lt hx,cond_true,cc hx,aa]
  rw[h1,aa]
  dsimp only
  rw[h2]
  cases hv:nP y with
  | true=>
   rw[hv] at h3
   obtain⟨b3,rfl⟩:=h3
   have hsl:=lj (f:=dg) (w:=cU) (c:=[32]) (K:=40) (l:=y) fun n hn=>by have:=mO (ho y (mem_of hx) n hn);simp only[dl,cU];omega
   have hWy:bu cU y=(y.map cU).sum+1:=rfl
   obtain⟨b4,h4⟩:=kM (fu:=f) (s:=ByteArray.mk #[125]) (b:=b3) (d:=d) (m:=m) (l:=L++aF (ByteArray.mk #[123])++sep [32] (y.map dg)) (by omega) (by
    rw[al,hL1]
    show _+1≤_
    omega)
   left
   refine⟨_,?_,(jC hx).trans (by rw[hall,hv];rfl),b4,rfl⟩
   simp only[br,h4,aa]
   rw[mH hk (by omega),uG eK hx]
   have:l++(((t.aE.take k).map eK).flatten++eK y)=L++aF (ByteArray.mk #[123])++sep [32] (y.map dg)++aF (ByteArray.mk #[125]):=by
    rw[←hL];unfold eK;simp only[aL];rfl
   rw[this]
  | false=>
   rw[hv] at h3
   obtain⟨s,rfl⟩:=h3
   right
   have:t.aE.all nP=false:=all_false hx hv
   rw[this]
   exact⟨_,rfl,s,rfl⟩
 ·rintro s ⟨hall,b',rfl⟩
  rw[gB] at hall⊢
  rw[hall]
  exact⟨_,by simp only[F.jm,dj,cond_false],b',rfl⟩
theorem M2 {self:SE}{f:Nat}{t:ai}{b:Bool}{d:Nat}{m:Bool}{l:List Int}(hf:(t.Kids.map bD).sum+1<f) (hw:(t.Kids.map bD).sum≤Bd) (ho:∀x∈t.Kids,oP x) (hk:BV self t d) (h:l.length+40*(t.Kids.map bD).sum+2≤140737488355328):
  ∃r,aW (F.jl self f t) f (0,b,(d:Int),m,l)=some r∧R1 (t.Kids.all right) d (m||t.Kids.any (fun x=>mE x (d+1))) (l++sep [44,32] (t.Kids.map tx)) r:=by
 have hlen:t.Kids.length≤(t.Kids.map bD).sum:=dI (w:=bD) (fun x=>by have:=dS x;omega) t.Kids
 have hwi:∀x∈t.Kids,(tx x).length+[44,32].length≤40*bD x:=fun x hx=>by have:=kl (ho x hx);simp only[bl,bQ];omega
 refine dh (body:=F.jl self f t) t.Kids (fun k s=>(t.Kids.take k).all right=true∧∃b',s=((k:Int),b',(d:Int),(m||(t.Kids.take k).any (fun x=>mE x (d+1))),l++sep [44,32] ((t.Kids.take k).map tx))) _ ?_ ?_ t.Kids.length 0 f ((0:Nat),b,d,m,l) rfl (cI _) (by omega) ⟨rfl,b,by simp[sep]⟩
 ·rintro k y s hx ⟨hall,b',rfl⟩
  have hkl:=dR hx
  have hsum:=jz (w:=bD) hx
  have hle:=lk (f:=tx) (w:=bD) (c:=[44,32]) (K:=40) (l:=t.Kids) k hwi
  have hb1:(l++sep [44,32] ((t.Kids.take k).map tx)).length+40*bD y+2≤140737488355328:=by
   simp only[al]
   omega
  have hlx:=hwi y (mem_of hx)
  have hpos:=dS y
  have hany:(m||(t.Kids.take (k+1)).any (fun x=>mE x (d+1)))=((m||(t.Kids.take k).any (fun x=>mE x (d+1)))||mE y (d+1)):=by
   rw[dD,hx];simp[kA]
  generalize hmm:(m||(t.Kids.take k).any (fun x=>mE x (d+1)))=mm at hany⊢
  obtain⟨b2,h3⟩:=wY (fu:=f) (k:=k) (s:=ByteArray.mk #[44,32]) (b:=b') (d:=(d:Int)) (m:=mm) (l:=l++sep [44,32] ((t.Kids.take k).map tx)) (by omega) (by show _+2≤_;omega)
  generalize hL:l++sep [44,32] ((t.Kids.take k).map tx)=L at hb1 h3⊢
  have hL2:(L++(if 0<k then aF (ByteArray.mk #[44,32]) else[])).length≤L.length+2:=by
   rw[al];split
   ·show _+2≤_;omega
   ·simp
  simp only[F.jl,dec_lt hx,cond_true,cc hx,aa,gT]
  rw[h3,aa]
  have hnx:l++sep [44,32] ((t.Kids.take (k+1)).map tx)=L++(if 0<k then aF (ByteArray.mk #[44,32]) else[])++tx y:=by
   rw[mi tx [44,32] hx,←hL]
   simp only[aL]
   rfl
  generalize hM:L++(if 0<k then aF (ByteArray.mk #[44,32]) else[])=M at hL2 h3 hnx⊢
  have hn:=hk y (mem_of hx) b2 mm M (by omega)
  cases hv:right y with
  | true=>
   rw[hv] at hn
   obtain⟨b3,hn⟩:=hn
   left
   refine⟨_,?_,(jC hx).trans (by rw[hall,hv];rfl),b3,rfl⟩
   simp only[hn,aV,aa]
   rw[mH hkl (by omega),hnx,hany]
  | false=>
   rw[hv] at hn
   obtain⟨s,hn⟩:=hn
   obtain⟨s1,s2,s3,s4⟩:=s
   right
   have:t.Kids.all right=false:=all_false hx hv
   rw[this]
   refine⟨_,?_,(s1,s2,s3,s4),rfl⟩
   simp only[hn,aV,aa]
 ·rintro s ⟨hall,b',rfl⟩
  rw[gB] at hall⊢
  rw[hall]
  exact⟨_,by simp only[F.jl,dj,cond_false],b',rfl⟩
def u2 (t:ai):Bool:=nm t.Name&&((!t.Shaped||t.Shape.all ga)&&(t.aE.all nP&&t.Kids.all right))
def Gq (t:ai):List Int:=aF t.Name++(bif t.Shaped then eL t.Shape else[])++(t.aE.map eK).flatten++[40]++sep [44,32] (t.Kids.map tx)++[41]
theorem lE (t:ai):bD t=1+gM t.Name+1+1+bu dP t.Shape+bu (bu cU) t.aE+((t.Kids.map bD).sum+1)+1:=xf t
theorem ix.no {g:Bool}{d:Int}{m:Bool}{l:List Int}{o:RS}(hg:g=false) (h:∃s,o=some (.inr ((7,0),s))):ix g d m l o:=by subst hg;exact h
theorem Ny {self:SE}{f:Nat}{t:ai}{b:Bool}{d:Nat}{m:Bool}{l:List Int}(hf:bD t+3<f) (hw:bD t≤Bd) (ho:oP t) (hk:BV self t d) (h:l.length+40*bD t≤140737488355328):
  ix (u2 t) d (m||t.Kids.any (fun x=>mE x (d+1))) (l++Gq t) (F.mh self f t b d m l):=by
 obtain⟨⟨o1,o2,o3⟩,o4⟩:=(nN t).1 ho
 have hp:=lE t
 unfold gM at hp
 unfold F.mh
 have hn:=pk (fu:=f) (s:=t.Name) (b:=b) (d:=(d:Int)) (m:=m) (l:=l) (by omega) (by omega) (by omega) (by omega)
 cases h1:nm t.Name with
 | false=>
  rw[h1] at hn
  obtain⟨⟨s1,s2,s3,s4⟩,hn⟩:=hn
  exact ix.no (by unfold u2;rw[h1];rfl) ⟨(s1,s2,s3,s4),by simp only[hn,aV,aa]⟩
 | true=>
  rw[h1] at hn
  obtain⟨b1,hn⟩:=hn
  simp only[hn,aV,aa]
  have hl1:(l++aF t.Name).length=l.length+t.Name.size:=by rw[al,bI]
  have hsh:∃r,(cond t.Shaped
     (aV (F.ja f t.Shape b1 (d:Int) m (l++aF t.Name))
       (fun ((r10,r11,r12,r13):Bool×Int×Bool×(List Int))=>
        some (.bw (r10,r11,r12,r13)))
       (fun ((e14,e15),(r16,r17,r18,r19))=>
        some (.ret (.inr ((e14,e15),(r16,r17,r18,r19))))))
     (some (.bw (b1,(d:Int),m,l++aF t.Name))):Option XS)=some r∧R1 (!t.Shaped||t.Shape.all ga) d m (l++aF t.Name++(bif t.Shaped then eL t.Shape else[])) r:=by
   cases h2:t.Shaped with
   | false=>
    refine⟨_,rfl,b1,?_⟩
    simp
   | true=>
    have hs:=C5 (fu:=f) (sp:=t.Shape) (b:=b1) (d:=(d:Int)) (m:=m) (l:=l++aF t.Name) (by omega) o2 (by omega) (by omega)
    simp only[dL,fx,cond_true]
    cases h3:t.Shape.all ga with
    | true=>
     rw[h3] at hs
     obtain⟨b2,hs⟩:=hs
     exact⟨_,by simp only[hs,aV,aa],b2,rfl⟩
    | false=>
     rw[h3] at hs
     obtain⟨⟨s1,s2,s3,s4⟩,hs⟩:=hs
     exact⟨_,by simp only[hs,aV,aa],(s1,s2,s3,s4),rfl⟩
  obtain⟨r,h2,h3⟩:=hsh
  rw[aV] at h2
  rw[h2]
  cases h4:(!t.Shaped||t.Shape.all ga) with
  | false=>
   rw[h4] at h3
   obtain⟨s,rfl⟩:=h3
   exact ix.no (by unfold u2;rw[h1,h4];rfl) ⟨s,rfl⟩
  | true=>
   rw[h4] at h3
   obtain⟨b2,rfl⟩:=h3
   simp only[br]
   have hshl:(bif t.Shaped then eL t.Shape else([]:List Int)).length≤(eL t.Shape).length:=by cases t.Shaped <;> simp
   have hsx:=rM o2
   have hl2:(l++aF t.Name++(bif t.Shaped then eL t.Shape else[])).length+38≤l.length+t.Name.size+40*bu dP t.Shape:=by rw[al,hl1];omega
   generalize hL:l++aF t.Name++(bif t.Shaped then eL t.Shape else[])=L at hl2⊢
   obtain⟨r,h5,h6⟩:=KV (self:=self) (f:=f) (t:=t) (b:=b2) (d:=(d:Int)) (m:=m) (l:=L) (by omega) (by omega) o3 (by omega)
   rw[h5]
   cases h7:t.aE.all nP with
   | false=>
    rw[h7] at h6
    obtain⟨s,rfl⟩:=h6
    exact ix.no (by unfold u2;rw[h1,h4,h7];rfl) ⟨s,rfl⟩
   | true=>
    rw[h7] at h6
    obtain⟨b3,rfl⟩:=h6
    dsimp only
    have hfl:=pO (f:=eK) (w:=bu cU) (K:=40) (l:=t.aE) fun x hx=>by have:=ri (o3 x hx);omega
    have hWl:bu (bu cU) t.aE=(t.aE.map (bu cU)).sum+1:=rfl
    have hl3:(L++(t.aE.map eK).flatten).length≤L.length+40*(t.aE.map (bu cU)).sum:=by rw[al];omega
    generalize hM:L++(t.aE.map eK).flatten=M at hl3⊢
    obtain⟨b4,h8⟩:=kM (fu:=f) (s:=ByteArray.mk #[40]) (b:=b3) (d:=(d:Int)) (m:=m) (l:=M) (by omega) (by show _+1≤_;omega)
    rw[h8,aa]
    dsimp only
    have hl4:(M++aF (ByteArray.mk #[40])).length=M.length+1:=by rw[al];rfl
    obtain⟨r,h9,h10⟩:=M2 (self:=self) (f:=f) (t:=t) (b:=b4) (d:=d) (m:=m) (l:=M++aF (ByteArray.mk #[40])) (by omega) (by omega) o4 hk (by omega)
    rw[h9]
    cases h11:t.Kids.all right with
    | false=>
     rw[h11] at h10
     obtain⟨s,rfl⟩:=h10
     exact ix.no (by unfold u2;rw[h1,h4,h7,h11];rfl) ⟨s,rfl⟩
    | true=>
     rw[h11] at h10
     obtain⟨b5,rfl⟩:=h10
     dsimp only
     have hkl:=lj (f:=tx) (w:=bD) (c:=[44,32]) (K:=40) (l:=t.Kids) fun x hx=>by have:=kl (o4 x hx);simp only[bl,bQ];omega
     obtain⟨b6,h12⟩:=kM (fu:=f) (s:=ByteArray.mk #[41]) (b:=b5) (d:=(d:Int)) (m:=(m||t.Kids.any (fun x=>mE x (d+1)))) (l:=M++aF (ByteArray.mk #[40])++sep [44,32] (t.Kids.map tx)) (by omega) (by
      rw[al,hl4];show _+1≤_;omega)
     rw[h12,aa]
     have hg:u2 t=true:=by unfold u2;rw[h1,h4,h7,h11];rfl
     rw[hg]
     refine⟨b6,?_⟩
     have:M++aF (ByteArray.mk #[40])++sep [44,32] (t.Kids.map tx)++aF (ByteArray.mk #[41])=l++Gq t:=by
      rw[←hM,←hL];unfold Gq;simp only[aL];rfl
     rw[this]
end Go.DN
