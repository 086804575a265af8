/-
  Text, printing: the plain law: calls; sums and products.
-/
import Derived.Test.YtaobkpnecfcefaaDoorVpD
set_option linter.unusedVariables false
set_option linter.unusedSimpArgs false
namespace Go.DN
open Go.AM
def mE (t:ai) (d:Nat):Bool:=decide (64<d+levels t-1)||decide (64<fF t)
abbrev SE:Type:=ai→Bool→Int→Bool→List Int→RS
def D0 (self:SE) (t:ai) (d:Nat):Prop:=∀x∈t.Kids,∀(b:Bool) (m:Bool) (l:List Int),l.length+40*dN x≤140737488355328→iK (right x) d (m||mE x (d+1)) (l++tx x) (self x b d m l)
def R2 (g:Bool) (d:Int) (m:Bool) (l:List Int) (e:Ex W4 ((Int×W4)⊕XS)):Prop:=match g with
 | true=>∃b,e=.cD (b,d,m,l)
 | false=>∃s,e=.ret (.inr (.ret (.inr ((7,0),s))))
theorem PR {self:SE}{f fu:Nat}{x:List Int}{b:Bool}{d:Int}{m:Bool}{l:List Int}(hf1:1<f) (hf:dG iH x+1<fu) (hw:dG iH x≤Bd) (ho:∀n∈x,pF n) (h:l.length+40*dG iH x≤140737488355328):
  ∃r,aX (F.jy self f x) fu (0,b,d,m,l)=some r∧R2 (rN x) d m (l++sep [32] (x.map dg)) r:=by
 have hlen:x.length≤(x.map iH).sum:=rX (w:=iH) (fun _=>aq _) x
 have hW:dG iH x=(x.map iH).sum+1:=rfl
 have hwi:∀n∈x,(dg n).length+[32].length≤40*iH n:=fun n hn=>by have:=uT (ho n hn);simp only[cY,iH];omega
 refine pZ (body:=F.jy self f x) x (fun k s=>(x.take k).all (fun n=>decide (0≤n))=true∧∃b',s=((k:Int),b',d,m,l++sep [32] ((x.take k).map dg))) _ ?_ ?_ x.length 0 fu ((0:Nat),b,d,m,l) rfl (cv _) (by omega) ⟨rfl,b,by simp[sep]⟩
 ·rintro k y s hx ⟨hall,b',rfl⟩
  have hk:=nH hx
  have hsum:=rW (w:=iH) hx
  have hle:=tT (f:=dg) (w:=iH) (c:=[32]) (K:=40) (l:=x) k hwi
  have hdx:=hwi y (mem_of hx)
  have hb1:(l++sep [32] ((x.take k).map dg)).length+40≤140737488355328:=by
   simp only[ak]
   simp only[iH] at hsum
   omega
  obtain⟨b2,h3⟩:=yH (fu:=f) (k:=k) (s:=ByteArray.mk #[32]) (b:=b') (d:=d) (m:=m) (l:=l++sep [32] ((x.take k).map dg)) hf1 (by show _+1≤_;omega)
  generalize hL:l++sep [32] ((x.take k).map dg)=L at hb1 h3⊢
  have hL2:(L++(if 0<k then aH (ByteArray.mk #[32]) else[])).length≤L.length+1:=by
   rw[ak];split
   ·show _+1≤_;omega
   ·simp
  simp only[F.jy,dec_lt hx,cond_true,jI hx,aa]
  rw[h3,aa]
  have hnx:l++sep [32] ((x.take (k+1)).map dg)=L++(if 0<k then aH (ByteArray.mk #[32]) else[])++dg y:=by
   rw[uD dg [32] hx,←hL]
   simp only[aA]
   rfl
  generalize hM:L++(if 0<k then aH (ByteArray.mk #[32]) else[])=M at hL2 h3 hnx⊢
  have hn:=tW (fu:=f) (n:=y) (b:=b2) (d:=d) (m:=m) (l:=M) hf1 (ho y (mem_of hx)) (by omega)
  cases hv:decide (0≤y) with
  | true=>
   rw[hv] at hn
   obtain⟨b3,hn⟩:=hn
   left
   refine⟨_,?_,(qf hx).trans (by rw[hall,hv];rfl),b3,rfl⟩
   simp only[hn,aD,aa]
   rw[yU hk (by omega),hnx]
  | false=>
   rw[hv] at hn
   obtain⟨s,hn⟩:=hn
   obtain⟨s1,s2,s3,s4⟩:=s
   right
   have:rN x=false:=all_false (p:=fun n=>decide (0≤n)) hx hv
   rw[this]
   refine⟨_,?_,(s1,s2,s3,s4),rfl⟩
   simp only[hn,aD,aa]
 ·rintro s ⟨hall,b',rfl⟩
  rw[rV] at hall⊢
  have:rN x=true:=hall
  rw[this]
  exact⟨_,by simp only[F.jy,ld,cond_false],b',rfl⟩
theorem NM {self:SE}{f:Nat}{t:ai}{b:Bool}{d:Int}{m:Bool}{l:List Int}(hf:dG (dG iH) t.bC+1<f) (hw:dG (dG iH) t.bC≤Bd) (ho:∀x∈t.bC,∀n∈x,pF n) (h:l.length+40*dG (dG iH) t.bC≤140737488355328):
  ∃r,aX (F.jx self f t) f (0,b,d,m,l)=some r∧R1 (t.bC.all rN) d m (l++(t.bC.map iV).flatten) r:=by
 have hlen:t.bC.length≤(t.bC.map (dG iH)).sum:=rX (w:=dG iH) (fun _=>Nat.succ_le_succ (cv _)) t.bC
 have hW:dG (dG iH) t.bC=(t.bC.map (dG iH)).sum+1:=rfl
 have hwi:∀x∈t.bC,(iV x).length≤40*dG iH x:=fun x hx=>by have:=xX (ho x hx);omega
 refine pZ (body:=F.jx self f t) t.bC (fun k s=>(t.bC.take k).all rN=true∧∃b',s=((k:Int),b',d,m,l++((t.bC.take k).map iV).flatten)) _ ?_ ?_ t.bC.length 0 f ((0:Nat),b,d,m,l) rfl (cv _) (by omega) ⟨rfl,b,by simp⟩
 ·rintro k y s hx ⟨hall,b',rfl⟩
  have hk:=nH hx
  have hsum:=rW (w:=dG iH) hx
  have hle:=w7 (f:=iV) (w:=dG iH) (K:=40) (l:=t.bC.take k) fun z hz=>hwi z (ov hz)
  have hly:=xX (ho y (mem_of hx))
  have hb1:(l++((t.bC.take k).map iV).flatten).length+40*dG iH y+3≤140737488355328:=by
   simp only[ak]
   omega
  generalize hL:l++((t.bC.take k).map iV).flatten=L at hb1⊢
  obtain⟨b1,h1⟩:=lj (fu:=f) (s:=ByteArray.mk #[123]) (b:=b') (d:=d) (m:=m) (l:=L) (by omega) (by show _+1≤_;omega)
  have hL1:(L++aH (ByteArray.mk #[123])).length=L.length+1:=by rw[ak];rfl
  obtain⟨r,h2,h3⟩:=PR (self:=self) (f:=f) (fu:=f) (x:=y) (b:=b1) (d:=d) (m:=m) (l:=L++aH (ByteArray.mk #[123])) (by omega) (by omega) (by omega) (ho y (mem_of hx)) (by omega)
  simp only[F.jx,dec_lt hx,cond_true,jI hx,aa]
  rw[h1,aa]
  dsimp only
  rw[h2]
  cases hv:rN y with
  | true=>
   rw[hv] at h3
   obtain⟨b3,rfl⟩:=h3
   have hsl:=px (f:=dg) (w:=iH) (c:=[32]) (K:=40) (l:=y) fun n hn=>by have:=uT (ho y (mem_of hx) n hn);simp only[cY,iH];omega
   have hWy:dG iH y=(y.map iH).sum+1:=rfl
   obtain⟨b4,h4⟩:=lj (fu:=f) (s:=ByteArray.mk #[125]) (b:=b3) (d:=d) (m:=m) (l:=L++aH (ByteArray.mk #[123])++sep [32] (y.map dg)) (by omega) (by
    rw[ak,hL1]
    show _+1≤_
    omega)
   left
   refine⟨_,?_,(qf hx).trans (by rw[hall,hv];rfl),b4,rfl⟩
   simp only[bx,h4,aa]
   rw[yU hk (by omega),FA iV hx]
   have:l++(((t.bC.take k).map iV).flatten++iV y)=L++aH (ByteArray.mk #[123])++sep [32] (y.map dg)++aH (ByteArray.mk #[125]):=by
    rw[←hL];unfold iV;simp only[aA];rfl
   rw[this]
  | false=>
   rw[hv] at h3
   obtain⟨s,rfl⟩:=h3
   right
   have:t.bC.all rN=false:=all_false hx hv
   rw[this]
   exact⟨_,rfl,s,rfl⟩
 ·rintro s ⟨hall,b',rfl⟩
  rw[rV] at hall⊢
  rw[hall]
  exact⟨_,by simp only[F.jx,ld,cond_false],b',rfl⟩
theorem PX {self:SE}{f:Nat}{t:ai}{b:Bool}{d:Nat}{m:Bool}{l:List Int}(hf:(t.Kids.map dN).sum+1<f) (hw:(t.Kids.map dN).sum≤Bd) (ho:∀x∈t.Kids,pD x) (hk:D0 self t d) (h:l.length+40*(t.Kids.map dN).sum+2≤140737488355328):
  ∃r,aX (F.jv self f t) f (0,b,(d:Int),m,l)=some r∧R1 (t.Kids.all right) d (m||t.Kids.any (fun x=>mE x (d+1))) (l++sep [44,32] (t.Kids.map tx)) r:=by
 have hlen:t.Kids.length≤(t.Kids.map dN).sum:=rX (w:=dN) (fun x=>by have:=jE x;omega) t.Kids
 have hwi:∀x∈t.Kids,(tx x).length+[44,32].length≤40*dN x:=fun x hx=>by have:=vr (ho x hx);simp only[aZ,dY];omega
 refine pZ (body:=F.jv self f t) t.Kids (fun k s=>(t.Kids.take k).all right=true∧∃b',s=((k:Int),b',(d:Int),(m||(t.Kids.take k).any (fun x=>mE x (d+1))),l++sep [44,32] ((t.Kids.take k).map tx))) _ ?_ ?_ t.Kids.length 0 f ((0:Nat),b,d,m,l) rfl (cv _) (by omega) ⟨rfl,b,by simp[sep]⟩
 ·rintro k y s hx ⟨hall,b',rfl⟩
  have hkl:=nH hx
  have hsum:=rW (w:=dN) hx
  have hle:=tT (f:=tx) (w:=dN) (c:=[44,32]) (K:=40) (l:=t.Kids) k hwi
  have hb1:(l++sep [44,32] ((t.Kids.take k).map tx)).length+40*dN y+2≤140737488355328:=by
   simp only[ak]
   omega
  have hlx:=hwi y (mem_of hx)
  have hpos:=jE y
  have hany:(m||(t.Kids.take (k+1)).any (fun x=>mE x (d+1)))=((m||(t.Kids.take k).any (fun x=>mE x (d+1)))||mE y (d+1)):=by
   rw[List.take_add_one,hx];simp[pt]
  generalize hmm:(m||(t.Kids.take k).any (fun x=>mE x (d+1)))=mm at hany⊢
  obtain⟨b2,h3⟩:=yH (fu:=f) (k:=k) (s:=ByteArray.mk #[44,32]) (b:=b') (d:=(d:Int)) (m:=mm) (l:=l++sep [44,32] ((t.Kids.take k).map tx)) (by omega) (by show _+2≤_;omega)
  generalize hL:l++sep [44,32] ((t.Kids.take k).map tx)=L at hb1 h3⊢
  have hL2:(L++(if 0<k then aH (ByteArray.mk #[44,32]) else[])).length≤L.length+2:=by
   rw[ak];split
   ·show _+2≤_;omega
   ·simp
  simp only[F.jv,dec_lt hx,cond_true,jI hx,aa,AF]
  rw[h3,aa]
  have hnx:l++sep [44,32] ((t.Kids.take (k+1)).map tx)=L++(if 0<k then aH (ByteArray.mk #[44,32]) else[])++tx y:=by
   rw[uD tx [44,32] hx,←hL]
   simp only[aA]
   rfl
  generalize hM:L++(if 0<k then aH (ByteArray.mk #[44,32]) else[])=M at hL2 h3 hnx⊢
  have hn:=hk y (mem_of hx) b2 mm M (by omega)
  cases hv:right y with
  | true=>
   rw[hv] at hn
   obtain⟨b3,hn⟩:=hn
   left
   refine⟨_,?_,(qf hx).trans (by rw[hall,hv];rfl),b3,rfl⟩
   simp only[hn,aD,aa]
   rw[yU hkl (by omega),hnx,hany]
  | false=>
   rw[hv] at hn
   obtain⟨s,hn⟩:=hn
   obtain⟨s1,s2,s3,s4⟩:=s
   right
   have:t.Kids.all right=false:=all_false hx hv
   rw[this]
   refine⟨_,?_,(s1,s2,s3,s4),rfl⟩
   simp only[hn,aD,aa]
 ·rintro s ⟨hall,b',rfl⟩
  rw[rV] at hall⊢
  rw[hall]
  exact⟨_,by simp only[F.jv,ld,cond_false],b',rfl⟩
def wx (t:ai):Bool:=nm t.Name&&((!t.Shaped||t.Shape.all iG)&&(t.bC.all rN&&t.Kids.all right))
def IP (t:ai):List Int:=aH t.Name++(bif t.Shaped then gH t.Shape else[])++(t.bC.map iV).flatten++[40]++sep [44,32] (t.Kids.map tx)++[41]
theorem xk (t:ai):dN t=1+nB t.Name+1+1+dG lR t.Shape+dG (dG iH) t.bC+((t.Kids.map dN).sum+1)+1:=yS t
theorem iK.no {g:Bool}{d:Int}{m:Bool}{l:List Int}{o:RS}(hg:g=false) (h:∃s,o=some (.inr ((7,0),s))):iK g d m l o:=by subst hg;exact h
theorem Qy {self:SE}{f:Nat}{t:ai}{b:Bool}{d:Nat}{m:Bool}{l:List Int}(hf:dN t+3<f) (hw:dN t≤Bd) (ho:pD t) (hk:D0 self t d) (h:l.length+40*dN t≤140737488355328):
  iK (wx t) d (m||t.Kids.any (fun x=>mE x (d+1))) (l++IP t) (F.nf self f t b d m l):=by
 obtain⟨⟨o1,o2,o3⟩,o4⟩:=(l7 t).1 ho
 have hp:=xk t
 unfold nB at hp
 unfold F.nf
 have hn:=pW (fu:=f) (s:=t.Name) (b:=b) (d:=(d:Int)) (m:=m) (l:=l) (by omega) (by omega) (by omega) (by omega)
 cases h1:nm t.Name with
 | false=>
  rw[h1] at hn
  obtain⟨⟨s1,s2,s3,s4⟩,hn⟩:=hn
  exact iK.no (by unfold wx;rw[h1];rfl) ⟨(s1,s2,s3,s4),by simp only[hn,aD,aa]⟩
 | true=>
  rw[h1] at hn
  obtain⟨b1,hn⟩:=hn
  simp only[hn,aD,aa]
  have hl1:(l++aH t.Name).length=l.length+t.Name.size:=by rw[ak,cu]
  have hsh:∃r,(cond t.Shaped
     (aD (F.jc f t.Shape b1 (d:Int) m (l++aH t.Name))
       (fun ((r10,r11,r12,r13):Bool×Int×Bool×(List Int))=>
        some (.cD (r10,r11,r12,r13)))
       (fun ((e14,e15),(r16,r17,r18,r19))=>
        some (.ret (.inr ((e14,e15),(r16,r17,r18,r19))))))
     (some (.cD (b1,(d:Int),m,l++aH t.Name))):Option XS)=some r∧R1 (!t.Shaped||t.Shape.all iG) d m (l++aH t.Name++(bif t.Shaped then gH t.Shape else[])) r:=by
   cases h2:t.Shaped with
   | false=>
    refine⟨_,rfl,b1,?_⟩
    simp
   | true=>
    have hs:=E3 (fu:=f) (sp:=t.Shape) (b:=b1) (d:=(d:Int)) (m:=m) (l:=l++aH t.Name) (by omega) o2 (by omega) (by omega)
    simp only[de,mi,cond_true]
    cases h3:t.Shape.all iG with
    | true=>
     rw[h3] at hs
     obtain⟨b2,hs⟩:=hs
     exact⟨_,by simp only[hs,aD,aa],b2,rfl⟩
    | false=>
     rw[h3] at hs
     obtain⟨⟨s1,s2,s3,s4⟩,hs⟩:=hs
     exact⟨_,by simp only[hs,aD,aa],(s1,s2,s3,s4),rfl⟩
  obtain⟨r,h2,h3⟩:=hsh
  rw[aD] at h2
  rw[h2]
  cases h4:(!t.Shaped||t.Shape.all iG) with
  | false=>
   rw[h4] at h3
   obtain⟨s,rfl⟩:=h3
   exact iK.no (by unfold wx;rw[h1,h4];rfl) ⟨s,rfl⟩
  | true=>
   rw[h4] at h3
   obtain⟨b2,rfl⟩:=h3
   simp only[bx]
   have hshl:(bif t.Shaped then gH t.Shape else([]:List Int)).length≤(gH t.Shape).length:=by cases t.Shaped <;> simp
   have hsx:=ze o2
   have hl2:(l++aH t.Name++(bif t.Shaped then gH t.Shape else[])).length+38≤l.length+t.Name.size+40*dG lR t.Shape:=by rw[ak,hl1];omega
   generalize hL:l++aH t.Name++(bif t.Shaped then gH t.Shape else[])=L at hl2⊢
   obtain⟨r,h5,h6⟩:=NM (self:=self) (f:=f) (t:=t) (b:=b2) (d:=(d:Int)) (m:=m) (l:=L) (by omega) (by omega) o3 (by omega)
   rw[h5]
   cases h7:t.bC.all rN with
   | false=>
    rw[h7] at h6
    obtain⟨s,rfl⟩:=h6
    exact iK.no (by unfold wx;rw[h1,h4,h7];rfl) ⟨s,rfl⟩
   | true=>
    rw[h7] at h6
    obtain⟨b3,rfl⟩:=h6
    dsimp only
    have hfl:=w7 (f:=iV) (w:=dG iH) (K:=40) (l:=t.bC) fun x hx=>by have:=xX (o3 x hx);omega
    have hWl:dG (dG iH) t.bC=(t.bC.map (dG iH)).sum+1:=rfl
    have hl3:(L++(t.bC.map iV).flatten).length≤L.length+40*(t.bC.map (dG iH)).sum:=by rw[ak];omega
    generalize hM:L++(t.bC.map iV).flatten=M at hl3⊢
    obtain⟨b4,h8⟩:=lj (fu:=f) (s:=ByteArray.mk #[40]) (b:=b3) (d:=(d:Int)) (m:=m) (l:=M) (by omega) (by show _+1≤_;omega)
    rw[h8,aa]
    dsimp only
    have hl4:(M++aH (ByteArray.mk #[40])).length=M.length+1:=by rw[ak];rfl
    obtain⟨r,h9,h10⟩:=PX (self:=self) (f:=f) (t:=t) (b:=b4) (d:=d) (m:=m) (l:=M++aH (ByteArray.mk #[40])) (by omega) (by omega) o4 hk (by omega)
    rw[h9]
    cases h11:t.Kids.all right with
    | false=>
     rw[h11] at h10
     obtain⟨s,rfl⟩:=h10
     exact iK.no (by unfold wx;rw[h1,h4,h7,h11];rfl) ⟨s,rfl⟩
    | true=>
     rw[h11] at h10
     obtain⟨b5,rfl⟩:=h10
     dsimp only
     have hkl:=px (f:=tx) (w:=dN) (c:=[44,32]) (K:=40) (l:=t.Kids) fun x hx=>by have:=vr (o4 x hx);simp only[aZ,dY];omega
     obtain⟨b6,h12⟩:=lj (fu:=f) (s:=ByteArray.mk #[41]) (b:=b5) (d:=(d:Int)) (m:=(m||t.Kids.any (fun x=>mE x (d+1)))) (l:=M++aH (ByteArray.mk #[40])++sep [44,32] (t.Kids.map tx)) (by omega) (by
      rw[ak,hl4];show _+1≤_;omega)
     rw[h12,aa]
     have hg:wx t=true:=by unfold wx;rw[h1,h4,h7,h11];rfl
     rw[hg]
     refine⟨b6,?_⟩
     have:M++aH (ByteArray.mk #[40])++sep [44,32] (t.Kids.map tx)++aH (ByteArray.mk #[41])=l++IP t:=by
      rw[←hM,←hL];unfold IP;simp only[aA];rfl
     rw[this]
end Go.DN
