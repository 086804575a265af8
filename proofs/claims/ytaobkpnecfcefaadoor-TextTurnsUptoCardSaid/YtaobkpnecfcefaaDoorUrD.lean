/-
  Text, reading: a program is the same as itself; both read the same.
-/
import Derived.Test.YtaobkpnecfcefaaDoorUqE
set_option linter.unusedVariables false
set_option linter.unusedSimpArgs false
namespace Go.DN
open Go.AM
theorem w1 {i:Nat}(h:i≤Mx):IntKind.wrap .i64 ((i:Int)+1)=((i+1:Nat):Int):=yT (n:=i+1) (by omega) (by simp only[Mx] at h;omega)
theorem oC {α τ ρ:Type}{body:τ→Option (τ⊕ρ)}(l:List α) (st:Nat→τ) (good:ρ) (hb:∀k x,l[k]?=some x→body (st k)=some (.inl (st (k+1)))) (he:body (st l.length)=some (.inr good)):
  ∀(fu k:Nat),l.length-k<fu→k≤l.length→aX body fu (st k)=some good
 | 0,k,h,_=>by omega
 | fu+1,k,h,hk=>by
  rw[oZ]
  by_cases h1:k<l.length
  ·rw[hb k l[k] (by simp[h1]),rY]
   exact oC l st good hb he fu (k+1) (by omega) (by omega)
  ·obtain rfl:k=l.length:=by omega
   rw[he,He]
theorem ne_self (a:Int):(a !=a)=false:=by simp
theorem wS {α:Type}{l:List α}{k:Nat}{x:α}(hl:Sm l) (h:l[k]?=some x):IntKind.wrap .i64 ((k:Int)+1)=((k+1:Nat):Int):=w1 (by have:=nH h;unfold Sm at hl;omega)
theorem AR {l:List bh}(hl:Sm l){fu:Nat}(hf:Mx<fu):F.iZ fu l l=some true:=by
 unfold F.iZ
 rw[ne_self]
 have h:=oC (body:=F.gK fu l l) l (fun k=>(false,(k:Int))) (Ex.cD ()) (fun k x hx=>by
  have e2:(x.Name==x.Name&&(x.lG==x.lG&&true))=true:=by rw[Pf];simp
  simp only[F.gK,dec_lt hx,cond_true,jI hx,aa,e2,de,cond_false,wS hl hx]) (by simp only[F.gK,ld,cond_false]) fu 0 (by unfold Sm at hl;omega) (by omega)
 have h:aX (F.gK fu l l) fu (false,0)=_:=h
 simp only[cond_false,h,bx]
theorem Hl {l:List (List Int)}(hl:OU l){fu:Nat}(hf:Mx<fu):F.kI fu l l=some true:=by
 unfold F.kI
 rw[ne_self]
 have h:=oC (body:=F.gq fu l l) l (fun k=>(false,(k:Int))) (Ex.cD ()) (fun k x hx=>by
  have hx1:Sm x:=hl.2 x (aL hx)
  have h1:=oC (body:=F.gr fu l l (k:Int) x) x (fun q=>(false,(q:Int))) (Ex.cD false) (fun q y hy=>by
   simp only[F.gr,dec_lt hy,cond_true,jI hx,jI hy,aa,ne_self,cond_false,wS hx1 hy]) (by simp only[F.gr,ld,cond_false]) fu 0 (by unfold Sm at hx1;omega) (by omega)
  have h1:aX (F.gr fu l l (k:Int) x) fu (false,0)=_:=h1
  simp only[F.gq,dec_lt hx,cond_true,jI hx,aa,ne_self,cond_false,h1,bx,wS hl.1 hx]) (by simp only[F.gq,ld,cond_false]) fu 0 (by have:=hl.1;unfold Sm at this;omega) (by omega)
 have h:aX (F.gq fu l l) fu (false,0)=_:=h
 simp only[cond_false,h,bx]
theorem ES {α:Type}{P:α→Nat→Prop}:∀{l:List α},(∀x∈l,∃n,∀fu,n≤fu→P x fu)→∃n,∀x∈l,∀fu,n≤fu→P x fu
 | [],_=>⟨0,fun x h=>by cases h⟩
 | y::r,h=>by
  obtain⟨n,hn⟩:=h y au
  obtain⟨m,hm⟩:=ES (l:=r) fun x hx=>h x (ap _ hx)
  refine⟨n+m,fun x hx fu hf=>?_⟩
  rcases bf.1 hx with rfl | hx
  ·exact hn fu (by omega)
  ·exact hm x hx fu (by omega)
theorem Jd {t:ai}(h:lc t):∃n,∀fu,n≤fu→F.et fu t t=some true:=by
 induction h with
 | mk h1 h2 h3 h4 ih=>
  rename_i k nm v b sh ls ks
  obtain⟨n,hn⟩:=ES ih
  refine⟨n+Mx+2,fun fu hf=>?_⟩
  obtain⟨f,rfl⟩:∃f,fu=f+1:=⟨fu-1,by omega⟩
  simp only[F.et,F.pQ]
  have h:=oC (body:=F.gL (F.et f) (f+1) ⟨k,nm,v,b,sh,ls,ks⟩ ⟨k,nm,v,b,sh,ls,ks⟩) ks (fun q=>(false,(q:Int))) (Ex.cD ()) (fun q y hy=>by
   simp only[F.gL,dec_lt hy,cond_true,jI hy,aa,hn y (aL hy) f (by omega),de,cond_false,wS h3 hy]) (by simp only[F.gL,ld,cond_false]) (f+1) 0 (by unfold Sm at h3;omega) (by omega)
  have h:aX (F.gL (F.et f) (f+1) ⟨k,nm,v,b,sh,ls,ks⟩ ⟨k,nm,v,b,sh,ls,ks⟩) (f+1) (false,0)=_:=h
  have e1:(nm.toList==nm.toList)=true:=by simp
  have e2:(b==b)=true:=by simp
  simp only[ne_self,cond_false,e1,e2,de,AR h1 (show Mx<f+1 by omega),Hl h2 (show Mx<f+1 by omega),aa,h,bx]
theorem Je {p:List br}(hp:Mz p):∃n,∀fu,n≤fu→F.ju fu p p=some true:=by
 obtain⟨n,hn⟩:=ES (l:=p) (P:=fun f fu=>F.et fu f.Body f.Body=some true) fun f hf=>Jd (hp.2 f hf).2
 refine⟨n+Mx+1,fun fu hf=>?_⟩
 unfold F.ju
 rw[ne_self]
 have h:=oC (body:=F.fx fu p p) p (fun k=>(false,(k:Int))) (Ex.cD ()) (fun k x hx=>by
  have hm:=aL hx
  have hg:=(hp.2 x hm).1
  have h1:=oC (body:=F.fA fu p p (k:Int) x) x.cy (fun q=>(false,(q:Int))) (Ex.cD false) (fun q y hy=>by
   have e1:(y.Name.toList==y.Name.toList)=true:=by simp
   have hd:=hg.2 y (aL hy)
   simp only[F.fA,dec_lt hy,cond_true,jI hx,jI hy,aa,e1,de,cond_false,AR hd (show Mx<fu by omega),wS hg.1 hy]) (by simp only[F.fA,ld,cond_false]) fu 0 (by have:=hg.1;unfold Sm at this;omega) (by omega)
  have h1:aX (F.fA fu p p (k:Int) x) fu (false,0)=_:=h1
  have e1:(x.Name.toList==x.Name.toList)=true:=by simp
  simp only[F.fx,dec_lt hx,cond_true,jI hx,aa,e1,de,ne_self,cond_false,p7,hn x hm fu (by omega),h1,bx,wS hp.1 hx]) (by simp only[F.fx,ld,cond_false]) fu 0 (by have:=hp.1;unfold Sm at this;omega) (by omega)
 have h:aX (F.fx fu p p) fu (false,0)=_:=h
 simp only[cond_false,h,bx]
theorem RK {s:ByteArray}(hs:s.size≤Mx){j k:Nat}(hj:j<s.size) (h:nc s j=.inl k):GC ⟨s.extract j k,(j:Int)⟩:=by
 have hk:=D4 hj h
 have hsz:(s.extract j k).size=k-j:=BV hk.2
 have hc:ch (s.extract j k) 0=ch s j:=Ug hk.2 (by omega)
 refine⟨by show 0<(s.extract j k).size;omega,by show(s.extract j k).size≤Mx;omega,fun hd=>?_⟩
 have hd:kq (ch s j)=true:=by rw[←hc];exact hd
 unfold nc at h
 rw[if_pos (Ii hd),if_pos hd] at h
 split at h
 ·rename_i hn
  split at h
  ·cases h
  ·rename_i hb
   cases h
   refine⟨OR ?_,by show vl 0 (s.extract j (eb s cO j)).data.toList≤wc;omega⟩
   unfold uK at hn
   rw[ag] at hn
   exact hn.1
 ·cases h
theorem TU {s:ByteArray}(hs:s.size≤Mx){j:Nat}{out:List ah}{r:EV}(h:Lex s j out r):(∀t∈out,GC t)→∀t∈r.1,GC t:=by
 induction h with
 | fin=>exact fun h=>h
 | bad h ht=>exact fun _ t h=>by cases h
 | tok h ht hb hl ih=>
  intro ho
  refine ih fun t hm=>?_
  rcases eS.1 hm with hm | hm
  ·exact ho t hm
  ·simp at hm;subst hm;exact RK hs h ht
theorem Tx {s:ByteArray}{fu:Nat}(X:jk) (he:X.en=(s.size:Int)) (ht:F.mn fu s=some (X.L,⟨0,0⟩)) (hf:Mx+64<fu):
  F.sU fu s=some (match qU X (X.L.length+1) 0 [] with | .ok a _=>(a,⟨0,0⟩) | .bad e p=>([],⟨e,p⟩)):=by
 have hz:=X.sz
 unfold F.sU F.wh GV
 simp only[ht,aa,ne_self,cond_false,←he]
 have h:=Np (X:=X) hf (X.L.length+1) 0 [] fu (cv _) (by omega) (by omega) (by simp;omega)
 rw[iN] at h
 revert h
 cases qU X (X.L.length+1) 0 [] with
 | ok a j=>
  rintro⟨l,x,y,h⟩
  simp only[h,bx,lb,nv,aa,Rb,if_pos]
 | bad e p=>intro h;simp only[h,bx,aa]
end Go.DN
