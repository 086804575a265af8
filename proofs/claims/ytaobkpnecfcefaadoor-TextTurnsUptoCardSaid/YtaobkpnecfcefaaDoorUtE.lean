/-
  Text, turning: trees read again, whole.
-/
import Derived.Test.YtaobkpnecfcefaaDoorUtD
set_option linter.unusedVariables false
set_option linter.unusedSimpArgs false
set_option linter.unusedSectionVars false
namespace Go.DN
open Go.AM
variable {X:jk}
theorem tY {part:Nat→R ai}{sg:Nat→Bool}{j:Nat}(h:sg j=false) (k:Nat) (t:ai):cf X part sg k t j=.ok t j:=by
 cases k <;> (unfold cf;rw[h];rfl)
theorem DF {part:Nat→R ai}{sg:Nat→Bool}{j j2:Nat}{b:ai}(h:sg j=true) (hp:part (j+1)=.ok b j2) (k:Nat) (t:ai):cf X part sg (k+1) t j=cf X part sg k ⟨4,X.tx j,0,false,[],[],[t,b]⟩ j2:=by
 unfold cf
 rw[h,if_pos rfl,hp]
 cases k <;> rfl
theorem Ew {l:List Nat}{x:Nat}(h:x∈l):x≤pX l:=by
 induction l with
 | nil=>cases h
 | cons y r ih=>
  simp only[pX]
  rcases bf.1 h with rfl | h
  ·omega
  ·have:=ih h;omega
structure OX (X:jk) (t:ai):Prop where
 a:∀r i,levels t≤r+1→eg X i (tk t)→pw t=3→ia X (i+(tk t).length)=true→dm X (pE X r) i=.ok t (i+(tk t).length)
 b:∀r i,levels t≤r+1→eg X i (tk t)→2≤pw t→ia X (i+(tk t).length)=true→((dm X (pE X r) i).bind fun u j=>cf X (dm X (pE X r)) (ie X) 64 u j)=cf X (dm X (pE X r)) (ie X) (64-(if pw t=2 then chain t else 0)) t (i+(tk t).length)
 c:∀r i,levels t≤r+1→eg X i (tk t)→1≤pw t→ia X (i+(tk t).length)=true→ie X (i+(tk t).length)=false→((fM X (pE X r) i).bind fun u j=>cf X (fM X (pE X r)) (kM X) 64 u j)=cf X (fM X (pE X r)) (kM X) (64-(if pw t=1 then chain t else 0)) t (i+(tk t).length)
 d:∀r i,levels t≤r+1→eg X i (tk t)→I7 X (i+(tk t).length)→pE X (r+1) i=.ok t (i+(tk t).length)
theorem Mr {x:ai}(hx:OX X x){b:Bool}{r i:Nat}(hb:b=true→levels x≤r) (hb':b=false→pw x=3∧levels x≤r+1) (ht:eg X i (tok (eZ b (it x)))) (hp:ia X (i+(tok (eZ b (it x))).length)=true):
  dm X (pE X r) i=.ok x (i+(tok (eZ b (it x))).length):=by
 cases b with
 | false=>exact hx.a r i (hb' rfl).2 ht (hb' rfl).1 hp
 | true=>
  have hl:=hb rfl
  have h1:=ma x
  obtain⟨q,rfl⟩:∃q,r=q+1:=⟨r-1,by omega⟩
  have e:tok (eZ true (it x))=ByteArray.mk #[40]::(tk x++[ByteArray.mk #[41]]):=Ju true (it x)
  rw[e] at ht⊢
  have hd:=ht.hd
  have ht2:=ht.tl
  have h41:=ht2.right.hd
  unfold dm
  rw[if_neg (by rw[hd];decide),if_pos (p5 hd),hx.d q (i+1) hl ht2.left (s9 h41 (.inl rfl))]
  show(cg X _ _).bind _=_
  rw[il h41]
  show R.ok _ _=_
  simp only[aZ,ak,dY]
  congr 1;omega
theorem RA {x:ai}(hx:OX X x){b:Bool}{r i:Nat}(hb:b=true→levels x≤r) (hb':b=false→2≤pw x∧levels x≤r+1) (ht:eg X i (tok (eZ b (it x)))) (hp:ia X (i+(tok (eZ b (it x))).length)=true) (hm:ie X (i+(tok (eZ b (it x))).length)=false):
  fM X (pE X r) i=.ok x (i+(tok (eZ b (it x))).length):=by
 unfold fM
 cases b with
 | false=>
  have h:=hx.b r i (hb' rfl).2 ht (hb' rfl).1 hp
  rw[h]
  exact tY hm _ _
 | true=>
  rw[Mr hx hb (fun h=>by cases h) ht hp]
  exact tY hm _ _
theorem Fk:∀l:List (List Int),l.length≤(tok (l.map eM).flatten).length
 | []=>cv _
 | x::r=>by
  have:=Fk r
  have e:tok (((x::r).map eM).flatten)=tok (eM x)++tok ((r.map eM).flatten):=by simp only[aB,gR,eE]
  rw[e,uw];simp only[aZ,ak];omega
theorem Ow {t:ai}{r i:Nat}(ho:pD t) (hr:right t=true) (hk:t.Kind=3) (hkd:∀x∈t.Kids,OX X x) (hl:levels t≤r+1) (h:eg X i (tk t)):dm X (pE X r) i=.ok t (i+(tk t).length):=by
 obtain⟨⟨_,hoD,hoL⟩,hoK⟩:=(l7 t).1 ho
 obtain⟨hnm,hls,hsh,hss,heq⟩:=Nc hr hk
 have hlv:∀x∈t.Kids,levels x≤r:=fun x hx=>by
  rw[qY (by omega)] at hl
  have:=Ew (gM (f:=levels) hx)
  omega
 rw[Vg hk] at h⊢
 have hd:=h.hd
 have h1:=h.tl
 generalize hA:tok (bif t.Shaped then gI t.Shape else[])=A at h1⊢
 have h2:=h1.right
 generalize hB:tok (t.bC.map eM).flatten=B at h2⊢
 have h3:=h2.right
 have h40:=h3.hd
 have h4:=h3.tl
 generalize hC:tok (fq [w [44],sp] (t.Kids.map it))=C at h4⊢
 have h41:=h4.right.hd
 have i40:X.is (i+1+A.length+B.length) (ByteArray.mk #[123])=false:=oJ h40 (kC (by decide))
 have hlt:i+1+A.length+B.length<X.L.length:=nb (by rw[h40];decide)
 have eB:l6 X (X.L.length-(i+1+A.length)+1) (i+1+A.length) []=.ok t.bC (i+1+A.length+B.length):=by
  have hll:=Fk t.bC
  have:=C0 (X:=X) t.bC (X.L.length-(i+1+A.length)+1) (i+1+A.length) [] hoL hls (by rw[hB];exact h2.left) (by rw[hB];exact i40) (by rw[hB] at hll;omega)
  rw[this,hB,cX]
 have nextB:∀u:ByteArray,u≠ByteArray.mk #[123]→u≠ByteArray.mk #[40]→X.is (i+1+A.length) u=false:=fun u n1 n2=>by
  cases hL:t.bC with
  | nil=>
   rw[hL] at hB
   have:B=[]:=hB.symm
   subst this
   exact oJ h40 (fun e=>n2 e.symm)
  | cons x q=>
   have e:B=ByteArray.mk #[123]::(x.map gN++[ByteArray.mk #[125]]++tok (q.map eM).flatten):=by
    rw[←hB,hL];simp only[aB,gR,eE,uw,bd]
   rw[e] at h2
   exact oJ h2.hd (fun e=>n1 e.symm)
 have eA:JM X (i+1)=.ok (t.Shaped,t.Shape) (i+1+A.length):=by
  unfold JM
  cases hs:t.Shaped with
  | true=>
   rw[hs] at hA
   have hA:tok (gI t.Shape)=A:=hA
   have h5:=h1.left
   rw[←hA] at h5
   have e91:X.tx (i+1)=ByteArray.mk #[91]:=by rw[yY] at h5;exact h5.hd
   rw[if_pos (p5 e91),Cw hoD hsh h5,hA];rfl
  | false=>
   rw[hs] at hA
   have:A=[]:=hA.symm
   subst this
   have n:=nextB (ByteArray.mk #[91]) (kC (by decide)) (kC (by decide))
   have n:X.is (i+1) (ByteArray.mk #[91])=false:=n
   rw[n,if_neg (by decide),hss hs];rfl
 have eP:ia X (i+1)=false:=by
  unfold ia
  cases hs:t.Shaped with
  | true=>
   rw[hs] at hA
   have hA:tok (gI t.Shape)=A:=hA
   have h5:=h1.left
   rw[←hA] at h5
   have e91:X.tx (i+1)=ByteArray.mk #[91]:=by rw[yY] at h5;exact h5.hd
   rw[p5 e91];rfl
  | false=>
   rw[hs] at hA
   have:A=[]:=hA.symm
   subst this
   cases hL:t.bC with
   | nil=>
    rw[hL] at hB
    have:B=[]:=hB.symm
    subst this
    have h40:X.tx (i+1)=ByteArray.mk #[40]:=h40
    rw[p5 h40];simp
   | cons x q=>
    have e:B=ByteArray.mk #[123]::(x.map gN++[ByteArray.mk #[125]]++tok (q.map eM).flatten):=by
     rw[←hB,hL];simp only[aB,gR,eE,uw,bd]
    rw[e] at h2
    have h2:X.tx (i+1)=ByteArray.mk #[123]:=h2.hd
    rw[p5 h2];simp
 have eK:=NR (X:=X) (S:=pE X r) (ks:=t.Kids) (i:=i+1+A.length+B.length+1) (fun x hx j hj hf=>by
  have h1:=ma x
  have h2:=hlv x hx
  obtain⟨q,rfl⟩:∃q,r=q+1:=⟨r-1,by omega⟩
  exact(hkd x hx).d q j h2 hj hf) (fun x hx=>by
  obtain⟨s,q,e,hh⟩:=BT _ x (aq _) (hoK x hx) (zz hr hx)
  exact⟨s,q,e,hh.rp⟩) (by rw[hC];exact h4)
 rw[hC] at eK
 unfold dm
 rw[hd,if_neg (by rw[xO hnm];decide),oJ hd (wQ hnm (by decide)),if_neg (by decide),su hd hnm]
 show(if ia X (i+1)=true then _ else _)=_
 rw[eP,if_neg (by decide)]
 unfold Gm
 rw[eA]
 show(l6 X _ _ []).bind _=_
 rw[eB]
 show(cg X _ _).bind _=_
 rw[il h40]
 show(jU X _ _ _ []).bind _=_
 rw[eK]
 show R.ok _ _=_
 rw[←heq]
 simp only[aZ,ak,dY]
 congr 1;omega
theorem Fi:∀(n:Nat) (t:ai),dN t≤n→pD t→right t=true→fF t≤64→OX X t
 | 0,t,h,_,_,_=>by have:=jE t;omega
 | n+1,t,h,ho,hr,hlg=>by
  have hkd:∀x∈t.Kids,OX X x:=fun x hx=>by
   have h1:=oW hx
   have h2:fF x≤64:=by
    have:=Ew (gM (f:=fF) hx)
    rw[qX] at hlg;omega
   exact Fi n x (by omega) (((l7 t).1 ho).2 x hx) (zz hr hx) h2
  have hp:=JK (t:=t)
  have hch:=B5 t
  have A:∀r i,levels t≤r+1→eg X i (tk t)→pw t=3→ia X (i+(tk t).length)=true→dm X (pE X r) i=.ok t (i+(tk t).length):=fun r i hl ht h3 hpl=>by
   have h3:=hp.2.1 h3
   rcases kinds hr with hk | hk | hk | hk | hk | hk
   ·obtain⟨h0,e⟩:=Nf hr hk
    obtain⟨_,n1,n2⟩:=um ((l7 t).1 ho).1.1 h0
    rw[Vi hk] at ht⊢
    unfold dm
    rw[ht.hd,if_pos n1,n2,←e];rfl
   ·obtain⟨h0,e⟩:=Nd hr hk
    rw[Vh hk] at ht hpl⊢
    have hpl:ia X (i+1)=true:=hpl
    unfold dm
    rw[ht.hd,if_neg (by rw[xO h0];decide),oJ ht.hd (wQ h0 (by decide)),if_neg (by decide),su ht.hd h0]
    show(if ia X (i+1)=true then _ else _)=_
    rw[if_pos hpl,←e];rfl
   ·exact Ow ho hr hk hkd hl ht
   ·omega
   ·omega
   ·omega
  have L4:t.Kind=4→∀r,levels t≤r+1→(cZ t (k0 t) 0=true→levels (k0 t)≤r)∧(cZ t (k0 t) 0=false→levels (k0 t)≤r+1)∧(cZ t (k1 t) 1=true→levels (k1 t)≤r)∧(cZ t (k1 t) 1=false→levels (k1 t)≤r+1):=fun hk r hl=>by
   have h2:=C4 hk (CC hr hk).2.1
   refine⟨fun hw=>?_,fun hw=>?_,fun hw=>?_,fun hw=>?_⟩
   ·have:=xm.1 hw;rw[if_pos (by omega)] at h2;omega
   ·have:=rU.1 hw;rw[if_neg (by omega)] at h2;omega
   ·have:=xm.1 hw;rw[if_pos (show pw (k1 t)<pw t+1 by omega)] at h2;omega
   ·have:=rU.1 hw;rw[if_neg (show ¬pw (k1 t)<pw t+1 by omega)] at h2;omega
  have B:∀r i,levels t≤r+1→eg X i (tk t)→2≤pw t→ia X (i+(tk t).length)=true→((dm X (pE X r) i).bind fun u j=>cf X (dm X (pE X r)) (ie X) 64 u j)=cf X (dm X (pE X r)) (ie X) (64-(if pw t=2 then chain t else 0)) t (i+(tk t).length):=fun r i hl ht h2 hpl=>by
   have hle:=La t
   by_cases h3:pw t=3
   ·rw[A r i hl ht h3 hpl,if_neg (by omega)];rfl
   ·have hk:t.Kind=4:=by
     have h5:¬(t.Kind=5∨t.Kind=6):=fun h=>by have:=hp.1.2 h;omega
     have h6:t.Kind=4∨t.Kind=5∨t.Kind=6:=Classical.byContradiction fun h=>h3 (hp.2.2 h)
     omega
    obtain⟨hop,h2k,heq⟩:=CC hr hk
    obtain⟨l1,l2,l3,l4⟩:=L4 hk r hl
    have hmul:(t.Name.toList==mul.toList)=true:=by
     cases hb:(t.Name.toList==mul.toList) with
     | true=>rfl
     | false=>exfalso;unfold pw at h2;rw[if_neg (by omega),if_pos hk,hb] at h2;simp at h2
    have hc2:=zR hk h2k
    have hpt:pw t=2:=by omega
    rw[if_pos hpt]
    rw[Tm hk h2k] at ht hpl⊢
    have t0:=ht.left
    have tN:=ht.right.hd
    have t1:=ht.right.tl
    obtain⟨p3,pm,_⟩:=Nv tN hop
    rw[hmul] at pm
    have x0:=hkd _ (kR h2k)
    have x1:=hkd _ (pI h2k)
    have e1:=Mr (X:=X) x1 (b:=cZ t (k1 t) 1) (r:=r) (i:=i+(tok (eZ (cZ t (k0 t) 0) (it (k0 t)))).length+1) l3 (fun hb=>⟨by have:=rU.1 hb;have:=La (k1 t);omega,l4 hb⟩) t1 (by
     have e:i+(tok (eZ (cZ t (k0 t) 0) (it (k0 t)))++t.Name::tok (eZ (cZ t (k1 t) 1) (it (k1 t)))).length=i+(tok (eZ (cZ t (k0 t) 0) (it (k0 t)))).length+1+(tok (eZ (cZ t (k1 t) 1) (it (k1 t)))).length:=by simp only[ak,aZ];omega
     rw[e] at hpl;exact hpl)
    have hpos:i+(tok (eZ (cZ t (k0 t) 0) (it (k0 t)))++t.Name::tok (eZ (cZ t (k1 t) 1) (it (k1 t)))).length=i+(tok (eZ (cZ t (k0 t) 0) (it (k0 t)))).length+1+(tok (eZ (cZ t (k1 t) 1) (it (k1 t)))).length:=by simp only[ak,aZ];omega
    rw[hpos]
    have fin:∀c0,c0+1=chain t→cf X (dm X (pE X r)) (ie X) (64-c0) (k0 t) (i+(tok (eZ (cZ t (k0 t) 0) (it (k0 t)))).length)=cf X (dm X (pE X r)) (ie X) (64-chain t) t (i+(tok (eZ (cZ t (k0 t) 0) (it (k0 t)))).length+1+(tok (eZ (cZ t (k1 t) 1) (it (k1 t)))).length):=fun c0 hc=>by
     have e:64-c0=(64-chain t)+1:=by omega
     rw[e,DF pm e1,tN,←heq]
    cases hw:cZ t (k0 t) 0 with
    | true=>
     rw[hw] at t0 fin
     have h0:=xm.1 hw
     rw[if_neg (by omega)] at hc2
     rw[hw] at p3
     rw[Mr (X:=X) x0 (b:=true) (r:=r) (fun _=>l1 hw) (fun h=>by cases h) t0 p3]
     exact fin 0 (by omega)
    | false=>
     rw[hw] at t0 fin p3
     have h0:=rU.1 hw
     have hb:=x0.b r i (l2 hw) t0 (by omega) p3
     have hb':((dm X (pE X r) i).bind fun u j=>cf X (dm X (pE X r)) (ie X) 64 u j)=cf X (dm X (pE X r)) (ie X) (64-(if pw (k0 t)=2 then chain (k0 t) else 0)) (k0 t) (i+(tok (eZ false (it (k0 t)))).length):=hb
     rw[hb']
     refine fin _ ?_
     by_cases h02:pw (k0 t)=2
     ·rw[if_pos h02];rw[if_pos (by omega)] at hc2;omega
     ·rw[if_neg h02];rw[if_neg (by omega)] at hc2;omega
  have C:∀r i,levels t≤r+1→eg X i (tk t)→1≤pw t→ia X (i+(tk t).length)=true→ie X (i+(tk t).length)=false→((fM X (pE X r) i).bind fun u j=>cf X (fM X (pE X r)) (kM X) 64 u j)=cf X (fM X (pE X r)) (kM X) (64-(if pw t=1 then chain t else 0)) t (i+(tk t).length):=fun r i hl ht h1 hpl hml=>by
   by_cases h2:2≤pw t
   ·rw[if_neg (by omega)]
    have e:fM X (pE X r) i=.ok t (i+(tk t).length):=by
     unfold fM
     rw[B r i hl ht h2 hpl]
     exact tY hml _ _
    rw[e];rfl
   ·have hk:t.Kind=4:=by
     have h5:¬(t.Kind=5∨t.Kind=6):=fun h=>by have:=hp.1.2 h;omega
     have h6:t.Kind=4∨t.Kind=5∨t.Kind=6:=Classical.byContradiction fun h=>by have:=hp.2.2 h;omega
     omega
    obtain⟨hop,h2k,heq⟩:=CC hr hk
    obtain⟨l1,l2,l3,l4⟩:=L4 hk r hl
    have hmul:(t.Name.toList==mul.toList)=false:=by
     cases hb:(t.Name.toList==mul.toList) with
     | false=>rfl
     | true=>exfalso;unfold pw at h2;rw[if_neg (by omega),if_pos hk,hb] at h2;simp at h2
    have hc2:=zR hk h2k
    have hpt:pw t=1:=by omega
    rw[if_pos hpt]
    rw[Tm hk h2k] at ht hpl hml⊢
    have t0:=ht.left
    have tN:=ht.right.hd
    have t1:=ht.right.tl
    obtain⟨p3,pn,pm⟩:=Nv tN hop
    rw[hmul] at pm pn
    have x0:=hkd _ (kR h2k)
    have x1:=hkd _ (pI h2k)
    have hpos:i+(tok (eZ (cZ t (k0 t) 0) (it (k0 t)))++t.Name::tok (eZ (cZ t (k1 t) 1) (it (k1 t)))).length=i+(tok (eZ (cZ t (k0 t) 0) (it (k0 t)))).length+1+(tok (eZ (cZ t (k1 t) 1) (it (k1 t)))).length:=by simp only[ak,aZ];omega
    rw[hpos] at hpl hml⊢
    have e1:=RA (X:=X) x1 (b:=cZ t (k1 t) 1) (r:=r) (i:=i+(tok (eZ (cZ t (k0 t) 0) (it (k0 t)))).length+1) l3 (fun hb=>⟨by have:=rU.1 hb;omega,l4 hb⟩) t1 hpl hml
    have fin:∀c0,c0+1=chain t→cf X (fM X (pE X r)) (kM X) (64-c0) (k0 t) (i+(tok (eZ (cZ t (k0 t) 0) (it (k0 t)))).length)=cf X (fM X (pE X r)) (kM X) (64-chain t) t (i+(tok (eZ (cZ t (k0 t) 0) (it (k0 t)))).length+1+(tok (eZ (cZ t (k1 t) 1) (it (k1 t)))).length):=fun c0 hc=>by
     have e:64-c0=(64-chain t)+1:=by omega
     rw[e,DF pm e1,tN,←heq]
    cases hw:cZ t (k0 t) 0 with
    | true=>
     rw[hw] at t0 fin p3 pn
     have h0:=xm.1 hw
     rw[if_neg (by omega)] at hc2
     rw[RA (X:=X) x0 (b:=true) (r:=r) (fun _=>l1 hw) (fun h=>by cases h) t0 p3 pn]
     exact fin 0 (by omega)
    | false=>
     rw[hw] at t0 fin p3 pn
     have h0:=rU.1 hw
     have hb':((fM X (pE X r) i).bind fun u j=>cf X (fM X (pE X r)) (kM X) 64 u j)=cf X (fM X (pE X r)) (kM X) (64-(if pw (k0 t)=1 then chain (k0 t) else 0)) (k0 t) (i+(tok (eZ false (it (k0 t)))).length):=x0.c r i (l2 hw) t0 (by omega) p3 pn
     rw[hb']
     refine fin _ ?_
     by_cases h02:pw (k0 t)=1
     ·rw[if_pos h02];rw[if_pos (by omega)] at hc2;omega
     ·rw[if_neg h02];rw[if_neg (by omega)] at hc2;omega
  refine⟨A,B,C,fun r i hl ht hf=>?_⟩
  show uI X (pE X r) i=_
  unfold uI
  by_cases h1:1≤pw t
  ·obtain⟨s,q,e,hh⟩:=BT _ t (aq _) ho hr
   have hd:X.tx i=s:=by rw[e] at ht;exact ht.hd
   obtain⟨n1,n2⟩:=hh.le (decide_eq_true h1)
   rw[oJ hd n1,if_neg (by decide),oJ hd n2,if_neg (by decide)]
   unfold HE
   rw[C r i hl ht h1 hf.p3 hf.mul]
   exact tY hf.pm _ _
  ·have hk:=hp.1.1 (by omega)
   have h4:t.Kind≠4:=by omega
   have hlv:∀x∈t.Kids,levels x≤r:=fun x hx=>by
    rw[qY h4] at hl
    have:=Ew (gM (f:=levels) hx)
    omega
   have rdS:∀x∈t.Kids,∀j,eg X j (tk x)→I7 X (j+(tk x).length)→pE X r j=.ok x (j+(tk x).length):=fun x hx j hj hfj=>by
    have h1:=ma x
    have h2:=hlv x hx
    obtain⟨q,rfl⟩:∃q,r=q+1:=⟨r-1,by omega⟩
    exact(hkd x hx).d q j h2 hj hfj
   rcases hk with hk | hk
   ·obtain⟨hnm,h2k,heq⟩:=Nb hr hk
    rw[Vf hk h2k] at ht hf⊢
    have hd:=ht.hd
    have tn:=ht.tl.hd
    have te:=ht.tl.tl.hd
    have ta:=ht.tl.tl.tl
    have tw:=ta.right.hd
    have tb:=ta.right.tl
    have hpos:i+(ByteArray.mk #[108,101,116]::t.Name::ByteArray.mk #[61]::(tk (k0 t)++ByteArray.mk #[105,110]::tk (k1 t))).length=i+1+1+1+(tk (k0 t)).length+1+(tk (k1 t)).length:=by simp only[ak,aZ];omega
    rw[hpos] at hf⊢
    rw[if_pos (p5 hd)]
    unfold sZ
    rw[su tn hnm]
    show(cg X _ _).bind _=_
    rw[il te]
    show(pE X r _).bind _=_
    rw[rdS _ (kR h2k) _ ta.left (s9 tw (.inr (.inr (.inr (.inl rfl)))))]
    show(cg X _ _).bind _=_
    rw[il tw]
    show(pE X r _).bind _=_
    rw[rdS _ (pI h2k) _ tb hf]
    show R.ok _ _=_
    rw[←heq]
   ·obtain⟨hnm,h0,h2k,heq⟩:=Na hr hk
    rw[Ve hk h2k] at ht hf⊢
    have hd:=ht.hd
    have tz:=ht.tl.hd
    have tn:=ht.tl.tl.hd
    have te:=ht.tl.tl.tl.hd
    have ta:=ht.tl.tl.tl.tl
    have tw:=ta.right.hd
    have tb:=ta.right.tl
    have hpos:i+(ByteArray.mk #[114,101,112,101,97,116]::gN t.Number::t.Name::ByteArray.mk #[61]::(tk (k0 t)++ByteArray.mk #[119,105,116,104]::tk (k1 t))).length=i+1+1+1+1+(tk (k0 t)).length+1+(tk (k1 t)).length:=by simp only[ak,aZ];omega
    rw[hpos] at hf⊢
    rw[oJ hd (kC (by decide)),if_neg (by decide),if_pos (p5 hd),Lh tz ((l7 t).1 ho).1.1 h0]
    show sZ X _ _ _ _ _=_
    unfold sZ
    rw[su tn hnm]
    show(cg X _ _).bind _=_
    rw[il te]
    show(pE X r _).bind _=_
    rw[rdS _ (kR h2k) _ ta.left (s9 tw (.inr (.inr (.inr (.inr rfl)))))]
    show(cg X _ _).bind _=_
    rw[il tw]
    show(pE X r _).bind _=_
    rw[rdS _ (pI h2k) _ tb hf]
    show R.ok _ _=_
    rw[←heq]
end Go.DN
