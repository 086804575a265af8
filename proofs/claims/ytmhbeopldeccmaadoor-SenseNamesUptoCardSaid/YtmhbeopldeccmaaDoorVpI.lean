/-
  Text, printing: the plain law: functions, programs; what Print gives.
-/
import Derived.Test.YtmhbeopldeccmaaDoorVpH
set_option linter.unusedVariables false
set_option linter.unusedSimpArgs false
namespace Go.DN
open Go.AM
theorem JP (g:eT):1≤eO g:=by unfold eO;omega
theorem JQ (f:bB):1≤eI f:=by unfold eI;omega
theorem rU {g:eT}(h:KH g):(dn g).length+2≤40*eO g:=by
 have:=rM h
 unfold dn eO gM
 simp only[al,bl,bQ,bI]
 omega
theorem F4 {f:bB}(h:okF f):(lN f).length+2≤40*eI f:=by
 have h1:=lj (f:=dn) (w:=eO) (c:=[44,32]) (K:=40) (l:=f.aB) fun g hg=>rU (h.1 g hg)
 have h2:=kl h.2
 unfold lN eI gM
 simp only[al,bl,bQ,bI,bu]
 omega
theorem Jg {fu:Nat}{f:bB}{b:Bool}{d:Int}{m:Bool}{l:List Int}(hf:bu eO f.aB+10<fu) (hw:bu eO f.aB≤Bd) (ho:∀g∈f.aB,KH g) (h:l.length+40*bu eO f.aB≤140737488355328):
  ∃r,aW (F.gz fu f) fu (0,b,d,m,l)=some r∧R1 (f.aB.all iK) d m (l++sep [44,32] (f.aB.map dn)) r:=by
 have hlen:f.aB.length≤(f.aB.map eO).sum:=dI (w:=eO) JP f.aB
 have hW:bu eO f.aB=(f.aB.map eO).sum+1:=rfl
 have hwi:∀x∈f.aB,(dn x).length+[44,32].length≤40*eO x:=fun x hx=>rU (ho x hx)
 refine dh (body:=F.gz fu f) f.aB (fun k s=>(f.aB.take k).all iK=true∧∃b',s=((k:Int),b',d,m,l++sep [44,32] ((f.aB.take k).map dn))) _ ?_ ?_ f.aB.length 0 fu ((0:Nat),b,d,m,l) rfl (cI _) (by omega) ⟨rfl,b,by simp[sep]⟩
 ·rintro k y s hx ⟨hall,b',rfl⟩
  have hkl:=dR hx
  have hsum:=jz (w:=eO) hx
  have hle:=lk (f:=dn) (w:=eO) (c:=[44,32]) (K:=40) (l:=f.aB) k hwi
  have hb1:(l++sep [44,32] ((f.aB.take k).map dn)).length+40*eO y+2≤140737488355328:=by
   simp only[al]
   omega
  obtain⟨b2,h3⟩:=wY (fu:=fu) (k:=k) (s:=ByteArray.mk #[44,32]) (b:=b') (d:=d) (m:=m) (l:=l++sep [44,32] ((f.aB.take k).map dn)) (by omega) (by show _+2≤_;omega)
  generalize hL:l++sep [44,32] ((f.aB.take k).map dn)=L at hb1 h3⊢
  have hL2:(L++(if 0<k then aF (ByteArray.mk #[44,32]) else[])).length≤L.length+2:=by
   rw[al];split
   ·show _+2≤_;omega
   ·simp
  simp only[F.gz,dec_lt hx,cond_true,cc hx,aa]
  rw[h3,aa]
  have hnx:l++sep [44,32] ((f.aB.take (k+1)).map dn)=L++(if 0<k then aF (ByteArray.mk #[44,32]) else[])++dn y:=by
   rw[mi dn [44,32] hx,←hL]
   simp only[aL]
   rfl
  generalize hM:L++(if 0<k then aF (ByteArray.mk #[44,32]) else[])=M at hL2 h3 hnx⊢
  have hwy:eO y=y.Name.size+1+bu dP y.cV+1:=rfl
  have hn:=pk (fu:=fu) (s:=y.Name) (b:=b2) (d:=d) (m:=m) (l:=M) (by omega) (by omega) (by omega) (by omega)
  cases hv:nm y.Name with
  | false=>
   rw[hv] at hn
   obtain⟨⟨s1,s2,s3,s4⟩,hn⟩:=hn
   right
   have:f.aB.all iK=false:=all_false hx (by unfold iK;rw[hv];rfl)
   rw[this]
   exact⟨_,by simp only[hn,aV,aa],(s1,s2,s3,s4),rfl⟩
  | true=>
   rw[hv] at hn
   obtain⟨b3,hn⟩:=hn
   simp only[hn,aV,aa]
   have e1:(M++aF y.Name).length=M.length+y.Name.size:=by rw[al,bI]
   obtain⟨b4,h4⟩:=kM (fu:=fu) (s:=ByteArray.mk #[58,32]) (b:=b3) (d:=d) (m:=m) (l:=M++aF y.Name) (by omega) (by show _+2≤_;omega)
   rw[h4]
   simp only[aa]
   have e2:(M++aF y.Name++aF (ByteArray.mk #[58,32])).length=M.length+y.Name.size+2:=by rw[al,e1];rfl
   have hs:=C5 (fu:=fu) (sp:=y.cV) (b:=b4) (d:=d) (m:=m) (l:=M++aF y.Name++aF (ByteArray.mk #[58,32])) (by omega) (ho y (mem_of hx)) (by omega) (by omega)
   cases hv2:y.cV.all ga with
   | false=>
    rw[hv2] at hs
    obtain⟨⟨s1,s2,s3,s4⟩,hs⟩:=hs
    right
    have:f.aB.all iK=false:=all_false hx (by unfold iK;rw[hv2,Bool.and_false])
    rw[this]
    exact⟨_,by simp only[hs,aa],(s1,s2,s3,s4),rfl⟩
   | true=>
    rw[hv2] at hs
    obtain⟨b5,hs⟩:=hs
    left
    refine⟨_,?_,(jC hx).trans (by rw[hall];unfold iK;rw[hv,hv2];rfl),b5,rfl⟩
    simp only[hs,aa]
    have:M++aF y.Name++aF (ByteArray.mk #[58,32])++eL y.cV=M++dn y:=by unfold dn;simp only[aL];rfl
    rw[mH hkl (by omega),hnx,this]
 ·rintro s ⟨hall,b',rfl⟩
  rw[gB] at hall⊢
  rw[hall]
  exact⟨_,by simp only[F.gz,dj,cond_false],b',rfl⟩
theorem F3 {fu:Nat}{f:bB}{b:Bool}{m:Bool}{l:List Int}(hf:4*eI f+40<fu) (hw:eI f+10≤Bd) (ho:okF f) (h:l.length+40*eI f≤140737488355328):
  ix (jj f) 0 (m||jX f) (l++lN f) (F.kn fu f b 0 m l):=by
 have hwf:eI f=f.Name.size+1+bu eO f.aB+bD f.Body+1:=rfl
 have hW:bu eO f.aB=(f.aB.map eO).sum+1:=rfl
 have hpos:=dS f.Body
 unfold F.kn
 obtain⟨b1,hp1⟩:=kM (fu:=fu) (s:=ByteArray.mk #[102,110,32]) (b:=b) (d:=0) (m:=m) (l:=l) (by omega) (by show _+3≤_;omega)
 rw[hp1]
 simp only[aa]
 have e1:(l++aF (ByteArray.mk #[102,110,32])).length=l.length+3:=by rw[al];rfl
 generalize hL1:l++aF (ByteArray.mk #[102,110,32])=L1 at e1⊢
 have hn:=pk (fu:=fu) (s:=f.Name) (b:=b1) (d:=0) (m:=m) (l:=L1) (by omega) (by omega) (by omega) (by omega)
 cases h1:nm f.Name with
 | false=>
  rw[h1] at hn
  obtain⟨⟨s1,s2,s3,s4⟩,hn⟩:=hn
  exact ix.no (by unfold jj;rw[h1];rfl) ⟨(s1,s2,s3,s4),by simp only[hn,aV,aa]⟩
 | true=>
  rw[h1] at hn
  obtain⟨b2,hn⟩:=hn
  simp only[hn,aV,aa]
  have e2:(L1++aF f.Name).length=L1.length+f.Name.size:=by rw[al,bI]
  generalize hL2:L1++aF f.Name=L2 at e2⊢
  obtain⟨b3,hp3⟩:=kM (fu:=fu) (s:=ByteArray.mk #[40]) (b:=b2) (d:=0) (m:=m) (l:=L2) (by omega) (by show _+1≤_;omega)
  rw[hp3]
  simp only[aa]
  have e3:(L2++aF (ByteArray.mk #[40])).length=L2.length+1:=by rw[al];rfl
  generalize hL3:L2++aF (ByteArray.mk #[40])=L3 at e3⊢
  obtain⟨r,h2,h3⟩:=Jg (fu:=fu) (f:=f) (b:=b3) (d:=0) (m:=m) (l:=L3) (by omega) (by omega) ho.1 (by omega)
  rw[h2]
  cases h4:f.aB.all iK with
  | false=>
   rw[h4] at h3
   obtain⟨⟨s1,s2,s3,s4⟩,rfl⟩:=h3
   exact ix.no (by unfold jj;rw[h1,h4];rfl) ⟨(s1,s2,s3,s4),rfl⟩
  | true=>
   rw[h4] at h3
   obtain⟨b4,rfl⟩:=h3
   simp only[br]
   have hsl:=lj (f:=dn) (w:=eO) (c:=[44,32]) (K:=40) (l:=f.aB) fun g hg=>rU (ho.1 g hg)
   have e4:(L3++sep [44,32] (f.aB.map dn)).length≤L3.length+40*(f.aB.map eO).sum:=by rw[al];omega
   generalize hL4:L3++sep [44,32] (f.aB.map dn)=L4 at e4⊢
   obtain⟨b5,hp5⟩:=kM (fu:=fu) (s:=ByteArray.mk #[41,32,61,32]) (b:=b4) (d:=0) (m:=m) (l:=L4) (by omega) (by show _+4≤_;omega)
   rw[hp5]
   simp only[aa,gT]
   have e5:(L4++aF (ByteArray.mk #[41,32,61,32])).length=L4.length+4:=by rw[al];rfl
   generalize hL5:L4++aF (ByteArray.mk #[41,32,61,32])=L5 at e5⊢
   have hx:=Ni ho.2 fu b5 0 m L5 (by omega) (by omega) (by omega)
   have hx:ix (right f.Body) 0 (m||mE f.Body 1) (L5++tx f.Body) (F.cp fu f.Body b5 0 m L5):=hx
   have hmb:mE f.Body 1=jX f:=by unfold mE jX;rw[show 1+levels f.Body-1=levels f.Body by omega]
   cases h5:right f.Body with
   | false=>
    rw[h5] at hx
    obtain⟨⟨s1,s2,s3,s4⟩,hx⟩:=hx
    exact ix.no (by unfold jj;rw[h1,h4,h5];rfl) ⟨(s1,s2,s3,s4),by simp only[hx,aa]⟩
   | true=>
    rw[h5,hmb] at hx
    obtain⟨b6,hx⟩:=hx
    simp only[hx,aa]
    have htl:=kl ho.2
    have e6:(L5++tx f.Body).length+10≤L5.length+40*bD f.Body:=by rw[al];omega
    obtain⟨b7,hp7⟩:=kM (fu:=fu) (s:=ByteArray.mk #[59,10]) (b:=b6) (d:=0) (m:=m||jX f) (l:=L5++tx f.Body) (by omega) (by show _+2≤_;omega)
    rw[hp7]
    have hg:jj f=true:=by unfold jj;rw[h1,h4,h5];rfl
    rw[hg]
    refine⟨b7,?_⟩
    simp only[aa]
    have:L5++tx f.Body++aF (ByteArray.mk #[59,10])=l++lN f:=by rw[←hL5,←hL4,←hL3,←hL2,←hL1];unfold lN;simp only[aL];rfl
    rw[this]
def bZ (l:List Int):Prop:=∃s,l=aF s
theorem bZ.fN {a b:List Int}(ha:bZ a) (hb:bZ b):bZ (a++b):=by
 obtain⟨x,rfl⟩:=ha
 obtain⟨y,rfl⟩:=hb
 exact⟨x++y,(Ea x y).symm⟩
theorem bZ.nil:bZ []:=⟨ByteArray.mk #[],rfl⟩
theorem bZ.dg (n:Int):bZ (dg n):=⟨_,rfl⟩
theorem bZ.sep {c:List Int}(hc:bZ c):∀{l:List (List Int)},(∀x∈l,bZ x)→bZ (sep c l)
 | [],_=>.nil
 | [x],h=>h x aC
 | x::y::r,h=>((h x aC).fN hc).fN (bZ.sep hc fun z hz=>h z (aw _ hz))
theorem bZ.flat:∀{l:List (List Int)},(∀x∈l,bZ x)→bZ l.flatten
 | [],_=>.nil
 | x::r,h=>by rw[List.flatten_cons];exact(h x aC).fN (bZ.flat fun z hz=>h z (aw _ hz))
theorem bZ.map {α:Type}{f:α→List Int}(h:∀x,bZ (f x)) (l:List α):∀x∈l.map f,bZ x:=fun x hx=>by obtain⟨y,_,rfl⟩:=gq.1 hx;exact h y
theorem bZ.fQ (d:iu):bZ (fQ d):=by unfold DN.fQ;split;exact⟨_,rfl⟩;exact⟨_,rfl⟩
theorem bZ.eL (l:List iu):bZ (eL l):=(bZ.fN (bZ.fN ⟨ByteArray.mk #[91],rfl⟩ (bZ.sep ⟨ByteArray.mk #[32],rfl⟩ (bZ.map bZ.fQ l))) ⟨ByteArray.mk #[93],rfl⟩)
theorem bZ.eK (l:List Int):bZ (eK l):=(bZ.fN (bZ.fN ⟨ByteArray.mk #[123],rfl⟩ (bZ.sep ⟨ByteArray.mk #[32],rfl⟩ (bZ.map bZ.dg l))) ⟨ByteArray.mk #[125],rfl⟩)
theorem bZ.bw (b:Bool){x:List Int}(h:bZ x):bZ (bw b x):=by
 cases b
 ·exact h
 ·exact bZ.fN (bZ.fN ⟨ByteArray.mk #[40],rfl⟩ h) ⟨ByteArray.mk #[41],rfl⟩
theorem bZ.getD {l:List (List Int)}(h:∀x∈l,bZ x) (i:Nat):bZ (l.getD i []):=by
 rw[ei]
 cases hx:l[i]? with
 | none=>exact .nil
 | some x=>exact h x (aQ hx)
theorem bZ.tx:∀(n:Nat) (t:ai),bD t≤n→bZ (tx t)
 | 0,t,h=>by have:=dS t;omega
 | n+1,t,h=>by
  have hk:∀x∈t.Kids.map DN.tx,bZ x:=fun x hx=>by
   obtain⟨y,hy,rfl⟩:=gq.1 hx
   exact bZ.tx n y (by have:=jy hy;omega)
  have hnm:bZ (aF t.Name):=⟨_,rfl⟩
  rw[o7]
  unfold uh
  split
  ·exact .dg _
  ·split
   ·exact hnm
   ·split
    ·exact((bZ.getD hk 0).bw _).fN ((bZ.fN (bZ.fN ⟨ByteArray.mk #[32],rfl⟩ hnm) ⟨ByteArray.mk #[32],rfl⟩)) |>.fN ((bZ.getD hk 1).bw _)
    ·split
     ·exact(((((bZ.fN ⟨ByteArray.mk #[108,101,116,32],rfl⟩ hnm).fN ⟨ByteArray.mk #[32,61,32],rfl⟩).fN (bZ.getD hk 0)).fN ⟨ByteArray.mk #[32,105,110,32],rfl⟩).fN (bZ.getD hk 1))
     ·split
      ·exact(((((((bZ.fN ⟨ByteArray.mk #[114,101,112,101,97,116,32],rfl⟩ (.dg _)).fN ⟨ByteArray.mk #[32],rfl⟩).fN hnm).fN ⟨ByteArray.mk #[32,61,32],rfl⟩).fN (bZ.getD hk 0)).fN ⟨ByteArray.mk #[32,119,105,116,104,32],rfl⟩).fN (bZ.getD hk 1))
      ·refine((((hnm.fN ?_).fN (bZ.flat (bZ.map bZ.eK _))).fN ⟨ByteArray.mk #[40],rfl⟩).fN (bZ.sep ⟨ByteArray.mk #[44,32],rfl⟩ hk)).fN ⟨ByteArray.mk #[41],rfl⟩
       cases t.Shaped
       ·exact .nil
       ·exact .eL _
theorem bZ.dn (g:eT):bZ (dn g):=(bZ.fN (bZ.fN ⟨_,rfl⟩ ⟨ByteArray.mk #[58,32],rfl⟩) (.eL _))
theorem bZ.lN (f:bB):bZ (lN f):=(((((bZ.fN ⟨ByteArray.mk #[102,110,32],rfl⟩ ⟨_,rfl⟩).fN ⟨ByteArray.mk #[40],rfl⟩).fN (bZ.sep ⟨ByteArray.mk #[44,32],rfl⟩ (bZ.map bZ.dn _))).fN ⟨ByteArray.mk #[41,32,61,32],rfl⟩).fN (bZ.tx _ f.Body (ar _))).fN ⟨ByteArray.mk #[59,10],rfl⟩
theorem bZ.fJ (p:List bB):bZ (fJ p):=bZ.flat (bZ.map bZ.lN p)
def De (p:List bB):Prop:=∀f∈p,okF f
def II (p:List bB):ByteArray:=strOf (fJ p)
theorem G3 (p:List bB):aF (II p)=fJ p:=by
 obtain⟨s,hs⟩:=bZ.fJ p
 unfold II
 rw[hs,tl]
def R4 (g:Bool) (m:Bool) (l:List Int) (e:Ex W4 ((l4×Bool×Int×Bool×List Int)⊕((Int×Int)×Unit))):Prop:=match g with
 | true=>∃b,e=.bw (b,0,m,l)
 | false=>∃s,e=.ret (.inl (⟨7,0⟩,s))
theorem G2 {fu:Nat}{p:List bB}(hf:4*bu eI p+50<fu) (hw:bu eI p≤1048576) (ho:De p):
  ∃r,aW (F.gN fu p) fu (0,true,0,false,[])=some r∧R4 (p.all jj) (p.any jX) (fJ p) r:=by
 have hlen:p.length≤(p.map eI).sum:=dI (w:=eI) JQ p
 have hW:bu eI p=(p.map eI).sum+1:=rfl
 refine dh (body:=F.gN fu p) p (fun k s=>(p.take k).all jj=true∧∃b',s=((k:Int),b',0,(p.take k).any jX,fJ (p.take k))) _ ?_ ?_ p.length 0 fu ((0:Nat),true,0,false,[]) rfl (cI _) (by omega) ⟨rfl,true,rfl⟩
 ·rintro k y s hx ⟨hall,b',rfl⟩
  have hkl:=dR hx
  have hsum:=jz (w:=eI) hx
  have hle:=pO (f:=lN) (w:=eI) (K:=40) (l:=p.take k) fun z hz=>by have:=F4 (ho z (lh hz));omega
  have hle:(fJ (p.take k)).length≤40*((p.take k).map eI).sum:=hle
  simp only[F.gN,dec_lt hx,cond_true,cc hx,aa,gT]
  have hn:=F3 (fu:=fu) (f:=y) (b:=b') (m:=(p.take k).any jX) (l:=fJ (p.take k)) (by omega) (by simp only[Bd];omega) (ho y (mem_of hx)) (by omega)
  cases hv:jj y with
  | false=>
   rw[hv] at hn
   obtain⟨⟨s1,s2,s3,s4⟩,hn⟩:=hn
   right
   have:p.all jj=false:=all_false hx hv
   rw[this]
   exact⟨_,by simp only[hn,aV,aa],(s1,s2,s3,s4),rfl⟩
  | true=>
   rw[hv] at hn
   obtain⟨b3,hn⟩:=hn
   left
   refine⟨_,?_,(jC hx).trans (by rw[hall,hv];rfl),b3,rfl⟩
   simp only[hn,aV,aa]
   have e1:(p.take (k+1)).any jX=((p.take k).any jX||jX y):=by rw[dD,hx];simp
   have e2:fJ (p.take (k+1))=fJ (p.take k)++lN y:=uG lN hx
   rw[mH hkl (by simp only[Bd];omega),e1,e2]
 ·rintro s ⟨hall,b',rfl⟩
  rw[gB] at hall⊢
  rw[hall]
  exact⟨_,by simp only[F.gN,dj,cond_false],b',rfl⟩
def lq (p:List bB):ByteArray×Int:=if p.all jj=true then(if p.any jX=true∨65536<(fJ p).length then(ByteArray.mk #[],5) else(II p,0)) else(ByteArray.mk #[],7)
theorem KE {fu:Nat}{p:List bB}(hf:4*bu eI p+50<fu) (hw:bu eI p≤1048576) (ho:De p):F.sC fu p=some (lq p):=by
 obtain⟨r,h1,h2⟩:=G2 hf hw ho
 unfold F.sC F.na F.lS lq
 simp only[aa]
 rw[h1]
 cases hg:p.all jj with
 | false=>
  rw[hg] at h2
  obtain⟨⟨s1,s2,s3,s4⟩,rfl⟩:=h2
  rfl
 | true=>
  rw[hg] at h2
  obtain⟨b,rfl⟩:=h2
  simp only[br,aa,N1,if_true]
  cases hm:p.any jX with
  | true=>
   simp
  | false=>
   have hl:decide (((fJ p).length:Int)>65536)=decide (65536<(fJ p).length):=by rw[decide_eq_decide];omega
   have hz:((0:Int) !=0)=false:=rfl
   simp only[hz,cond_false,F.nb,aa,aK,cond_true,hl]
   by_cases h6:65536<(fJ p).length
   ·rw[decide_eq_true h6,if_pos (.inr h6)];rfl
   ·rw[decide_eq_false h6,if_neg (by simp[h6])]
    unfold Ou Ml
    have hin:vo (fJ p)=true:=by rw[←G3];exact D5 _
    rw[ou hin]
    rfl
end Go.DN
