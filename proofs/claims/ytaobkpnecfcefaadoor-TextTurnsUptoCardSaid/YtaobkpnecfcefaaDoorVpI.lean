/-
  Text, printing: the plain law: functions, programs; what Print gives.
-/
import Derived.Test.YtaobkpnecfcefaaDoorVpH
set_option linter.unusedVariables false
set_option linter.unusedSimpArgs false
namespace Go.DN
open Go.AM
theorem Tb (g:cJ):1≤mV g:=by unfold mV;omega
theorem Tc (f:br):1≤ox f:=by unfold ox;omega
theorem zC {g:cJ}(h:Fc g):(fO g).length+2≤40*mV g:=by
 have:=ze h
 unfold fO mV nB
 simp only[ak,aZ,dY,cu]
 omega
theorem Qg {f:br}(h:okF f):(od f).length+2≤40*ox f:=by
 have h1:=px (f:=fO) (w:=mV) (c:=[44,32]) (K:=40) (l:=f.cy) fun g hg=>zC (h.1 g hg)
 have h2:=vr h.2
 unfold od ox nB
 simp only[ak,aZ,dY,cu,dG]
 omega
theorem LP {fu:Nat}{f:br}{b:Bool}{d:Int}{m:Bool}{l:List Int}(hf:dG mV f.cy+10<fu) (hw:dG mV f.cy≤Bd) (ho:∀g∈f.cy,Fc g) (h:l.length+40*dG mV f.cy≤140737488355328):
  ∃r,aX (F.gF fu f) fu (0,b,d,m,l)=some r∧R1 (f.cy.all kS) d m (l++sep [44,32] (f.cy.map fO)) r:=by
 have hlen:f.cy.length≤(f.cy.map mV).sum:=rX (w:=mV) Tb f.cy
 have hW:dG mV f.cy=(f.cy.map mV).sum+1:=rfl
 have hwi:∀x∈f.cy,(fO x).length+[44,32].length≤40*mV x:=fun x hx=>zC (ho x hx)
 refine pZ (body:=F.gF fu f) f.cy (fun k s=>(f.cy.take k).all kS=true∧∃b',s=((k:Int),b',d,m,l++sep [44,32] ((f.cy.take k).map fO))) _ ?_ ?_ f.cy.length 0 fu ((0:Nat),b,d,m,l) rfl (cv _) (by omega) ⟨rfl,b,by simp[sep]⟩
 ·rintro k y s hx ⟨hall,b',rfl⟩
  have hkl:=nH hx
  have hsum:=rW (w:=mV) hx
  have hle:=tT (f:=fO) (w:=mV) (c:=[44,32]) (K:=40) (l:=f.cy) k hwi
  have hb1:(l++sep [44,32] ((f.cy.take k).map fO)).length+40*mV y+2≤140737488355328:=by
   simp only[ak]
   omega
  obtain⟨b2,h3⟩:=yH (fu:=fu) (k:=k) (s:=ByteArray.mk #[44,32]) (b:=b') (d:=d) (m:=m) (l:=l++sep [44,32] ((f.cy.take k).map fO)) (by omega) (by show _+2≤_;omega)
  generalize hL:l++sep [44,32] ((f.cy.take k).map fO)=L at hb1 h3⊢
  have hL2:(L++(if 0<k then aH (ByteArray.mk #[44,32]) else[])).length≤L.length+2:=by
   rw[ak];split
   ·show _+2≤_;omega
   ·simp
  simp only[F.gF,dec_lt hx,cond_true,jI hx,aa]
  rw[h3,aa]
  have hnx:l++sep [44,32] ((f.cy.take (k+1)).map fO)=L++(if 0<k then aH (ByteArray.mk #[44,32]) else[])++fO y:=by
   rw[uD fO [44,32] hx,←hL]
   simp only[aA]
   rfl
  generalize hM:L++(if 0<k then aH (ByteArray.mk #[44,32]) else[])=M at hL2 h3 hnx⊢
  have hwy:mV y=y.Name.size+1+dG lR y.nz+1:=rfl
  have hn:=pW (fu:=fu) (s:=y.Name) (b:=b2) (d:=d) (m:=m) (l:=M) (by omega) (by omega) (by omega) (by omega)
  cases hv:nm y.Name with
  | false=>
   rw[hv] at hn
   obtain⟨⟨s1,s2,s3,s4⟩,hn⟩:=hn
   right
   have:f.cy.all kS=false:=all_false hx (by unfold kS;rw[hv];rfl)
   rw[this]
   exact⟨_,by simp only[hn,aD,aa],(s1,s2,s3,s4),rfl⟩
  | true=>
   rw[hv] at hn
   obtain⟨b3,hn⟩:=hn
   simp only[hn,aD,aa]
   have e1:(M++aH y.Name).length=M.length+y.Name.size:=by rw[ak,cu]
   obtain⟨b4,h4⟩:=lj (fu:=fu) (s:=ByteArray.mk #[58,32]) (b:=b3) (d:=d) (m:=m) (l:=M++aH y.Name) (by omega) (by show _+2≤_;omega)
   rw[h4]
   simp only[aa]
   have e2:(M++aH y.Name++aH (ByteArray.mk #[58,32])).length=M.length+y.Name.size+2:=by rw[ak,e1];rfl
   have hs:=E3 (fu:=fu) (sp:=y.nz) (b:=b4) (d:=d) (m:=m) (l:=M++aH y.Name++aH (ByteArray.mk #[58,32])) (by omega) (ho y (mem_of hx)) (by omega) (by omega)
   cases hv2:y.nz.all iG with
   | false=>
    rw[hv2] at hs
    obtain⟨⟨s1,s2,s3,s4⟩,hs⟩:=hs
    right
    have:f.cy.all kS=false:=all_false hx (by unfold kS;rw[hv2,ow])
    rw[this]
    exact⟨_,by simp only[hs,aa],(s1,s2,s3,s4),rfl⟩
   | true=>
    rw[hv2] at hs
    obtain⟨b5,hs⟩:=hs
    left
    refine⟨_,?_,(qf hx).trans (by rw[hall];unfold kS;rw[hv,hv2];rfl),b5,rfl⟩
    simp only[hs,aa]
    have:M++aH y.Name++aH (ByteArray.mk #[58,32])++gH y.nz=M++fO y:=by unfold fO;simp only[aA];rfl
    rw[yU hkl (by omega),hnx,this]
 ·rintro s ⟨hall,b',rfl⟩
  rw[rV] at hall⊢
  rw[hall]
  exact⟨_,by simp only[F.gF,ld,cond_false],b',rfl⟩
theorem Ir {fu:Nat}{f:br}{b:Bool}{m:Bool}{l:List Int}(hf:4*ox f+40<fu) (hw:ox f+10≤Bd) (ho:okF f) (h:l.length+40*ox f≤140737488355328):
  iK (kE f) 0 (m||kZ f) (l++od f) (F.kV fu f b 0 m l):=by
 have hwf:ox f=f.Name.size+1+dG mV f.cy+dN f.Body+1:=rfl
 have hW:dG mV f.cy=(f.cy.map mV).sum+1:=rfl
 have hpos:=jE f.Body
 unfold F.kV
 obtain⟨b1,hp1⟩:=lj (fu:=fu) (s:=ByteArray.mk #[102,110,32]) (b:=b) (d:=0) (m:=m) (l:=l) (by omega) (by show _+3≤_;omega)
 rw[hp1]
 simp only[aa]
 have e1:(l++aH (ByteArray.mk #[102,110,32])).length=l.length+3:=by rw[ak];rfl
 generalize hL1:l++aH (ByteArray.mk #[102,110,32])=L1 at e1⊢
 have hn:=pW (fu:=fu) (s:=f.Name) (b:=b1) (d:=0) (m:=m) (l:=L1) (by omega) (by omega) (by omega) (by omega)
 cases h1:nm f.Name with
 | false=>
  rw[h1] at hn
  obtain⟨⟨s1,s2,s3,s4⟩,hn⟩:=hn
  exact iK.no (by unfold kE;rw[h1];rfl) ⟨(s1,s2,s3,s4),by simp only[hn,aD,aa]⟩
 | true=>
  rw[h1] at hn
  obtain⟨b2,hn⟩:=hn
  simp only[hn,aD,aa]
  have e2:(L1++aH f.Name).length=L1.length+f.Name.size:=by rw[ak,cu]
  generalize hL2:L1++aH f.Name=L2 at e2⊢
  obtain⟨b3,hp3⟩:=lj (fu:=fu) (s:=ByteArray.mk #[40]) (b:=b2) (d:=0) (m:=m) (l:=L2) (by omega) (by show _+1≤_;omega)
  rw[hp3]
  simp only[aa]
  have e3:(L2++aH (ByteArray.mk #[40])).length=L2.length+1:=by rw[ak];rfl
  generalize hL3:L2++aH (ByteArray.mk #[40])=L3 at e3⊢
  obtain⟨r,h2,h3⟩:=LP (fu:=fu) (f:=f) (b:=b3) (d:=0) (m:=m) (l:=L3) (by omega) (by omega) ho.1 (by omega)
  rw[h2]
  cases h4:f.cy.all kS with
  | false=>
   rw[h4] at h3
   obtain⟨⟨s1,s2,s3,s4⟩,rfl⟩:=h3
   exact iK.no (by unfold kE;rw[h1,h4];rfl) ⟨(s1,s2,s3,s4),rfl⟩
  | true=>
   rw[h4] at h3
   obtain⟨b4,rfl⟩:=h3
   simp only[bx]
   have hsl:=px (f:=fO) (w:=mV) (c:=[44,32]) (K:=40) (l:=f.cy) fun g hg=>zC (ho.1 g hg)
   have e4:(L3++sep [44,32] (f.cy.map fO)).length≤L3.length+40*(f.cy.map mV).sum:=by rw[ak];omega
   generalize hL4:L3++sep [44,32] (f.cy.map fO)=L4 at e4⊢
   obtain⟨b5,hp5⟩:=lj (fu:=fu) (s:=ByteArray.mk #[41,32,61,32]) (b:=b4) (d:=0) (m:=m) (l:=L4) (by omega) (by show _+4≤_;omega)
   rw[hp5]
   simp only[aa,AF]
   have e5:(L4++aH (ByteArray.mk #[41,32,61,32])).length=L4.length+4:=by rw[ak];rfl
   generalize hL5:L4++aH (ByteArray.mk #[41,32,61,32])=L5 at e5⊢
   have hx:=Qm ho.2 fu b5 0 m L5 (by omega) (by omega) (by omega)
   have hx:iK (right f.Body) 0 (m||mE f.Body 1) (L5++tx f.Body) (F.cq fu f.Body b5 0 m L5):=hx
   have hmb:mE f.Body 1=kZ f:=by unfold mE kZ;rw[show 1+levels f.Body-1=levels f.Body by omega]
   cases h5:right f.Body with
   | false=>
    rw[h5] at hx
    obtain⟨⟨s1,s2,s3,s4⟩,hx⟩:=hx
    exact iK.no (by unfold kE;rw[h1,h4,h5];rfl) ⟨(s1,s2,s3,s4),by simp only[hx,aa]⟩
   | true=>
    rw[h5,hmb] at hx
    obtain⟨b6,hx⟩:=hx
    simp only[hx,aa]
    have htl:=vr ho.2
    have e6:(L5++tx f.Body).length+10≤L5.length+40*dN f.Body:=by rw[ak];omega
    obtain⟨b7,hp7⟩:=lj (fu:=fu) (s:=ByteArray.mk #[59,10]) (b:=b6) (d:=0) (m:=m||kZ f) (l:=L5++tx f.Body) (by omega) (by show _+2≤_;omega)
    rw[hp7]
    have hg:kE f=true:=by unfold kE;rw[h1,h4,h5];rfl
    rw[hg]
    refine⟨b7,?_⟩
    simp only[aa]
    have:L5++tx f.Body++aH (ByteArray.mk #[59,10])=l++od f:=by rw[←hL5,←hL4,←hL3,←hL2,←hL1];unfold od;simp only[aA];rfl
    rw[this]
def cc (l:List Int):Prop:=∃s,l=aH s
theorem cc.cN {a b:List Int}(ha:cc a) (hb:cc b):cc (a++b):=by
 obtain⟨x,rfl⟩:=ha
 obtain⟨y,rfl⟩:=hb
 exact⟨x++y,(Gb x y).symm⟩
theorem cc.nil:cc []:=⟨ByteArray.mk #[],rfl⟩
theorem cc.dg (n:Int):cc (dg n):=⟨_,rfl⟩
theorem cc.sep {c:List Int}(hc:cc c):∀{l:List (List Int)},(∀x∈l,cc x)→cc (sep c l)
 | [],_=>.nil
 | [x],h=>h x au
 | x::y::r,h=>((h x au).cN hc).cN (cc.sep hc fun z hz=>h z (ap _ hz))
theorem cc.flat:∀{l:List (List Int)},(∀x∈l,cc x)→cc l.flatten
 | [],_=>.nil
 | x::r,h=>by rw[gR];exact(h x au).cN (cc.flat fun z hz=>h z (ap _ hz))
theorem cc.map {α:Type}{f:α→List Int}(h:∀x,cc (f x)) (l:List α):∀x∈l.map f,cc x:=fun x hx=>by obtain⟨y,_,rfl⟩:=jP.1 hx;exact h y
theorem cc.kv (d:bh):cc (kv d):=by unfold DN.kv;split;exact⟨_,rfl⟩;exact⟨_,rfl⟩
theorem cc.gH (l:List bh):cc (gH l):=(cc.cN (cc.cN ⟨ByteArray.mk #[91],rfl⟩ (cc.sep ⟨ByteArray.mk #[32],rfl⟩ (cc.map cc.kv l))) ⟨ByteArray.mk #[93],rfl⟩)
theorem cc.iV (l:List Int):cc (iV l):=(cc.cN (cc.cN ⟨ByteArray.mk #[123],rfl⟩ (cc.sep ⟨ByteArray.mk #[32],rfl⟩ (cc.map cc.dg l))) ⟨ByteArray.mk #[125],rfl⟩)
theorem cc.cD (b:Bool){x:List Int}(h:cc x):cc (cD b x):=by
 cases b
 ·exact h
 ·exact cc.cN (cc.cN ⟨ByteArray.mk #[40],rfl⟩ h) ⟨ByteArray.mk #[41],rfl⟩
theorem cc.getD {l:List (List Int)}(h:∀x∈l,cc x) (i:Nat):cc (l.getD i []):=by
 rw[dZ]
 cases hx:l[i]? with
 | none=>exact .nil
 | some x=>exact h x (aL hx)
theorem cc.tx:∀(n:Nat) (t:ai),dN t≤n→cc (tx t)
 | 0,t,h=>by have:=jE t;omega
 | n+1,t,h=>by
  have hk:∀x∈t.Kids.map DN.tx,cc x:=fun x hx=>by
   obtain⟨y,hy,rfl⟩:=jP.1 hx
   exact cc.tx n y (by have:=oW hy;omega)
  have hnm:cc (aH t.Name):=⟨_,rfl⟩
  rw[tR]
  unfold yK
  split
  ·exact .dg _
  ·split
   ·exact hnm
   ·split
    ·exact((cc.getD hk 0).cD _).cN ((cc.cN (cc.cN ⟨ByteArray.mk #[32],rfl⟩ hnm) ⟨ByteArray.mk #[32],rfl⟩)) |>.cN ((cc.getD hk 1).cD _)
    ·split
     ·exact(((((cc.cN ⟨ByteArray.mk #[108,101,116,32],rfl⟩ hnm).cN ⟨ByteArray.mk #[32,61,32],rfl⟩).cN (cc.getD hk 0)).cN ⟨ByteArray.mk #[32,105,110,32],rfl⟩).cN (cc.getD hk 1))
     ·split
      ·exact(((((((cc.cN ⟨ByteArray.mk #[114,101,112,101,97,116,32],rfl⟩ (.dg _)).cN ⟨ByteArray.mk #[32],rfl⟩).cN hnm).cN ⟨ByteArray.mk #[32,61,32],rfl⟩).cN (cc.getD hk 0)).cN ⟨ByteArray.mk #[32,119,105,116,104,32],rfl⟩).cN (cc.getD hk 1))
      ·refine((((hnm.cN ?_).cN (cc.flat (cc.map cc.iV _))).cN ⟨ByteArray.mk #[40],rfl⟩).cN (cc.sep ⟨ByteArray.mk #[44,32],rfl⟩ hk)).cN ⟨ByteArray.mk #[41],rfl⟩
       cases t.Shaped
       ·exact .nil
       ·exact .gH _
theorem cc.fO (g:cJ):cc (fO g):=(cc.cN (cc.cN ⟨_,rfl⟩ ⟨ByteArray.mk #[58,32],rfl⟩) (.gH _))
theorem cc.od (f:br):cc (od f):=(((((cc.cN ⟨ByteArray.mk #[102,110,32],rfl⟩ ⟨_,rfl⟩).cN ⟨ByteArray.mk #[40],rfl⟩).cN (cc.sep ⟨ByteArray.mk #[44,32],rfl⟩ (cc.map cc.fO _))).cN ⟨ByteArray.mk #[41,32,61,32],rfl⟩).cN (cc.tx _ f.Body (aq _))).cN ⟨ByteArray.mk #[59,10],rfl⟩
theorem cc.jl (p:List br):cc (jl p):=cc.flat (cc.map cc.od p)
def JR (p:List br):Prop:=∀f∈p,okF f
def n8 (p:List br):ByteArray:=strOf (jl p)
theorem Jh (p:List br):aH (n8 p)=jl p:=by
 obtain⟨s,hs⟩:=cc.jl p
 unfold n8
 rw[hs,Hc]
def R4 (g:Bool) (m:Bool) (l:List Int) (e:Ex W4 ((dQ×Bool×Int×Bool×List Int)⊕((Int×Int)×Unit))):Prop:=match g with
 | true=>∃b,e=.cD (b,0,m,l)
 | false=>∃s,e=.ret (.inl (⟨7,0⟩,s))
theorem Jg {fu:Nat}{p:List br}(hf:4*dG ox p+50<fu) (hw:dG ox p≤1048576) (ho:JR p):
  ∃r,aX (F.hZ fu p) fu (0,true,0,false,[])=some r∧R4 (p.all kE) (p.any kZ) (jl p) r:=by
 have hlen:p.length≤(p.map ox).sum:=rX (w:=ox) Tc p
 have hW:dG ox p=(p.map ox).sum+1:=rfl
 refine pZ (body:=F.hZ fu p) p (fun k s=>(p.take k).all kE=true∧∃b',s=((k:Int),b',0,(p.take k).any kZ,jl (p.take k))) _ ?_ ?_ p.length 0 fu ((0:Nat),true,0,false,[]) rfl (cv _) (by omega) ⟨rfl,true,rfl⟩
 ·rintro k y s hx ⟨hall,b',rfl⟩
  have hkl:=nH hx
  have hsum:=rW (w:=ox) hx
  have hle:=w7 (f:=od) (w:=ox) (K:=40) (l:=p.take k) fun z hz=>by have:=Qg (ho z (ov hz));omega
  have hle:(jl (p.take k)).length≤40*((p.take k).map ox).sum:=hle
  simp only[F.hZ,dec_lt hx,cond_true,jI hx,aa,AF]
  have hn:=Ir (fu:=fu) (f:=y) (b:=b') (m:=(p.take k).any kZ) (l:=jl (p.take k)) (by omega) (by simp only[Bd];omega) (ho y (mem_of hx)) (by omega)
  cases hv:kE y with
  | false=>
   rw[hv] at hn
   obtain⟨⟨s1,s2,s3,s4⟩,hn⟩:=hn
   right
   have:p.all kE=false:=all_false hx hv
   rw[this]
   exact⟨_,by simp only[hn,aD,aa],(s1,s2,s3,s4),rfl⟩
  | true=>
   rw[hv] at hn
   obtain⟨b3,hn⟩:=hn
   left
   refine⟨_,?_,(qf hx).trans (by rw[hall,hv];rfl),b3,rfl⟩
   simp only[hn,aD,aa]
   have e1:(p.take (k+1)).any kZ=((p.take k).any kZ||kZ y):=by rw[List.take_add_one,hx];simp
   have e2:jl (p.take (k+1))=jl (p.take k)++od y:=FA od hx
   rw[yU hkl (by simp only[Bd];omega),e1,e2]
 ·rintro s ⟨hall,b',rfl⟩
  rw[rV] at hall⊢
  rw[hall]
  exact⟨_,by simp only[F.hZ,ld,cond_false],b',rfl⟩
def wL (p:List br):ByteArray×Int:=if p.all kE=true then(if p.any kZ=true∨65536<(jl p).length then(ByteArray.mk #[],5) else(n8 p,0)) else(ByteArray.mk #[],7)
theorem Nr {fu:Nat}{p:List br}(hf:4*dG ox p+50<fu) (hw:dG ox p≤1048576) (ho:JR p):F.qL fu p=some (wL p):=by
 obtain⟨r,h1,h2⟩:=Jg hf hw ho
 unfold F.qL F.nW F.mH wL
 simp only[aa]
 rw[h1]
 cases hg:p.all kE with
 | false=>
  rw[hg] at h2
  obtain⟨⟨s1,s2,s3,s4⟩,rfl⟩:=h2
  rfl
 | true=>
  rw[hg] at h2
  obtain⟨b,rfl⟩:=h2
  simp only[bx,aa,GV,if_true]
  cases hm:p.any kZ with
  | true=>
   simp
  | false=>
   have hl:decide (((jl p).length:Int)>65536)=decide (65536<(jl p).length):=by rw[decide_eq_decide];omega
   have hz:((0:Int) !=0)=false:=rfl
   simp only[hz,cond_false,F.nX,aa,aQ,cond_true,hl]
   by_cases h6:65536<(jl p).length
   ·rw[decide_eq_true h6,if_pos (.inr h6)];rfl
   ·rw[decide_eq_false h6,if_neg (by simp[h6])]
    unfold Rz Pj
    have hin:wV (jl p)=true:=by rw[←Jh];exact F2 _
    rw[lN hin]
    rfl
end Go.DN
