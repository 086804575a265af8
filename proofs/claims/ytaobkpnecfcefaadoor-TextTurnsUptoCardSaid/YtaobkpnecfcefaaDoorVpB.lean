/-
  Text, printing: the plain law: how long the text is; small facts.
-/
import Derived.Test.YtaobkpnecfcefaaDoorVpA
set_option linter.unusedVariables false
set_option linter.unusedSimpArgs false
namespace Go.DN
open Go.AM
def yL (d:bh):Prop:=pF d.lG
def TF (t:ai) (ps:List Prop):Prop:=(pF t.Number∧(∀d∈t.Shape,yL d)∧∀l∈t.bC,∀n∈l,pF n)∧∀p∈ps,p
def pD (t:ai):Prop:=fold TF t
theorem l7 (t:ai):pD t↔(pF t.Number∧(∀d∈t.Shape,yL d)∧∀l∈t.bC,∀n∈l,pF n)∧∀k∈t.Kids,pD k:=by
 unfold pD
 rw[fold_eq]
 unfold TF
 refine and_congr_right fun _=>⟨fun h k hk=>h _ (gM hk),fun h p hp=>?_⟩
 obtain⟨k,hk,rfl⟩:=jP.1 hp
 exact h k hk
def Fc (g:cJ):Prop:=∀d∈g.nz,yL d
def okF (f:br):Prop:=(∀g∈f.cy,Fc g)∧pD f.Body
theorem xP:∀(k u:Nat),u<10^(k+1)→Lib.nDigits u≤k+1
 | 0,u,h=>by rw[Lib.nDigits_small (by simpa using h)];omega
 | k+1,u,h=>by
  by_cases hu:u<10
  ·rw[Lib.nDigits_small hu];omega
  ·rw[Lib.nDigits_big hu]
   have:=xP k (u/10) (by rw[Nat.pow_succ] at h;omega)
   omega
theorem uT {n:Int}(h:pF n):(dg n).length≤20:=by
 have h1:(dg n).length=(Lib.itoa n).length:=by unfold dg;rw[cu];rfl
 rw[h1]
 obtain⟨h2,h3⟩:=h
 unfold Lib.itoa
 split
 ·rw[aZ,Lib.decDigits_length]
  have:=xP 18 n.natAbs (by omega)
  omega
 ·rw[Lib.decDigits_length]
  have:=xP 18 n.toNat (by omega)
  omega
theorem px {α:Type}{f:α→List Int}{w:α→Nat}{c:List Int}{K:Nat}:∀{l:List α},(∀x∈l,(f x).length+c.length≤K*w x)→(sep c (l.map f)).length≤K*(l.map w).sum
 | [],_=>cv _
 | [x],h=>by
  have:=h x au
  simp only[aB,eJ,sep,mh,List.sum_nil,dJ]
  omega
 | x::y::r,h=>by
  have h1:=h x au
  have h2:=px (f:=f) (w:=w) (c:=c) (K:=K) (l:=y::r) fun z hz=>h z (ap _ hz)
  simp only[aB,sep,mh,ak] at h2⊢
  rw[qh]
  omega
theorem w7 {α:Type}{f:α→List Int}{w:α→Nat}{K:Nat}:∀{l:List α},(∀x∈l,(f x).length≤K*w x)→((l.map f).flatten).length≤K*(l.map w).sum
 | [],_=>cv _
 | x::r,h=>by
  have h1:=h x au
  have h2:=w7 (f:=f) (w:=w) (K:=K) (l:=r) fun z hz=>h z (ap _ hz)
  simp only[aB,gR,ak,mh]
  rw[qh]
  omega
theorem uD {α:Type}(f:α→List Int) (c:List Int):∀{l:List α}{k:Nat}{x:α},l[k]?=some x→sep c ((l.take (k+1)).map f)=sep c ((l.take k).map f)++(if 0<k then c else[])++f x
 | [],k,x,h=>by simp at h
 | y::r,0,x,h=>by cases h;simp[sep]
 | [y],k+1,x,h=>by simp at h
 | y::z::r,k+1,x,h=>by
  have h':(z::r)[k]?=some x:=by simpa using h
  have ih:=uD f c h'
  cases k with
  | zero=>cases h';simp[sep]
  | succ k=>
   simp only[List.take_succ_cons,aB,sep] at ih⊢
   rw[ih]
   simp[aA]
theorem FA {α:Type}(f:α→List Int){l:List α}{k:Nat}{x:α}(h:l[k]?=some x):((l.take (k+1)).map f).flatten=((l.take k).map f).flatten++f x:=by
 rw[List.take_add_one,h]
 simp
theorem rV {α:Type}(l:List α):l.take l.length=l:=List.take_length
theorem AG {d:bh}(h:yL d):(kv d).length+1≤40*lR d:=by
 unfold kv
 split
 ·have:=uT h;simp only[lR,nB];omega
 ·rw[cu];simp only[lR,nB];omega
theorem ze {l:List bh}(h:∀d∈l,yL d):(gH l).length+38≤40*dG lR l:=by
 have:=px (f:=kv) (w:=lR) (c:=[32]) (K:=40) (l:=l) fun d hd=>AG (h d hd)
 simp only[gH,ak,cY,dG,qh]
 omega
theorem xX {l:List Int}(h:∀n∈l,pF n):(iV l).length+38≤40*dG iH l:=by
 have:=px (f:=dg) (w:=iH) (c:=[32]) (K:=40) (l:=l) fun n hn=>by have:=uT (h n hn);simp only[cY,iH];omega
 simp only[iV,ak,cY,dG,qh]
 omega
theorem EP (b:Bool) (x:List Int):(cD b x).length≤x.length+2:=by
 unfold cD
 cases b
 ·simp
 ·simp only[cond_true,ak,cY];omega
theorem Tl {l:List ai}(h:∀x∈l,(tx x).length+10≤40*dN x):((l.map tx).getD 0 []).length+((l.map tx).getD 1 []).length≤40*(l.map dN).sum:=by
 match l,h with
 | [],_=>simp
 | [x],h=>
  have:=h x au
  simp;omega
 | x::y::r,h=>
  have h1:=h x au
  have h2:=h y (ap _ au)
  simp[qh]
  omega
theorem ML:∀(n:Nat) (t:ai),dN t≤n→pD t→(tx t).length+10≤40*dN t
 | 0,t,h,_=>by have:=jE t;omega
 | n+1,t,h,ho=>by
  obtain⟨⟨o1,o2,o3⟩,o4⟩:=(l7 t).1 ho
  have hk:∀x∈t.Kids,(tx x).length+10≤40*dN x:=fun x hx=>ML n x (by have:=oW hx;omega) (o4 x hx)
  have h2:=Tl hk
  have h3:=px (f:=tx) (w:=dN) (c:=[44,32]) (K:=40) (l:=t.Kids) fun x hx=>by have:=hk x hx;simp only[aZ,dY];omega
  have h4:=ze o2
  have h5:=w7 (f:=iV) (w:=dG iH) (K:=40) (l:=t.bC) fun l hl=>by have:=xX (o3 l hl);omega
  have h6:=uT o1
  have b0:=EP (cZ t (k0 t) 0) ((t.Kids.map tx).getD 0 [])
  have b1:=EP (cZ t (k1 t) 1) ((t.Kids.map tx).getD 1 [])
  rw[tR,yS]
  simp only[D2,nB,qh]
  have e:40*dG (dG iH) t.bC=40*(t.bC.map (dG iH)).sum+40:=by simp only[dG,qh]
  unfold yK
  split
  ·omega
  ·split
   ·rw[cu];omega
   ·split
    ·simp only[ak,cY,cu];omega
    ·split
     ·simp only[ak,aZ,dY,cu];omega
     ·split
      ·simp only[ak,aZ,dY,cu];omega
      ·have:(bif t.Shaped then gH t.Shape else([]:List Int)).length≤(gH t.Shape).length:=by cases t.Shaped <;> simp
       simp only[ak,aZ,dY,cu]
       simp only[dG] at h4 e⊢
       omega
theorem vr {t:ai}(h:pD t):(tx t).length+10≤40*dN t:=ML _ t (aq _) h
end Go.DN
