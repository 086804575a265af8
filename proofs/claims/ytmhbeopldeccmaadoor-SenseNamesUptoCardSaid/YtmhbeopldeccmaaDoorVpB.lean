/-
  Text, printing: the plain law: how long the text is; small facts.
-/
import Derived.Test.YtmhbeopldeccmaaDoorVpA
set_option linter.unusedVariables false
set_option linter.unusedSimpArgs false
namespace Go.DN
open Go.AM
def AJ (d:iu):Prop:=ss d.iW
def Qc (t:ai) (ps:List Prop):Prop:=(ss t.Number∧(∀d∈t.Shape,AJ d)∧∀l∈t.aE,∀n∈l,ss n)∧∀p∈ps,p
def oP (t:ai):Prop:=fold Qc t
theorem nN (t:ai):oP t↔(ss t.Number∧(∀d∈t.Shape,AJ d)∧∀l∈t.aE,∀n∈l,ss n)∧∀k∈t.Kids,oP k:=by
 unfold oP
 rw[fold_eq]
 unfold Qc
 refine and_congr_right fun _=>⟨fun h k hk=>h _ (iY hk),fun h p hp=>?_⟩
 obtain⟨k,hk,rfl⟩:=gq.1 hp
 exact h k hk
def KH (g:eT):Prop:=∀d∈g.cV,AJ d
def okF (f:bB):Prop:=(∀g∈f.aB,KH g)∧oP f.Body
theorem sH:∀(k u:Nat),u<10^(k+1)→Lib.nDigits u≤k+1
 | 0,u,h=>by rw[Lib.nDigits_small (by simpa using h)];omega
 | k+1,u,h=>by
  by_cases hu:u<10
  ·rw[Lib.nDigits_small hu];omega
  ·rw[Lib.nDigits_big hu]
   have:=sH k (u/10) (by rw[Nat.pow_succ] at h;omega)
   omega
theorem mO {n:Int}(h:ss n):(dg n).length≤20:=by
 have h1:(dg n).length=(Lib.itoa n).length:=by unfold dg;rw[bI];rfl
 rw[h1]
 obtain⟨h2,h3⟩:=h
 unfold Lib.itoa
 split
 ·rw[bl,Lib.decDigits_length]
  have:=sH 18 n.natAbs (by omega)
  omega
 ·rw[Lib.decDigits_length]
  have:=sH 18 n.toNat (by omega)
  omega
theorem lj {α:Type}{f:α→List Int}{w:α→Nat}{c:List Int}{K:Nat}:∀{l:List α},(∀x∈l,(f x).length+c.length≤K*w x)→(sep c (l.map f)).length≤K*(l.map w).sum
 | [],_=>cI _
 | [x],h=>by
  have:=h x aC
  simp only[az,dE,sep,iy,List.sum_nil,fG]
  omega
 | x::y::r,h=>by
  have h1:=h x aC
  have h2:=lj (f:=f) (w:=w) (c:=c) (K:=K) (l:=y::r) fun z hz=>h z (aw _ hz)
  simp only[az,sep,iy,al] at h2⊢
  rw[pD]
  omega
theorem pO {α:Type}{f:α→List Int}{w:α→Nat}{K:Nat}:∀{l:List α},(∀x∈l,(f x).length≤K*w x)→((l.map f).flatten).length≤K*(l.map w).sum
 | [],_=>cI _
 | x::r,h=>by
  have h1:=h x aC
  have h2:=pO (f:=f) (w:=w) (K:=K) (l:=r) fun z hz=>h z (aw _ hz)
  simp only[az,List.flatten_cons,al,iy]
  rw[pD]
  omega
theorem mi {α:Type}(f:α→List Int) (c:List Int):∀{l:List α}{k:Nat}{x:α},l[k]?=some x→sep c ((l.take (k+1)).map f)=sep c ((l.take k).map f)++(if 0<k then c else[])++f x
 | [],k,x,h=>by simp at h
 | y::r,0,x,h=>by cases h;simp[sep]
 | [y],k+1,x,h=>by simp at h
 | y::z::r,k+1,x,h=>by
  have h':(z::r)[k]?=some x:=by simpa using h
  have ih:=mi f c h'
  cases k with
  | zero=>cases h';simp[sep]
  | succ k=>
   simp only[List.take_succ_cons,az,sep] at ih⊢
   rw[ih]
   simp[aL]
theorem uG {α:Type}(f:α→List Int){l:List α}{k:Nat}{x:α}(h:l[k]?=some x):((l.take (k+1)).map f).flatten=((l.take k).map f).flatten++f x:=by
 rw[dD,h]
 simp
theorem gB {α:Type}(l:List α):l.take l.length=l:=kC
theorem rp {d:iu}(h:AJ d):(fQ d).length+1≤40*dP d:=by
 unfold fQ
 split
 ·have:=mO h;simp only[dP,gM];omega
 ·rw[bI];simp only[dP,gM];omega
theorem rM {l:List iu}(h:∀d∈l,AJ d):(eL l).length+38≤40*bu dP l:=by
 have:=lj (f:=fQ) (w:=dP) (c:=[32]) (K:=40) (l:=l) fun d hd=>rp (h d hd)
 simp only[eL,al,dl,bu,pD]
 omega
theorem ri {l:List Int}(h:∀n∈l,ss n):(eK l).length+38≤40*bu cU l:=by
 have:=lj (f:=dg) (w:=cU) (c:=[32]) (K:=40) (l:=l) fun n hn=>by have:=mO (h n hn);simp only[dl,cU];omega
 simp only[eK,al,dl,bu,pD]
 omega
theorem CL (b:Bool) (x:List Int):(bw b x).length≤x.length+2:=by
 unfold bw
 cases b
 ·simp
 ·simp only[cond_true,al,dl];omega
theorem PS {l:List ai}(h:∀x∈l,(tx x).length+10≤40*bD x):((l.map tx).getD 0 []).length+((l.map tx).getD 1 []).length≤40*(l.map bD).sum:=by
 match l,h with
 | [],_=>simp
 | [x],h=>
  have:=h x aC
  simp;omega
 | x::y::r,h=>
  have h1:=h x aC
  have h2:=h y (aw _ aC)
  simp[pD]
  omega
theorem J1:∀(n:Nat) (t:ai),bD t≤n→oP t→(tx t).length+10≤40*bD t
 | 0,t,h,_=>by have:=dS t;omega
 | n+1,t,h,ho=>by
  obtain⟨⟨o1,o2,o3⟩,o4⟩:=(nN t).1 ho
  have hk:∀x∈t.Kids,(tx x).length+10≤40*bD x:=fun x hx=>J1 n x (by have:=jy hx;omega) (o4 x hx)
  have h2:=PS hk
  have h3:=lj (f:=tx) (w:=bD) (c:=[44,32]) (K:=40) (l:=t.Kids) fun x hx=>by have:=hk x hx;simp only[bl,bQ];omega
  have h4:=rM o2
  have h5:=pO (f:=eK) (w:=bu cU) (K:=40) (l:=t.aE) fun l hl=>by have:=ri (o3 l hl);omega
  have h6:=mO o1
  have b0:=CL (jU t (k0 t) 0) ((t.Kids.map tx).getD 0 [])
  have b1:=CL (jU t (k1 t) 1) ((t.Kids.map tx).getD 1 [])
  rw[o7,xf]
  simp only[BW,gM,pD]
  have e:40*bu (bu cU) t.aE=40*(t.aE.map (bu cU)).sum+40:=by simp only[bu,pD]
  unfold uh
  split
  ·omega
  ·split
   ·rw[bI];omega
   ·split
    ·simp only[al,dl,bI];omega
    ·split
     ·simp only[al,bl,bQ,bI];omega
     ·split
      ·simp only[al,bl,bQ,bI];omega
      ·have:(bif t.Shaped then eL t.Shape else([]:List Int)).length≤(eL t.Shape).length:=by cases t.Shaped <;> simp
       simp only[al,bl,bQ,bI]
       simp only[bu] at h4 e⊢
       omega
theorem kl {t:ai}(h:oP t):(tx t).length+10≤40*bD t:=J1 _ t (ar _) h
end Go.DN
