/-
  Text, printing: the plain law: the reference's Right.
-/
import Derived.Test.YtmhbeopldeccmaaDoorVrA
set_option linter.unusedVariables false
set_option linter.unusedSimpArgs false
namespace Go.DN
open Go.AM
theorem Fb {self:ai→Option Bool}{fu:Nat}{t:ai}(hf:t.Kids.length<fu) (hw:t.Kids.length≤Bd) (hk:∀x∈t.Kids,self x=some (right x)):
  aW (F.iV self fu t) fu (false,0)=some (if t.Kids.all right then Ex.bw false else Ex.ret false):=by
 obtain⟨r,h1,h2⟩:=dh (body:=F.iV self fu t) t.Kids (fun k s=>(t.Kids.take k).all right=true∧s=(false,(k:Int))) (fun r=>r=(if t.Kids.all right then Ex.bw false else Ex.ret false)) (by
  rintro k x s hx ⟨hall,rfl⟩
  have hkl:=dR hx
  simp only[F.iV,dec_lt hx,cond_true,cc hx,aa,gT,hk x (mem_of hx)]
  cases hv:right x with
  | true=>
   left
   exact⟨_,rfl,(jC hx).trans (by rw[hall,hv];rfl),by rw[mH hkl hw]⟩
  | false=>
   right
   exact⟨_,rfl,by rw[all_false hx hv];rfl⟩)
  (by
   rintro s ⟨hall,rfl⟩
   rw[gB] at hall
   exact⟨_,by simp only[F.iV,dj,cond_false];rfl,by rw[hall];rfl⟩) t.Kids.length 0 fu (false,((0:Nat):Int)) rfl (cI _) (by omega) ⟨rfl,rfl⟩
 subst h2
 exact h1
theorem Fa {self:ai→Option Bool}{fu:Nat}{x:List Int}(hf:x.length<fu) (hw:x.length≤Bd):
  aW (F.iU self fu x) fu (false,0)=some (if nP x then Ex.bw false else Ex.ret (.inr (.ret false))):=by
 obtain⟨r,h1,h2⟩:=dh (body:=F.iU self fu x) x (fun k s=>(x.take k).all (fun n=>decide (0≤n))=true∧s=(false,(k:Int))) (fun r=>r=(if nP x then Ex.bw false else Ex.ret (.inr (.ret false)))) (by
  rintro k y s hx ⟨hall,rfl⟩
  have hkl:=dR hx
  simp only[F.iU,dec_lt hx,cond_true,cc hx,aa]
  by_cases hv:0≤y
  ·rw[decide_eq_false (show ¬y<0 by omega)]
   left
   exact⟨_,rfl,(jC hx).trans (by rw[hall,decide_eq_true hv];rfl),by rw[mH hkl hw]⟩
  ·rw[decide_eq_true (show y<0 by omega)]
   right
   have:nP x=false:=all_false (p:=fun n=>decide (0≤n)) hx (decide_eq_false hv)
   exact⟨_,rfl,by rw[this];rfl⟩)
  (by
   rintro s ⟨hall,rfl⟩
   rw[gB] at hall
   have hall:nP x=true:=hall
   exact⟨_,by simp only[F.iU,dj,cond_false];rfl,by rw[hall];rfl⟩) x.length 0 fu (false,((0:Nat):Int)) rfl (cI _) (by omega) ⟨rfl,rfl⟩
 subst h2
 exact h1
theorem D2 {self:ai→Option Bool}{fu:Nat}{t:ai}(hf:bu (bu cU) t.aE+1<fu) (hw:bu (bu cU) t.aE≤Bd):
  aW (F.iT self fu t) fu (false,0)=some (if t.aE.all nP then Ex.bw () else Ex.ret false):=by
 have hlen:t.aE.length≤(t.aE.map (bu cU)).sum:=dI (w:=bu cU) (fun x=>by simp only[bu];omega) t.aE
 have hW:bu (bu cU) t.aE=(t.aE.map (bu cU)).sum+1:=rfl
 obtain⟨r,h1,h2⟩:=dh (body:=F.iT self fu t) t.aE (fun k s=>(t.aE.take k).all nP=true∧s=(false,(k:Int))) (fun r=>r=(if t.aE.all nP then Ex.bw () else Ex.ret false)) (by
  rintro k x s hx ⟨hall,rfl⟩
  have hkl:=dR hx
  have hm:=pE (w:=bu cU) (mem_of hx)
  have hxl:x.length≤(x.map cU).sum:=dI (w:=cU) (fun _=>ar _) x
  have hxw:bu cU x=(x.map cU).sum+1:=rfl
  have hl:=Fa (self:=self) (fu:=fu) (x:=x) (by omega) (by omega)
  simp only[F.iT,dec_lt hx,cond_true,cc hx,aa]
  rw[hl]
  cases hv:nP x with
  | true=>
   left
   exact⟨_,rfl,(jC hx).trans (by rw[hall,hv];rfl),by rw[mH hkl (by omega)]⟩
  | false=>
   right
   exact⟨_,rfl,by rw[all_false hx hv];rfl⟩)
  (by
   rintro s ⟨hall,rfl⟩
   rw[gB] at hall
   exact⟨_,by simp only[F.iT,dj,cond_false];rfl,by rw[hall];rfl⟩) t.aE.length 0 fu (false,((0:Nat):Int)) rfl (cI _) (by omega) ⟨rfl,rfl⟩
 subst h2
 exact h1
theorem FL {α:Type}(l:List α):((l.length:Int)==0)=l.isEmpty:=by cases l <;> simp <;> omega
theorem IF {self:ai→Option Bool}{fu:Nat}{t:ai}(hf:bD t+1<fu) (hw:bD t≤Bd) (hk:∀x∈t.Kids,self x=some (right x)):F.k6 self fu t=some (right t):=by
 have hwt:=lE t
 have hkl:t.Kids.length≤(t.Kids.map bD).sum:=dI (w:=bD) (fun x=>by have:=dS x;omega) t.Kids
 have e1:=Fb (self:=self) (fu:=fu) (t:=t) (by omega) (by omega) hk
 have e3:=D2 (self:=self) (fu:=fu) (t:=t) (by omega) (by omega)
 have en:=sL (s:=t.Name) (fu:=fu) (by simp only[gM] at hwt;omega) (by simp only[gM] at hwt;omega)
 have ew:=xg (sp:=t.Shape) (fu:=fu) (by omega) (by omega)
 unfold F.k6
 rw[e1,kL]
 cases hka:t.Kids.all right with
 | false=>rw[Bool.and_false];rfl
 | true=>
  simp only[if_true,br,e3,en,ew]
  clear e1 e3 en ew hwt hkl hk
  obtain⟨k,n,x,sh,sp,ls,ks⟩:=t
  have l0:((ks.length:Int)==0)=decide (ks.length=0):=yI ks 0
  have l2:((ks.length:Int)==2)=decide (ks.length=2):=yI ks 2
  unfold ql ox Dd
  simp only[Bn,kE k,l0,l2,FL sp,FL ls,kE x,P8,Qn,mul]
  have hge:decide (x≥0)=decide (0≤x):=rfl
  rw[hge]
  generalize decide (ks.length=0)=g0
  generalize decide (ks.length=2)=g2
  generalize em n=ge
  generalize nm n=gn
  generalize decide (x=0)=gx
  generalize decide (0≤x)=gp
  generalize sp.isEmpty=gs
  generalize ls.isEmpty=gl
  generalize sp.all ga=gd
  generalize ls.all nP=gb
  generalize (n.toList==(ByteArray.mk #[43]).toList)=o1
  generalize (n.toList==(ByteArray.mk #[45]).toList)=o2
  generalize (n.toList==(ByteArray.mk #[42]).toList)=o3
  by_cases h1:k=1
  ·subst h1;cases sh <;> cases gs <;> cases gl <;> cases ge <;> cases gp <;> simp
  by_cases h2:k=2
  ·subst h2;cases sh <;> cases gs <;> cases gl <;> cases gn <;> cases gx <;> simp
  by_cases h4:k=4
  ·subst h4;cases sh <;> cases gs <;> cases gl <;> cases o1 <;> cases o2 <;> cases o3 <;> cases gx <;> simp
  by_cases h5:k=5
  ·subst h5;cases sh <;> cases gs <;> cases gl <;> cases gn <;> cases gx <;> simp
  by_cases h6:k=6
  ·subst h6;cases sh <;> cases gs <;> cases gl <;> cases gn <;> cases gp <;> simp
  by_cases h3:k=3
  ·subst h3;cases sh <;> cases gs <;> cases gb <;> cases gn <;> cases gx <;> simp
  ·cases sh <;> cases gs <;> cases gl <;> simp[h1,h2,h3,h4,h5,h6]
theorem C9:∀(n:Nat) (t:ai),bD t≤n→∀(fu:Nat),bD t+2<fu→bD t≤Bd→F.jc fu t=some (right t)
 | 0,t,h,_,_,_=>by have:=dS t;omega
 | n+1,t,h,fu,hf,hw=>by
  obtain⟨fu,rfl⟩:∃u,fu=u+1:=⟨fu-1,by omega⟩
  show F.k6 (F.jc fu) (fu+1) t=_
  exact IF (by omega) hw fun x hx=>by
   have:=jy hx
   exact C9 n x (by omega) fu (by omega) (by omega)
end Go.DN
