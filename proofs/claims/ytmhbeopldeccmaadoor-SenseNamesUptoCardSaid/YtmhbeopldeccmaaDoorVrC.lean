/-
  Text, printing: the plain law: the reference's Levels, Chain and dK.
-/
import Derived.Test.YtmhbeopldeccmaaDoorVrB
set_option linter.unusedVariables false
set_option linter.unusedSimpArgs false
namespace Go.DN
open Go.AM
theorem O5 {l:List Nat}{n:Nat}(h:∀x∈l,x≤n):iI l≤n:=by
 induction l with
 | nil=>exact cI _
 | cons x r ih=>
  have h1:=h x aC
  have h2:=ih fun y hy=>h y (aw _ hy)
  simp only[iI];omega
theorem KQ (l:List Nat) (x:Nat):iI (l++[x])=max (iI l) x:=by
 induction l with
 | nil=>simp[iI]
 | cons y r ih=>simp only[ca,iI,ih];omega
theorem Dj {l:List Nat}{k:Nat}{x:Nat}(h:l[k]?=some x):iI (l.take (k+1))=max (iI (l.take k)) x:=by
 rw[dD,h];exact KQ _ _
theorem Co (t:ai):∀(j:Nat) (ks:List ai),(su t j ks (ks.map levels)).length=ks.length
 | _,[]=>rfl
 | j,x::r=>by simp only[su,az,bl,Co t (j+1) r]
theorem Cp (t:ai):∀(j k:Nat) (ks:List ai) (x:ai),ks[k]?=some x→(su t j ks (ks.map levels))[k]?=some (Dl t (j+k) x (levels x))
 | _,_,[],x,h=>by simp at h
 | j,0,y::r,x,h=>by simp at h;subst h;rfl
 | j,k+1,y::r,x,h=>by
  simp only[su,az,gZ]
  rw[Cp t (j+1) k r x (by simpa using h)]
  congr 2;omega
theorem O7 {t:ai}{j:Nat}{ks:List ai}{m:Nat}(h:m∈su t j ks (ks.map levels)):∃x∈ks,m≤levels x:=by
 obtain⟨k,hk⟩:=List.mem_iff_getElem?.1 h
 have hl:k<ks.length:=by have:=dR hk;rw[Co] at this;exact this
 have hx:ks[k]?=some ks[k]:=ao hl
 rw[Cp t j k ks _ hx] at hk
 cases hk
 refine⟨_,mem_of hx,?_⟩
 unfold Dl;split <;> omega
theorem wh:∀(n:Nat) (t:ai),bD t≤n→levels t≤bD t
 | 0,t,h=>by have:=dS t;omega
 | n+1,t,h=>by
  rw[pL]
  have h8:=dS t
  have:iI (su t 0 t.Kids (t.Kids.map levels))≤bD t-1:=O5 fun m hm=>by
   obtain⟨x,hx,hl⟩:=O7 hm
   have:=jy hx
   have:=wh n x (by omega)
   omega
  omega
theorem DK:∀(n:Nat) (t:ai),bD t≤n→chain t≤bD t
 | 0,t,h=>by have:=dS t;omega
 | n+1,t,h=>by
  have h8:=dS t
  rw[wM]
  split
  ·split
   ·rw[ei,ak]
    cases hx:t.Kids[0]? with
    | none=>simp;omega
    | some x=>
     have:=jy (mem_of hx)
     have:=DK n x (by omega)
     simp;omega
   ·omega
  ·omega
theorem Fm (a b:Nat):(cond (decide ((a:Int)>(b:Int))) (some (a:Int)) (some (b:Int)):Option Int)=some ((max b a:Nat):Int):=by
 by_cases h:b<a
 ·rw[decide_eq_true (by omega),cond_true];congr 1;omega
 ·rw[decide_eq_false (by omega),cond_false];congr 1;omega
theorem G6 {self:ai→Option Int}{fu:Nat}{t:ai}(hf:bD t+1<fu) (hw:bD t≤Bd) (hk:∀x∈t.Kids,self x=some (levels x:Int)):F.kz self fu t=some (levels t:Int):=by
 have hwt:=lE t
 have hkl:t.Kids.length≤(t.Kids.map bD).sum:=dI (w:=bD) (fun x=>by have:=dS x;omega) t.Kids
 have hL:(su t 0 t.Kids (t.Kids.map levels)).length=t.Kids.length:=Co t 0 t.Kids
 have hlv:=wh _ t (ar _)
 obtain⟨r,h1,h2⟩:=dh (body:=F.ie self fu t) t.Kids (fun k s=>s=(((iI ((su t 0 t.Kids (t.Kids.map levels)).take k):Nat):Int),(k:Int))) (fun r=>r=((iI (su t 0 t.Kids (t.Kids.map levels)):Nat):Int)) (by
  rintro k x s hx rfl
  have hkk:=dR hx
  have hg:=Cp t 0 k t.Kids x hx
  rw[cN] at hg
  have hwx:=jy (mem_of hx)
  have hlx:=wh _ x (ar _)
  have hlp:=oi x
  rw[Dj hg]
  generalize iI ((su t 0 t.Kids (t.Kids.map levels)).take k)=M
  left
  refine⟨_,?_,rfl⟩
  simp only[F.ie,dec_lt hx,cond_true,cc hx,aa,gT,hk x (mem_of hx),zl (fu:=fu) hx (by simp only[Bd] at hw;omega)]
  have e:(cond (t.Kind==4) (some (!(jU t x k))) (some false):Option Bool)=some (decide (t.Kind=4∧jU t x k=false)):=by
   rw[kE]
   by_cases h4:t.Kind=4
   ·rw[decide_eq_true h4]
    cases jU t x k <;> simp[h4]
   ·simp[h4]
  rw[e,aa]
  have e2:(cond (decide (t.Kind=4∧jU t x k=false)) (some (IntKind.wrap .i64 ((levels x:Int)-1))) (some (levels x:Int)):Option Int)=some ((Dl t k x (levels x):Nat):Int):=by
   unfold Dl
   by_cases hq:t.Kind=4∧jU t x k=false
   ·rw[decide_eq_true hq,if_pos hq,cond_true,i64 (by omega) (by simp only[Bd] at hw;omega)]
    congr 1;omega
   ·rw[decide_eq_false hq,if_neg hq,cond_false]
  rw[e2,aa,Fm,aa,mH hkk (by omega)])
  (by
   rintro s rfl
   rw[←hL,kC,hL]
   exact⟨_,by simp only[F.ie,dj,cond_false],rfl⟩) t.Kids.length 0 fu (((0:Nat):Int),((0:Nat):Int)) rfl (cI _) (by omega) rfl
 unfold F.kz
 have h1:aW (F.ie self fu t) fu (0,0)=some r:=h1
 rw[h1,h2,aa]
 rw[pL] at hlv⊢
 simp only[Bd] at hw
 rw[i64 (by omega) (by omega)]
 congr 1;omega
theorem AX:∀(n:Nat) (t:ai),bD t≤n→∀(fu:Nat),bD t+2<fu→bD t≤Bd→F.ig fu t=some (levels t:Int)
 | 0,t,h,_,_,_=>by have:=dS t;omega
 | n+1,t,h,fu,hf,hw=>by
  obtain⟨fu,rfl⟩:∃u,fu=u+1:=⟨fu-1,by omega⟩
  show F.kz (F.ig fu) (fu+1) t=_
  exact G6 (by omega) hw fun x hx=>by
   have:=jy hx
   exact AX n x (by omega) fu (by omega) (by omega)
theorem xz {t x:ai}(h:right t=true) (hx:x∈t.Kids):right x=true:=by
 rw[kL,ah] at h
 exact cu.1 h.2 x hx
theorem sD {t:ai}(h:right t=true) (h4:t.Kind=4∨t.Kind=5∨t.Kind=6):t.Kids.length=2:=by
 rw[kL,ah] at h
 have h:=h.1
 unfold ql at h
 rcases h4 with h4 | h4 | h4 <;> simp[h4] at h <;> exact h.2.2.2
theorem DJ:∀(n:Nat) (t:ai),bD t≤n→∀(fu:Nat),bD t+2<fu→bD t≤Bd→right t=true→F.kj fu t=some (chain t:Int)
 | 0,t,h,_,_,_,_=>by have:=dS t;omega
 | n+1,t,h,fu,hf,hw,hr=>by
  obtain⟨fu,rfl⟩:∃u,fu=u+1:=⟨fu-1,by omega⟩
  show F.nv (F.kj fu) (fu+1) t=_
  unfold F.nv
  rw[vn]
  by_cases h4:t.Kind=4
  ·have h2:=sD hr (.inl h4)
   have hx:=jy (lx h2)
   have hc:=DK _ (k0 t) (ar _)
   have ih:=DJ n (k0 t) (by omega) fu (by omega) (by omega) (xz hr (lx h2))
   rw[DI h4 h2]
   simp only[decide_eq_true h4,dL,cond_false,vk h2,aa,gT,Db,kE,ih]
   by_cases hp:pw (k0 t)=pw t
   ·rw[decide_eq_true (by omega),if_pos hp,cond_true,i64 (by omega) (by simp only[Bd] at hw;omega)]
    congr 1
   ·rw[decide_eq_false (by omega),if_neg hp,cond_false];rfl
  ·rw[wL h4,decide_eq_false h4];rfl
theorem FC {self:ai→Option Int}{fu:Nat}{t:ai}(hf:bD t+2<fu) (hw:bD t≤Bd) (hr:right t=true) (hk:∀x∈t.Kids,self x=some (dK x:Int)):F.j5 self fu t=some (dK t:Int):=by
 have hwt:=lE t
 have hkl:t.Kids.length≤(t.Kids.map bD).sum:=dI (w:=bD) (fun x=>by have:=dS x;omega) t.Kids
 obtain⟨r,h1,h2⟩:=dh (body:=F.gQ self fu t) t.Kids (fun k s=>s=(((max (chain t) (iI ((t.Kids.map dK).take k)):Nat):Int),(k:Int))) (fun r=>r=((max (chain t) (iI (t.Kids.map dK)):Nat):Int)) (by
  rintro k x s hx rfl
  have hkk:=dR hx
  have hg:(t.Kids.map dK)[k]?=some (dK x):=by rw[ak,hx];rfl
  rw[Dj hg,←Nat.max_assoc]
  generalize max (chain t) (iI ((t.Kids.map dK).take k))=M
  left
  refine⟨_,?_,rfl⟩
  simp only[F.gQ,dec_lt hx,cond_true,cc hx,aa,gT,hk x (mem_of hx)]
  rw[Fm,aa,mH hkk (by omega)])
  (by
   rintro s rfl
   rw[←aU (f:=dK),kC,aU]
   exact⟨_,by simp only[F.gQ,dj,cond_false],rfl⟩) t.Kids.length 0 fu (((chain t:Nat):Int),((0:Nat):Int)) rfl (cI _) (by omega) (by simp[iI])
 unfold F.j5
 rw[gT,DJ _ t (ar _) fu hf hw hr,aa]
 have h1:aW (F.gQ self fu t) fu ((chain t:Int),0)=some r:=h1
 rw[h1,h2,aa,qo]
theorem yV:∀(n:Nat) (t:ai),bD t≤n→∀(fu:Nat),bD t+2<fu→bD t≤Bd→right t=true→F.gK fu t=some (dK t:Int)
 | 0,t,h,_,_,_,_=>by have:=dS t;omega
 | n+1,t,h,fu,hf,hw,hr=>by
  obtain⟨fu,rfl⟩:∃u,fu=u+1:=⟨fu-1,by omega⟩
  show F.j5 (F.gK fu) (fu+1) t=_
  exact FC (by omega) hw hr fun x hx=>by
   have:=jy hx
   exact yV n x (by omega) fu (by omega) (by omega) (xz hr hx)
end Go.DN
