/-
  Text, printing: the plain law: the reference's Text, whole.
-/
import Derived.Test.YtmhbeopldeccmaaDoorVrD
set_option linter.unusedVariables false
set_option linter.unusedSimpArgs false
namespace Go.DN
open Go.AM
theorem IE {t:ai}(h:right t=true):(t.Kind=1∨t.Kind=2∨t.Kind=3∨t.Kind=4∨t.Kind=5∨t.Kind=6)∧(t.Kind=1∨t.Kind=6→0≤t.Number)∧(t.Kind=3→t.aE.all nP=true∧(t.Shaped=true→t.Shape.all ga=true)):=by
 rw[kL,ah] at h
 have h:=h.1
 unfold ql at h
 by_cases h1:t.Kind=1
 ·simp[h1] at h⊢;exact h.2.2.1
 by_cases h2:t.Kind=2
 ·simp[h2] at h⊢
 by_cases h4:t.Kind=4
 ·simp[h4] at h⊢
 by_cases h5:t.Kind=5
 ·simp[h5] at h⊢
 by_cases h6:t.Kind=6
 ·simp[h6] at h⊢;exact h.2.2.1
 by_cases h3:t.Kind=3
 ·rw[if_neg h1,if_neg h2,if_neg h4,if_neg h5,if_neg h6,if_pos h3] at h
  simp only[ah] at h
  exact⟨.inr (.inr (.inl h3)),fun h=>by rcases h with h | h <;> omega,fun _=>⟨h.1,fun _=>h.2.2.2.2⟩⟩
 ·simp[h1,h2,h3,h4,h5,h6] at h
theorem Ij {self:ai→Option ByteArray}{fu:Nat}{t:ai}(hf:3<fu) (hw:bD t≤Bd) (ho:oP t) (h2:t.Kids.length=2) (hk:∀x∈t.Kids,self x=some (strOf (tx x))):
  aW (F.gL self fu t) fu (ByteArray.mk #[],0)=some (strOf (qV t)):=by
 obtain⟨fu,rfl⟩:∃u,fu=u+3:=⟨fu-3,by omega⟩
 have hwt:=u7 h2
 have g0:t.Kids[0]?=some (k0 t):=by rw[fD h2];rfl
 have g1:t.Kids[1]?=some (k1 t):=by rw[fD h2];rfl
 have o0:=((nN t).1 ho).2 _ (lx h2)
 have o1:=((nN t).1 ho).2 _ (qs h2)
 have l0:=kl o0
 have l1:=kl o1
 have b0:=GF (b:=jU t (k0 t) 0) o0
 have b1:=GF (b:=jU t (k1 t) 1) o1
 simp only[Bd] at hw
 generalize hB0:bw (jU t (k0 t) 0) (tx (k0 t))=B0 at b0
 generalize hB1:bw (jU t (k1 t) 1) (tx (k1 t))=B1 at b1
 have s0:F.gL self (fu+3) t (ByteArray.mk #[],((0:Nat):Int))=some (.inl (strOf B0,((1:Nat):Int))):=by
  show cond (decide (((0:Nat):Int)<(t.Kids.length:Int))) _ _=_
  rw[dec_lt g0,cond_true,cc g0,bq,gT,hk _ (lx h2),bq,gT,zl g0 (by omega),bq,QO (by omega),bq,hB0]
  show(some (ByteArray.mk #[]):Option ByteArray).bind _=_
  rw[bq,cE (by show 0+_≤_;rw[bK];omega),bq]
  have:ByteArray.mk #[]++strOf B0=strOf B0:=by
   apply iz;simp
  rw[this]
  rfl
 have hS:(strOf B0++(ByteArray.mk #[32])).size=B0.length+1:=by rw[cn,bK];rfl
 have s1:F.gL self (fu+3) t (strOf B0,((1:Nat):Int))=some (.inl (strOf (qV t),((2:Nat):Int))):=by
  show cond (decide (((1:Nat):Int)<(t.Kids.length:Int))) _ _=_
  rw[dec_lt g1,cond_true,cc g1,bq,gT,hk _ (qs h2),bq,gT,zl g1 (by omega),bq,QO (by omega),bq,hB1]
  have e1:(((1:Nat):Int)==1)=true:=rfl
  rw[e1,cond_true,jQ (by rw[bK];omega),bq,cE (by rw[hS];omega),bq,jQ (by rw[cn,hS];omega),bq,bq]
  have hS2:(((strOf B0++(ByteArray.mk #[32]))++t.Name)++(ByteArray.mk #[32])).size=B0.length+1+t.Name.size+1:=by rw[cn,cn,hS];rfl
  rw[cE (by rw[hS2,bK];omega),bq]
  have:(((strOf B0++(ByteArray.mk #[32]))++t.Name)++(ByteArray.mk #[32]))++strOf B1=strOf (qV t):=by
   unfold qV
   rw[hB0,hB1,bz,bz,bz,bz,l9]
   simp only[iD]
   rfl
  rw[this]
  rfl
 have s2:F.gL self (fu+3) t (strOf (qV t),((2:Nat):Int))=some (.inr (strOf (qV t))):=by
  show cond (decide (((2:Nat):Int)<(t.Kids.length:Int))) _ _=_
  rw[h2]
  rfl
 have s0:F.gL self (fu+3) t (ByteArray.mk #[],0)=_:=s0
 simp only[aW]
 rw[s0]
 dsimp only
 rw[s1]
 dsimp only
 rw[s2]
theorem jG {S:ByteArray}{n:Nat}(h:S.size≤n) (T:ByteArray){m:Nat}(hT:T.size≤m):(S++T).size≤n+m:=by rw[cn];omega
theorem J5 {self:ai→Option ByteArray}{fu:Nat}{t:ai}(hf:bD t+50<fu) (hw:bD t≤Bd) (ho:oP t) (hr:right t=true) (hk:∀x∈t.Kids,self x=some (strOf (tx x))):F.lC self fu t=some (strOf (tx t)):=by
 obtain⟨⟨hoN,hoD,hoL⟩,hoK⟩:=(nN t).1 ho
 obtain⟨hkd,hn0,hk3⟩:=IE hr
 have hwt:=lE t
 have htl:=kl ho
 unfold F.lC
 simp only[kE]
 by_cases h1:t.Kind=1
 ·rw[decide_eq_true h1,cond_true,yO hoN (hn0 (.inl h1)) (by omega),bq,o7]
  unfold uh
  rw[if_pos h1,vK]
 rw[decide_eq_false h1,cond_false]
 by_cases h2:t.Kind=2
 ·rw[decide_eq_true h2,cond_true,o7]
  unfold uh
  rw[if_neg h1,if_pos h2,l9]
 rw[decide_eq_false h2,cond_false]
 by_cases h4:t.Kind=4
 ·have h2':=sD hr (.inl h4)
  rw[decide_eq_true h4,cond_true,Ij (by omega) hw ho h2' hk,bq]
  have htx:tx t=qV t:=by
   rw[o7];unfold uh qV;rw[if_neg h1,if_neg h2,if_pos h4]
   rw[fD h2'];rfl
  rw[htx]
 rw[decide_eq_false h4,cond_false]
 by_cases h5:t.Kind=5
 ·have h2':=sD hr (.inr (.inl h5))
  have e:=J0 h2' h5
  have w2:=u7 h2'
  have l0:=kl (hoK _ (lx h2'))
  have l1:=kl (hoK _ (qs h2'))
  simp only[Bd] at hw
  have a1:(ByteArray.mk #[108,101,116,32]++t.Name).size≤4+t.Name.size:=jG (ar 4) _ (ar _)
  have a2:=jG a1 (ByteArray.mk #[32,61,32]) (ar 3)
  have a3:=jG a2 (strOf (tx (k0 t))) (mc (bK _))
  have a4:=jG a3 (ByteArray.mk #[32,105,110,32]) (ar 4)
  rw[decide_eq_true h5,cond_true,cE (by show 4+_≤_;omega),bq,cE (by show _+3≤_;omega),bq,vk h2',bq,xN h2',bq,hk _ (lx h2'),bq,
   cE (by rw[bK];omega),bq,cE (by show _+4≤_;omega),bq,hk _ (qs h2'),bq,cE (by rw[bK];omega),bq,e]
  rw[bz,bz,bz,bz,bz,l9]
  rfl
 rw[decide_eq_false h5,cond_false]
 by_cases h6:t.Kind=6
 ·have h2':=sD hr (.inr (.inr h6))
  have e:=JZ h2' h6
  have w2:=u7 h2'
  have l0:=kl (hoK _ (lx h2'))
  have l1:=kl (hoK _ (qs h2'))
  have hsz:(ph t.Number).size≤20:=by have hl:=mO hoN;unfold dg at hl;rw[bI] at hl;exact hl
  simp only[Bd] at hw
  have a1:(ByteArray.mk #[114,101,112,101,97,116,32]++ph t.Number).size≤7+20:=jG (ar 7) _ hsz
  have a2:=jG a1 (ByteArray.mk #[32]) (ar 1)
  have a3:=jG a2 t.Name (ar _)
  have a4:=jG a3 (ByteArray.mk #[32,61,32]) (ar 3)
  have a5:=jG a4 (strOf (tx (k0 t))) (mc (bK _))
  have a6:=jG a5 (ByteArray.mk #[32,119,105,116,104,32]) (ar 6)
  rw[decide_eq_true h6,cond_true,vk h2',bq,xN h2',bq,yO hoN (hn0 (.inr h6)) (by omega),bq,cE (by show 7+_≤_;omega),bq,cE (by show _+1≤_;omega),bq,
   cE (by omega),bq,cE (by show _+3≤_;omega),bq,hk _ (lx h2'),bq,cE (by rw[bK];omega),bq,cE (by show _+6≤_;omega),bq,hk _ (qs h2'),bq,
   cE (by rw[bK];omega),bq,e]
  rw[bz,bz,bz,bz,bz,bz,bz,l9,vK]
  rfl
 rw[decide_eq_false h6,cond_false]
 have h3:t.Kind=3:=by omega
 obtain⟨hls,hsh⟩:=hk3 h3
 have htx:tx t=aF t.Name++(bif t.Shaped then eL t.Shape else[])++(t.aE.map eK).flatten++[40]++sep [44,32] (t.Kids.map tx)++[41]:=by
  rw[o7];unfold uh;rw[if_neg h1,if_neg h2,if_neg h4,if_neg h5,if_neg h6]
 have hsx:=rM hoD
 have hfl:=pO (f:=eK) (w:=bu cU) (K:=40) (l:=t.aE) fun l hl=>by have:=ri (hoL l hl);omega
 have hLW:bu (bu cU) t.aE=(t.aE.map (bu cU)).sum+1:=rfl
 have hsk:=lj (f:=tx) (w:=bD) (c:=[44,32]) (K:=40) (l:=t.Kids) fun n hn=>by have:=kl (hoK n hn);simp only[bl,bQ];omega
 have e1:(cond t.Shaped
           ((F.fS fu t.Shape).bind fun (r20:ByteArray)=>
           (cj (((t.Name.size+r20.size:Nat):Int)≤9223372036854775807)).bind fun _=>
           some (t.Name++r20))
           (some t.Name):Option ByteArray)=some (strOf (aF t.Name++(bif t.Shaped then eL t.Shape else[]))):=by
  rw[bz,l9]
  cases hs:t.Shaped with
  | true=>
   rw[cond_true,Aw (by omega) (by omega) hoD (hsh hs),bq,cE (by rw[bK];simp only[gM] at hwt;simp only[Bd] at hw;omega),bq]
   rfl
  | false=>
   rw[cond_false]
   congr 1
   apply iz;simp[strOf]
 have hz:(strOf (aF t.Name++(bif t.Shaped then eL t.Shape else[]))).size≤t.Name.size+40*bu dP t.Shape:=by
  rw[bK,al,bI]
  cases t.Shaped <;> simp <;> omega
 rw[e1,bq,htx]
 generalize aF t.Name++(bif t.Shaped then eL t.Shape else[])=P at hz⊢
 rw[bz,bz,bz,bz]
 generalize strOf P=S at hz⊢
 simp only[gM] at hwt
 simp only[Bd] at hw
 have a1:=jG hz (strOf ((t.aE.map eK).flatten)) (mc (bK _))
 have a2:=jG a1 (ByteArray.mk #[40]) (ar 1)
 have a3:=jG a2 (strOf (sep [44,32] (t.Kids.map tx))) (mc (bK _))
 rw[KW (by omega) (by simp only[Bd];omega) hoL hls (by omega),bq,jQ (by omega),bq,M3 (by omega) (by simp only[Bd];omega) hoK hk (by omega),bq,jQ (by omega),bq]
 rfl
theorem EQ:∀(n:Nat) (t:ai),bD t≤n→∀(fu:Nat),bD t+51<fu→bD t≤Bd→oP t→right t=true→F.kR fu t=some (strOf (tx t))
 | 0,t,h,_,_,_,_,_=>by have:=dS t;omega
 | n+1,t,h,fu,hf,hw,ho,hr=>by
  obtain⟨fu,rfl⟩:∃u,fu=u+1:=⟨fu-1,by omega⟩
  show F.lC (F.kR fu) (fu+1) t=_
  exact J5 (by omega) hw ho hr fun x hx=>by
   have:=jy hx
   exact EQ n x (by omega) fu (by omega) (by omega) (((nN t).1 ho).2 _ hx) (xz hr hx)
end Go.DN
