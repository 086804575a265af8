/-
  Text, printing: the plain law: the reference's Right.
-/
import Derived.Test.YtaobkpnecfcefaaDoorVrA
set_option linter.unusedVariables false
set_option linter.unusedSimpArgs false
namespace Go.DN
open Go.AM
theorem rightKids_ok {self:STree→Option Bool}{fu:Nat}{t:STree}(hf:t.Kids.length<fu) (hw:t.Kids.length≤Bd) (hk:∀x∈t.Kids,self x=some (right x)):
  loopF (F.adjointref3_Right_l1 self fu t) fu (false,0)=some (if t.Kids.all right then Ex.brk false else Ex.ret false):=by
 obtain⟨r,h1,h2⟩:=loop_idx (body:=F.adjointref3_Right_l1 self fu t) t.Kids (fun k s=>(t.Kids.take k).all right=true∧s=(false,(k:Int))) (fun r=>r=(if t.Kids.all right then Ex.brk false else Ex.ret false)) (by
  rintro k x s hx ⟨hall,rfl⟩
  have hkl:=get_lt hx
  simp only[F.adjointref3_Right_l1,dec_lt hx,cond_true,idx_nat hx,Option.bind_some,eta_t,hk x (mem_of hx)]
  cases hv:right x with
  | true=>
   left
   exact⟨_,rfl,(all_take hx).trans (by rw[hall,hv];rfl),by rw[wrB hkl hw]⟩
  | false=>
   right
   exact⟨_,rfl,by rw[all_false hx hv];rfl⟩)
  (by
   rintro s ⟨hall,rfl⟩
   rw[take_all] at hall
   exact⟨_,by simp only[F.adjointref3_Right_l1,dec_end,cond_false];rfl,by rw[hall];rfl⟩) t.Kids.length 0 fu (false,((0:Nat):Int)) rfl (Nat.zero_le _) (by omega) ⟨rfl,rfl⟩
 subst h2
 exact h1
theorem rightList_ok {self:STree→Option Bool}{fu:Nat}{x:List Int}(hf:x.length<fu) (hw:x.length≤Bd):
  loopF (F.adjointref3_Right_l2 self fu x) fu (false,0)=some (if nlB x then Ex.brk false else Ex.ret (.inr (.ret false))):=by
 obtain⟨r,h1,h2⟩:=loop_idx (body:=F.adjointref3_Right_l2 self fu x) x (fun k s=>(x.take k).all (fun n=>decide (0≤n))=true∧s=(false,(k:Int))) (fun r=>r=(if nlB x then Ex.brk false else Ex.ret (.inr (.ret false)))) (by
  rintro k y s hx ⟨hall,rfl⟩
  have hkl:=get_lt hx
  simp only[F.adjointref3_Right_l2,dec_lt hx,cond_true,idx_nat hx,Option.bind_some]
  by_cases hv:0≤y
  ·rw[decide_eq_false (show ¬y<0 by omega)]
   left
   exact⟨_,rfl,(all_take hx).trans (by rw[hall,decide_eq_true hv];rfl),by rw[wrB hkl hw]⟩
  ·rw[decide_eq_true (show y<0 by omega)]
   right
   have:nlB x=false:=all_false (p:=fun n=>decide (0≤n)) hx (decide_eq_false hv)
   exact⟨_,rfl,by rw[this];rfl⟩)
  (by
   rintro s ⟨hall,rfl⟩
   rw[take_all] at hall
   have hall:nlB x=true:=hall
   exact⟨_,by simp only[F.adjointref3_Right_l2,dec_end,cond_false];rfl,by rw[hall];rfl⟩) x.length 0 fu (false,((0:Nat):Int)) rfl (Nat.zero_le _) (by omega) ⟨rfl,rfl⟩
 subst h2
 exact h1
theorem rightLists_ok {self:STree→Option Bool}{fu:Nat}{t:STree}(hf:wtL (wtL wtI) t.Lists+1<fu) (hw:wtL (wtL wtI) t.Lists≤Bd):
  loopF (F.adjointref3_Right_l3 self fu t) fu (false,0)=some (if t.Lists.all nlB then Ex.brk () else Ex.ret false):=by
 have hlen:t.Lists.length≤(t.Lists.map (wtL wtI)).sum:=sum_len (w:=wtL wtI) (fun x=>by simp only[wtL];omega) t.Lists
 have hW:wtL (wtL wtI) t.Lists=(t.Lists.map (wtL wtI)).sum+1:=rfl
 obtain⟨r,h1,h2⟩:=loop_idx (body:=F.adjointref3_Right_l3 self fu t) t.Lists (fun k s=>(t.Lists.take k).all nlB=true∧s=(false,(k:Int))) (fun r=>r=(if t.Lists.all nlB then Ex.brk () else Ex.ret false)) (by
  rintro k x s hx ⟨hall,rfl⟩
  have hkl:=get_lt hx
  have hm:=sum_mem (w:=wtL wtI) (mem_of hx)
  have hxl:x.length≤(x.map wtI).sum:=sum_len (w:=wtI) (fun _=>Nat.le_refl _) x
  have hxw:wtL wtI x=(x.map wtI).sum+1:=rfl
  have hl:=rightList_ok (self:=self) (fu:=fu) (x:=x) (by omega) (by omega)
  simp only[F.adjointref3_Right_l3,dec_lt hx,cond_true,idx_nat hx,Option.bind_some]
  rw[hl]
  cases hv:nlB x with
  | true=>
   left
   exact⟨_,rfl,(all_take hx).trans (by rw[hall,hv];rfl),by rw[wrB hkl (by omega)]⟩
  | false=>
   right
   exact⟨_,rfl,by rw[all_false hx hv];rfl⟩)
  (by
   rintro s ⟨hall,rfl⟩
   rw[take_all] at hall
   exact⟨_,by simp only[F.adjointref3_Right_l3,dec_end,cond_false];rfl,by rw[hall];rfl⟩) t.Lists.length 0 fu (false,((0:Nat):Int)) rfl (Nat.zero_le _) (by omega) ⟨rfl,rfl⟩
 subst h2
 exact h1
theorem len_zero {α:Type}(l:List α):((l.length:Int)==0)=l.isEmpty:=by cases l <;> simp <;> omega
theorem right_b_ok {self:STree→Option Bool}{fu:Nat}{t:STree}(hf:wtT t+1<fu) (hw:wtT t≤Bd) (hk:∀x∈t.Kids,self x=some (right x)):F.adjointref3_Right_b self fu t=some (right t):=by
 have hwt:=wt_parts t
 have hkl:t.Kids.length≤(t.Kids.map wtT).sum:=sum_len (w:=wtT) (fun x=>by have:=wtT_pos x;omega) t.Kids
 have e1:=rightKids_ok (self:=self) (fu:=fu) (t:=t) (by omega) (by omega) hk
 have e3:=rightLists_ok (self:=self) (fu:=fu) (t:=t) (by omega) (by omega)
 have en:=isName_okB (s:=t.Name) (fu:=fu) (by simp only[wtS] at hwt;omega) (by simp only[wtS] at hwt;omega)
 have ew:=writable_okR (sp:=t.Shape) (fu:=fu) (by omega) (by omega)
 unfold F.adjointref3_Right_b
 rw[e1,right_eq]
 cases hka:t.Kids.all right with
 | false=>rw[Bool.and_false];rfl
 | true=>
  simp only[if_true,bindE,e3,en,ew]
  clear e1 e3 en ew hwt hkl hk
  obtain⟨k,n,x,sh,sp,ls,ks⟩:=t
  have l0:((ks.length:Int)==0)=decide (ks.length=0):=len_eqd ks 0
  have l2:((ks.length:Int)==2)=decide (ks.length=2):=len_eqd ks 2
  unfold ownB bareB opB
  simp only[em_eq,int_eqd k,l0,l2,len_zero sp,len_zero ls,int_eqd x,pls,mns,mul]
  have hge:decide (x≥0)=decide (0≤x):=rfl
  rw[hge]
  generalize decide (ks.length=0)=g0
  generalize decide (ks.length=2)=g2
  generalize em n=ge
  generalize nm n=gn
  generalize decide (x=0)=gx
  generalize decide (0≤x)=gp
  generalize sp.isEmpty=gs
  generalize ls.isEmpty=gl
  generalize sp.all dimB=gd
  generalize ls.all nlB=gb
  generalize (n.toList==(ByteArray.mk #[43]).toList)=o1
  generalize (n.toList==(ByteArray.mk #[45]).toList)=o2
  generalize (n.toList==(ByteArray.mk #[42]).toList)=o3
  by_cases h1:k=1
  ·subst h1;cases sh <;> cases gs <;> cases gl <;> cases ge <;> cases gp <;> simp
  by_cases h2:k=2
  ·subst h2;cases sh <;> cases gs <;> cases gl <;> cases gn <;> cases gx <;> simp
  by_cases h4:k=4
  ·subst h4;cases sh <;> cases gs <;> cases gl <;> cases o1 <;> cases o2 <;> cases o3 <;> cases gx <;> simp
  by_cases h5:k=5
  ·subst h5;cases sh <;> cases gs <;> cases gl <;> cases gn <;> cases gx <;> simp
  by_cases h6:k=6
  ·subst h6;cases sh <;> cases gs <;> cases gl <;> cases gn <;> cases gp <;> simp
  by_cases h3:k=3
  ·subst h3;cases sh <;> cases gs <;> cases gb <;> cases gn <;> cases gx <;> simp
  ·cases sh <;> cases gs <;> cases gl <;> simp[h1,h2,h3,h4,h5,h6]
theorem right_okR:∀(n:Nat) (t:STree),wtT t≤n→∀(fu:Nat),wtT t+2<fu→wtT t≤Bd→F.adjointref3_Right fu t=some (right t)
 | 0,t,h,_,_,_=>by have:=wtT_pos t;omega
 | n+1,t,h,fu,hf,hw=>by
  obtain⟨fu,rfl⟩:∃u,fu=u+1:=⟨fu-1,by omega⟩
  show F.adjointref3_Right_b (F.adjointref3_Right fu) (fu+1) t=_
  exact right_b_ok (by omega) hw fun x hx=>by
   have:=wtT_kid hx
   exact right_okR n x (by omega) fu (by omega) (by omega)
end Go.DN
