/-
  Text, printing: the plain law: the reference's Text, whole.
-/
import Derived.Test.YtaobkpnecfcefaaDoorVrD
set_option linter.unusedVariables false
set_option linter.unusedSimpArgs false
namespace Go.DN
open Go.AM
theorem right_name {t:STree}(h:right t=true):(t.Kind=1∨t.Kind=2∨t.Kind=3∨t.Kind=4∨t.Kind=5∨t.Kind=6)∧(t.Kind=1∨t.Kind=6→0≤t.Number)∧(t.Kind=3→t.Lists.all nlB=true∧(t.Shaped=true→t.Shape.all dimB=true)):=by
 rw[right_eq,Bool.and_eq_true] at h
 have h:=h.1
 unfold ownB at h
 by_cases h1:t.Kind=1
 ·simp[h1] at h⊢;exact h.2.2.1
 by_cases h2:t.Kind=2
 ·simp[h2] at h⊢
 by_cases h4:t.Kind=4
 ·simp[h4] at h⊢
 by_cases h5:t.Kind=5
 ·simp[h5] at h⊢
 by_cases h6:t.Kind=6
 ·simp[h6] at h⊢;exact h.2.2.1
 by_cases h3:t.Kind=3
 ·rw[if_neg h1,if_neg h2,if_neg h4,if_neg h5,if_neg h6,if_pos h3] at h
  simp only[Bool.and_eq_true] at h
  exact⟨.inr (.inr (.inl h3)),fun h=>by rcases h with h | h <;> omega,fun _=>⟨h.1,fun _=>h.2.2.2.2⟩⟩
 ·simp[h1,h2,h3,h4,h5,h6] at h
theorem textTwo_ok {self:STree→Option ByteArray}{fu:Nat}{t:STree}(hf:3<fu) (hw:wtT t≤Bd) (ho:okT t) (h2:t.Kids.length=2) (hk:∀x∈t.Kids,self x=some (strOf (tx x))):
  loopF (F.adjointref3_Text_l1 self fu t) fu (ByteArray.mk #[],0)=some (strOf (twoX t)):=by
 obtain⟨fu,rfl⟩:∃u,fu=u+3:=⟨fu-3,by omega⟩
 have hwt:=wt_two h2
 have g0:t.Kids[0]?=some (k0 t):=by rw[two_kids h2];rfl
 have g1:t.Kids[1]?=some (k1 t):=by rw[two_kids h2];rfl
 have o0:=((okT_eq t).1 ho).2 _ (k0_mem h2)
 have o1:=((okT_eq t).1 ho).2 _ (k1_mem h2)
 have l0:=tx_le o0
 have l1:=tx_le o1
 have b0:=brk_le (b:=weakB t (k0 t) 0) o0
 have b1:=brk_le (b:=weakB t (k1 t) 1) o1
 simp only[Bd] at hw
 generalize hB0:brk (weakB t (k0 t) 0) (tx (k0 t))=B0 at b0
 generalize hB1:brk (weakB t (k1 t) 1) (tx (k1 t))=B1 at b1
 have s0:F.adjointref3_Text_l1 self (fu+3) t (ByteArray.mk #[],((0:Nat):Int))=some (.inl (strOf B0,((1:Nat):Int))):=by
  show cond (decide (((0:Nat):Int)<(t.Kids.length:Int))) _ _=_
  rw[dec_lt g0,cond_true,idx_nat g0,bindS,eta_t,hk _ (k0_mem h2),bindS,eta_t,weak_okR g0 (by omega),bindS,brkR (by omega),bindS,hB0]
  show(some (ByteArray.mk #[]):Option ByteArray).bind _=_
  rw[bindS,app_chkS (by show 0+_≤_;rw[strOf_size];omega),bindS]
  have:ByteArray.mk #[]++strOf B0=strOf B0:=by
   apply ByteArray.ext;simp
  rw[this]
  rfl
 have hS:(strOf B0++(ByteArray.mk #[32])).size=B0.length+1:=by rw[ByteArray.size_append,strOf_size];rfl
 have s1:F.adjointref3_Text_l1 self (fu+3) t (strOf B0,((1:Nat):Int))=some (.inl (strOf (twoX t),((2:Nat):Int))):=by
  show cond (decide (((1:Nat):Int)<(t.Kids.length:Int))) _ _=_
  rw[dec_lt g1,cond_true,idx_nat g1,bindS,eta_t,hk _ (k1_mem h2),bindS,eta_t,weak_okR g1 (by omega),bindS,brkR (by omega),bindS,hB1]
  have e1:(((1:Nat):Int)==1)=true:=rfl
  rw[e1,cond_true,app_chkS1 (by rw[strOf_size];omega),bindS,app_chkS (by rw[hS];omega),bindS,app_chkS1 (by rw[ByteArray.size_append,hS];omega),bindS,bindS]
  have hS2:(((strOf B0++(ByteArray.mk #[32]))++t.Name)++(ByteArray.mk #[32])).size=B0.length+1+t.Name.size+1:=by rw[ByteArray.size_append,ByteArray.size_append,hS];rfl
  rw[app_chkS (by rw[hS2,strOf_size];omega),bindS]
  have:(((strOf B0++(ByteArray.mk #[32]))++t.Name)++(ByteArray.mk #[32]))++strOf B1=strOf (twoX t):=by
   unfold twoX
   rw[hB0,hB1,strOf_app,strOf_app,strOf_app,strOf_app,strOf_str]
   simp only[ByteArray.append_assoc]
   rfl
  rw[this]
  rfl
 have s2:F.adjointref3_Text_l1 self (fu+3) t (strOf (twoX t),((2:Nat):Int))=some (.inr (strOf (twoX t))):=by
  show cond (decide (((2:Nat):Int)<(t.Kids.length:Int))) _ _=_
  rw[h2]
  rfl
 have s0:F.adjointref3_Text_l1 self (fu+3) t (ByteArray.mk #[],0)=_:=s0
 simp only[loopF]
 rw[s0]
 dsimp only
 rw[s1]
 dsimp only
 rw[s2]
theorem sz_le {S:ByteArray}{n:Nat}(h:S.size≤n) (T:ByteArray){m:Nat}(hT:T.size≤m):(S++T).size≤n+m:=by rw[ByteArray.size_append];omega
theorem text_b_ok {self:STree→Option ByteArray}{fu:Nat}{t:STree}(hf:wtT t+50<fu) (hw:wtT t≤Bd) (ho:okT t) (hr:right t=true) (hk:∀x∈t.Kids,self x=some (strOf (tx x))):F.adjointref3_Text_b self fu t=some (strOf (tx t)):=by
 obtain⟨⟨hoN,hoD,hoL⟩,hoK⟩:=(okT_eq t).1 ho
 obtain⟨hkd,hn0,hk3⟩:=right_name hr
 have hwt:=wt_parts t
 have htl:=tx_le ho
 unfold F.adjointref3_Text_b
 simp only[int_eqd]
 by_cases h1:t.Kind=1
 ·rw[decide_eq_true h1,cond_true,digitsR hoN (hn0 (.inl h1)) (by omega),bindS,tx_eq]
  unfold txB
  rw[if_pos h1,strOf_dg]
 rw[decide_eq_false h1,cond_false]
 by_cases h2:t.Kind=2
 ·rw[decide_eq_true h2,cond_true,tx_eq]
  unfold txB
  rw[if_neg h1,if_pos h2,strOf_str]
 rw[decide_eq_false h2,cond_false]
 by_cases h4:t.Kind=4
 ·have h2':=right_two4 hr (.inl h4)
  rw[decide_eq_true h4,cond_true,textTwo_ok (by omega) hw ho h2' hk,bindS]
  have htx:tx t=twoX t:=by
   rw[tx_eq];unfold txB twoX;rw[if_neg h1,if_neg h2,if_pos h4]
   rw[two_kids h2'];rfl
  rw[htx]
 rw[decide_eq_false h4,cond_false]
 by_cases h5:t.Kind=5
 ·have h2':=right_two4 hr (.inr (.inl h5))
  have e:=tx_let h2' h5
  have w2:=wt_two h2'
  have l0:=tx_le (hoK _ (k0_mem h2'))
  have l1:=tx_le (hoK _ (k1_mem h2'))
  simp only[Bd] at hw
  have a1:(ByteArray.mk #[108,101,116,32]++t.Name).size≤4+t.Name.size:=sz_le (Nat.le_refl 4) _ (Nat.le_refl _)
  have a2:=sz_le a1 (ByteArray.mk #[32,61,32]) (Nat.le_refl 3)
  have a3:=sz_le a2 (strOf (tx (k0 t))) (Nat.le_of_eq (strOf_size _))
  have a4:=sz_le a3 (ByteArray.mk #[32,105,110,32]) (Nat.le_refl 4)
  rw[decide_eq_true h5,cond_true,app_chkS (by show 4+_≤_;omega),bindS,app_chkS (by show _+3≤_;omega),bindS,k0_get h2',bindS,k1_get h2',bindS,hk _ (k0_mem h2'),bindS,
   app_chkS (by rw[strOf_size];omega),bindS,app_chkS (by show _+4≤_;omega),bindS,hk _ (k1_mem h2'),bindS,app_chkS (by rw[strOf_size];omega),bindS,e]
  rw[strOf_app,strOf_app,strOf_app,strOf_app,strOf_app,strOf_str]
  rfl
 rw[decide_eq_false h5,cond_false]
 by_cases h6:t.Kind=6
 ·have h2':=right_two4 hr (.inr (.inr h6))
  have e:=tx_rep h2' h6
  have w2:=wt_two h2'
  have l0:=tx_le (hoK _ (k0_mem h2'))
  have l1:=tx_le (hoK _ (k1_mem h2'))
  have hsz:(strI t.Number).size≤20:=by have hl:=dg_len hoN;unfold dg at hl;rw[bytesI_length] at hl;exact hl
  simp only[Bd] at hw
  have a1:(ByteArray.mk #[114,101,112,101,97,116,32]++strI t.Number).size≤7+20:=sz_le (Nat.le_refl 7) _ hsz
  have a2:=sz_le a1 (ByteArray.mk #[32]) (Nat.le_refl 1)
  have a3:=sz_le a2 t.Name (Nat.le_refl _)
  have a4:=sz_le a3 (ByteArray.mk #[32,61,32]) (Nat.le_refl 3)
  have a5:=sz_le a4 (strOf (tx (k0 t))) (Nat.le_of_eq (strOf_size _))
  have a6:=sz_le a5 (ByteArray.mk #[32,119,105,116,104,32]) (Nat.le_refl 6)
  rw[decide_eq_true h6,cond_true,k0_get h2',bindS,k1_get h2',bindS,digitsR hoN (hn0 (.inr h6)) (by omega),bindS,app_chkS (by show 7+_≤_;omega),bindS,app_chkS (by show _+1≤_;omega),bindS,
   app_chkS (by omega),bindS,app_chkS (by show _+3≤_;omega),bindS,hk _ (k0_mem h2'),bindS,app_chkS (by rw[strOf_size];omega),bindS,app_chkS (by show _+6≤_;omega),bindS,hk _ (k1_mem h2'),bindS,
   app_chkS (by rw[strOf_size];omega),bindS,e]
  rw[strOf_app,strOf_app,strOf_app,strOf_app,strOf_app,strOf_app,strOf_app,strOf_str,strOf_dg]
  rfl
 rw[decide_eq_false h6,cond_false]
 have h3:t.Kind=3:=by omega
 obtain⟨hls,hsh⟩:=hk3 h3
 have htx:tx t=bytesI t.Name++(bif t.Shaped then shapeX t.Shape else[])++(t.Lists.map listX).flatten++[40]++sep [44,32] (t.Kids.map tx)++[41]:=by
  rw[tx_eq];unfold txB;rw[if_neg h1,if_neg h2,if_neg h4,if_neg h5,if_neg h6]
 have hsx:=shapeX_le hoD
 have hfl:=flat_le (f:=listX) (w:=wtL wtI) (K:=40) (l:=t.Lists) fun l hl=>by have:=listX_le (hoL l hl);omega
 have hLW:wtL (wtL wtI) t.Lists=(t.Lists.map (wtL wtI)).sum+1:=rfl
 have hsk:=sep_le (f:=tx) (w:=wtT) (c:=[44,32]) (K:=40) (l:=t.Kids) fun n hn=>by have:=tx_le (hoK n hn);simp only[List.length_cons,List.length_nil];omega
 have e1:(cond t.Shaped
           ((F.adjointref3_shapeText fu t.Shape).bind fun (r20:ByteArray)=>
           (chk (((t.Name.size+r20.size:Nat):Int)≤9223372036854775807)).bind fun _=>
           some (t.Name++r20))
           (some t.Name):Option ByteArray)=some (strOf (bytesI t.Name++(bif t.Shaped then shapeX t.Shape else[]))):=by
  rw[strOf_app,strOf_str]
  cases hs:t.Shaped with
  | true=>
   rw[cond_true,shapeT_okR (by omega) (by omega) hoD (hsh hs),bindS,app_chkS (by rw[strOf_size];simp only[wtS] at hwt;simp only[Bd] at hw;omega),bindS]
   rfl
  | false=>
   rw[cond_false]
   congr 1
   apply ByteArray.ext;simp[strOf]
 have hz:(strOf (bytesI t.Name++(bif t.Shaped then shapeX t.Shape else[]))).size≤t.Name.size+40*wtL wtD t.Shape:=by
  rw[strOf_size,List.length_append,bytesI_length]
  cases t.Shaped <;> simp <;> omega
 rw[e1,bindS,htx]
 generalize bytesI t.Name++(bif t.Shaped then shapeX t.Shape else[])=P at hz⊢
 rw[strOf_app,strOf_app,strOf_app,strOf_app]
 generalize strOf P=S at hz⊢
 simp only[wtS] at hwt
 simp only[Bd] at hw
 have a1:=sz_le hz (strOf ((t.Lists.map listX).flatten)) (Nat.le_of_eq (strOf_size _))
 have a2:=sz_le a1 (ByteArray.mk #[40]) (Nat.le_refl 1)
 have a3:=sz_le a2 (strOf (sep [44,32] (t.Kids.map tx))) (Nat.le_of_eq (strOf_size _))
 rw[listsR_ok (by omega) (by simp only[Bd];omega) hoL hls (by omega),bindS,app_chkS1 (by omega),bindS,kidsR_ok (by omega) (by simp only[Bd];omega) hoK hk (by omega),bindS,app_chkS1 (by omega),bindS]
 rfl
theorem text_okR:∀(n:Nat) (t:STree),wtT t≤n→∀(fu:Nat),wtT t+51<fu→wtT t≤Bd→okT t→right t=true→F.adjointref3_Text fu t=some (strOf (tx t))
 | 0,t,h,_,_,_,_,_=>by have:=wtT_pos t;omega
 | n+1,t,h,fu,hf,hw,ho,hr=>by
  obtain⟨fu,rfl⟩:∃u,fu=u+1:=⟨fu-1,by omega⟩
  show F.adjointref3_Text_b (F.adjointref3_Text fu) (fu+1) t=_
  exact text_b_ok (by omega) hw ho hr fun x hx=>by
   have:=wtT_kid hx
   exact text_okR n x (by omega) fu (by omega) (by omega) (((okT_eq t).1 ho).2 _ hx) (right_kid hr hx)
end Go.DN
