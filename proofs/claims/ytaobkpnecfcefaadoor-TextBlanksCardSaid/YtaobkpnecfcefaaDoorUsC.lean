/-
  Text, blanks: what stands between tokens makes no difference.
-/
import Derived.Test.YtaobkpnecfcefaaDoorUsA
import Derived.Test.YtaobkpnecfcefaaDoorUsB
set_option linter.unusedVariables false
set_option linter.unusedSimpArgs false
namespace Go.DN
open Go.AM
theorem loopF_mono {σ ρ:Type}{body:σ→Option (σ⊕ρ)}{r:ρ}:∀{n m:Nat}{x:σ},loopF body n x=some r→n≤m→loopF body m x=some r
 | 0,_,_,h,_=>by cases h
 | n+1,m,x,h,hm=>by
  obtain⟨q,rfl⟩:∃q,m=q+1:=⟨m-1,by omega⟩
  rw[loopF_step] at h⊢
  revert h
  cases body x with
  | none=>exact id
  | some y=>cases y with
   | inl z=>exact fun h=>loopF_mono (n:=n) h (by omega)
   | inr w=>exact id
theorem alive_ok {fu:Nat}(hf:Mx<fu):F.adjointlaw3_alive fu=some true:=by
 unfold F.adjointlaw3_alive
 have hs:(ByteArray.mk #[97,32,98]).size≤Mx:=by decide
 have h1:Bl (ByteArray.mk #[97,32,98]) 0 0:=.stop fun _=>by decide
 have h2:Lex (ByteArray.mk #[97,32,98]) 0 [] ([]++[⟨(ByteArray.mk #[97,32,98]).extract 0 1,((0:Nat):Int)⟩]++[⟨(ByteArray.mk #[97,32,98]).extract 2 3,((2:Nat):Int)⟩],⟨0,0⟩):=
  .tok (k:=1) (j':=2) (by decide) (by decide) (.blank (by decide) (by decide) (.stop fun _=>by decide)) (.tok (k:=3) (j':=3) (by decide) (by decide) (.stop fun h=>absurd h (by decide)) .fin)
 rw[text_ok hs (by have:(ByteArray.mk #[97,32,98]).size=3:=rfl;omega) h1 h2]
 rfl
def bOf (x:ByteArray):ByteArray:=if (x.toList==(ByteArray.mk #[108,105,110,101]).toList)=true then ByteArray.mk #[10] else
 if (x.toList==(ByteArray.mk #[114,101,109,97,114,107]).toList)=true then ByteArray.mk #[32,35,32,105,110,32,0,32,59,32,114,101,109,97,114,107,10] else
 if (x.toList==(ByteArray.mk #[116,97,98]).toList)=true then ByteArray.mk #[9,13,32,32] else ByteArray.mk #[32]
theorem bOf_blk (x:ByteArray):Blk4 (bOf x):=by
 unfold bOf
 split
 ·exact .inl rfl
 ·split
  ·exact .inr (.inl rfl)
  ·split
   ·exact .inr (.inr (.inl rfl))
   ·exact .inr (.inr (.inr rfl))
theorem blk_size {b:ByteArray}(h:Blk4 b):b.size≤17:=by rcases h with rfl | rfl | rfl | rfl <;> decide
theorem cat_loop {L:List SToken}{bt:List ByteArray}(hb:0<bt.length) (hL:L.length≤Mx) (hT:∀t∈L,t.Text.size≤Mx) (f0:Nat):∀(m k fu:Nat) (acc:ByteArray),m=L.length-k→k≤L.length→m<fu→acc.size≤k*(Mx+17)→
  ∃(t:ByteArray) (l:List (ByteArray×ByteArray)),loopF (F.adjointlaw3_TextBlanks_l1 f0 bt L) fu (acc,(k:Int))=some t∧t.data.toList=acc.data.toList++catB l∧l.map (·.1)=(L.drop k).map (·.Text)∧∀x∈l,Blk4 x.2
 | 0,k,fu,acc,hm,hk,hf,ha=>by
  obtain⟨f,rfl⟩:∃f,fu=f+1:=⟨fu-1,by omega⟩
  obtain rfl:k=L.length:=by omega
  refine⟨acc,[],?_,by simp[catB],by simp,fun x h=>by cases h⟩
  rw[loopF_step]
  simp only[F.adjointlaw3_TextBlanks_l1,dec_end,cond_false,step_inr]
 | m+1,k,fu,acc,hm,hk,hf,ha=>by
  obtain⟨f,rfl⟩:∃f,fu=f+1:=⟨fu-1,by omega⟩
  have hlt:k<L.length:=by omega
  have hx:L[k]?=some L[k]:=by simp[hlt]
  have hmod:k%bt.length<bt.length:=Nat.mod_lt _ hb
  have hy:bt[k%bt.length]?=some bt[k%bt.length]:=by simp[hmod]
  have hi:Int.tmod (k:Int) (bt.length:Int)=((k%bt.length:Nat):Int):=rfl
  have hTk:(L[k]).Text.size≤Mx:=hT _ (List.getElem_mem hlt)
  have hbk:=blk_size (bOf_blk (bt[k%bt.length]))
  have hkk:k*(Mx+17)≤Mx*(Mx+17):=Nat.mul_le_mul (by omega) (Nat.le_refl _)
  have hMM:Mx*(Mx+17)=4296081408:=by simp[Mx]
  have s1:(acc++(L[k]).Text).size=acc.size+(L[k]).Text.size:=ByteArray.size_append
  have s2:((acc++(L[k]).Text)++bOf (bt[k%bt.length])).size=(acc++(L[k]).Text).size+(bOf (bt[k%bt.length])).size:=ByteArray.size_append
  have hM:Mx=65536:=rfl
  have c1:chk (((acc.size+(L[k]).Text.size:Nat):Int)≤9223372036854775807)=some ():=chk_pos (by omega)
  have c2:chk ((((acc++(L[k]).Text).size+(bOf (bt[k%bt.length])).size:Nat):Int)≤9223372036854775807)=some ():=chk_pos (by omega)
  have c0:chk ((bt.length:Int)≠0)=some ():=chk_pos (by omega)
  have e:k*(Mx+17)+(Mx+17)=(k+1)*(Mx+17):=(Nat.succ_mul k (Mx+17)).symm
  obtain⟨t,l,h1,h2,h3,h4⟩:=cat_loop hb hL hT f0 m (k+1) f ((acc++(L[k]).Text)++bOf (bt[k%bt.length])) (by omega) (by omega) (by omega) (by omega)
  refine⟨t,((L[k]).Text,bOf (bt[k%bt.length]))::l,?_,?_,?_,?_⟩
  ·rw[loopF_step]
   have key:(cond ((bt[k%bt.length]).toList==(ByteArray.mk #[108,105,110,101]).toList) (some (ByteArray.mk #[10]))
     (cond ((bt[k%bt.length]).toList==(ByteArray.mk #[114,101,109,97,114,107]).toList) (some (ByteArray.mk #[32,35,32,105,110,32,0,32,59,32,114,101,109,97,114,107,10]))
      (cond ((bt[k%bt.length]).toList==(ByteArray.mk #[116,97,98]).toList) (some (ByteArray.mk #[9,13,32,32])) (some (ByteArray.mk #[32])))))=some (bOf (bt[k%bt.length])):=by
    unfold bOf
    cases ((bt[k%bt.length]).toList==(ByteArray.mk #[108,105,110,101]).toList) <;> cases ((bt[k%bt.length]).toList==(ByteArray.mk #[114,101,109,97,114,107]).toList) <;> cases ((bt[k%bt.length]).toList==(ByteArray.mk #[116,97,98]).toList) <;> rfl
   have bb:∀o:Option ByteArray,(o.bind fun b=>some b)=o:=fun o=>by cases o <;> rfl
   simp only[F.adjointlaw3_TextBlanks_l1,dec_lt hx,cond_true,idx_nat hx,Option.bind_some,c0,hi,idx_nat hy,bb,key,c1,c2,step_inl,w1 (show k≤Mx by omega)]
   exact h1
  ·rw[h2]
   simp[catB,ByteArray.data_append]
  ·show(L[k]).Text::l.map (·.1)=_
   rw[h3,List.drop_eq_getElem_cons hlt,List.map_cons]
  ·intro x hx
   rcases List.mem_cons.1 hx with rfl | hx
   ·exact bOf_blk _
   ·exact h4 x hx
theorem textBlanks_F (s:ByteArray) (bt:List ByteArray):∃fu,F.adjointlaw3_TextBlanks fu s bt=some true:=by
 have ali:∀fu,Mx+66≤fu→F.adjointlaw3_alive fu=some true:=fun fu h=>alive_ok (by omega)
 by_cases hs:s.size≤Mx
 ·obtain⟨j,hb⟩:=Bl.tot (s:=s) s.size 0 (by omega) (Nat.zero_le _)
  have hf:=hb.facts
  obtain⟨r,hr⟩:=Lex.tot (s:=s) s.size j [] (by omega) (hf.2.1 (Nat.zero_le _))
  have hl:=tok_len hr (by simp) (hf.2.1 (Nat.zero_le _))
  have ht:∀fu,Mx+66≤fu→F.text_Tokens fu s=some r:=fun fu h=>text_ok hs (by omega) hb hr
  have ho:=lex_ok hs hr (fun t h=>by cases h)
  have hlt:=lex_ltok hs hr (fun t h=>by cases h)
  obtain⟨r1,r2⟩:=r
  rcases lex_end hr with h | ⟨h1,h2⟩
  ·have h:r2=⟨0,0⟩:=h
   subst h
   have hl:r1.length≤s.size:=hl
   have hlt:∀t∈r1,LTok t.Text:=hlt
   by_cases hbt:bt.length=0
   ·refine⟨Mx+66,?_⟩
    unfold F.adjointlaw3_TextBlanks
    have e:((bt.length:Int)==0)=true:=by rw[hbt];rfl
    simp only[ali _ (Nat.le_refl _),ht _ (Nat.le_refl _),Option.bind_some,Bool.not_true,cond_false,ne_self,e,cond_true]
   ·have e:((bt.length:Int)==0)=false:=(beq_eq_false_iff_ne).2 (by omega)
    have hloop:∀fu,Mx+66≤fu→∃(t:ByteArray) (l:List (ByteArray×ByteArray)),loopF (F.adjointlaw3_TextBlanks_l1 fu bt r1) fu (ByteArray.mk #[],((0:Nat):Int))=some t∧t.data.toList=(ByteArray.mk #[]).data.toList++catB l∧l.map (·.1)=(r1.drop 0).map (·.Text)∧∀x∈l,Blk4 x.2:=fun fu (h:Mx+66≤fu)=>cat_loop (L:=r1) (bt:=bt) (by omega) (by omega) (fun t h=>(ho t h).le) fu r1.length 0 fu (ByteArray.mk #[]) (by omega) (Nat.zero_le _) (by omega) (Nat.zero_le _)
    obtain⟨t,l,g1,g2,g3,g4⟩:=hloop (Mx+66) (Nat.le_refl _)
    have g2:t.data.toList=catB l:=by simpa using g2
    have hmem:∀x∈l,LTok x.1∧Blk4 x.2:=fun x hx=>by
     have:x.1∈l.map (·.1):=List.mem_map.2 ⟨x,hx,rfl⟩
     rw[g3] at this
     obtain⟨y,hy,e⟩:=List.mem_map.1 this
     exact⟨by rw[←e];exact hlt y (by simpa using hy),g4 x hx⟩
    by_cases htz:t.size≤Mx
    ·have hsz:t.size=(catB l).length:=by rw[←g2];exact(Array.length_toList (xs:=t.data)).symm
     obtain⟨k1,ts,k2,k3⟩:=lex_cat (t:=t) l 0 [] hmem ⟨[],[],by simpa using g2,rfl⟩ (by omega)
     have k2:Lex t 0 [] (ts,⟨0,0⟩):=by simpa using k2
     have hl2:=tok_len k2 (by simp) (Nat.zero_le _)
     have hl2:ts.length≤t.size:=hl2
     have ho2:=lex_ok htz k2 (fun t h=>by cases h)
     obtain⟨X,hX,hXe⟩:∃X:Toks,X.L=r1∧X.en=(s.size:Int):=⟨⟨r1,(s.size:Int),ho,by omega⟩,rfl,rfl⟩
     obtain⟨Y,hY,hYe⟩:∃Y:Toks,Y.L=ts∧Y.en=(t.size:Int):=⟨⟨ts,(t.size:Int),ho2,by omega⟩,rfl,rfl⟩
     subst hX;subst hY
     have hmap:X.L.map (·.Text)=Y.L.map (·.Text):=by rw[k3,g3];simp
     have hlen:X.L.length=Y.L.length:=by have:=congrArg List.length hmap;simpa using this
     have htx:∀i,X.tx i=Y.tx i:=fun i=>by
      have:=congrArg (fun l:List ByteArray=>l[i]?) hmap
      simp only[List.getElem?_map] at this
      unfold Toks.tx
      cases h1:X.L[i]? with
      | none=>cases h2:Y.L[i]? with
       | none=>rfl
       | some b=>rw[h1,h2] at this;cases this
      | some a=>cases h2:Y.L[i]? with
       | none=>rw[h1,h2] at this;cases this
       | some b=>rw[h1,h2] at this;exact Option.some.inj this
     have hsim:=prog_sim htx hlen (X.L.length+1) 0 []
     have hg:=pProg_ge (X:=X) (X.L.length+1) 0 [] (Nat.zero_le _) (by simp;omega) (fun f h=>by cases h)
     have rx:=fun fu (h:Mx+66≤fu)=>read_p (s:=s) (fu:=fu) X hXe (ht fu h) (by omega)
     have ry:=fun fu (h:Mx+66≤fu)=>read_p (s:=t) (fu:=fu) Y hYe (text_ok htz (by omega) k1 k2) (by omega)
     rw[←hlen] at ry
     have hlp:∀fu,Mx+66≤fu→loopF (F.adjointlaw3_TextBlanks_l1 fu bt X.L) fu (ByteArray.mk #[],0)=some t:=fun fu h=>by
      obtain⟨t',l',q1,q2,q3,q4⟩:=hloop fu h
      have:loopF (F.adjointlaw3_TextBlanks_l1 fu bt X.L) fu=loopF (F.adjointlaw3_TextBlanks_l1 (Mx+66) bt X.L) fu:=rfl
      have mono:loopF (F.adjointlaw3_TextBlanks_l1 (Mx+66) bt X.L) fu (ByteArray.mk #[],0)=some t:=loopF_mono g1 h
      rw[this];exact mono
     have hz:decide ((t.size:Int)>65536)=false:=decide_eq_false (by have:t.size≤65536:=htz;omega)
     have fin:∀(p:List SFunc) (w w':SFault),PgOk p→w.Err=w'.Err→(∀fu,Mx+66≤fu→F.text_Read fu s=some (p,w)∧F.text_Read fu t=some (p,w'))→∃fu,F.adjointlaw3_TextBlanks fu s bt=some true:=by
      intro p w w' hp hw h
      obtain⟨m,hm⟩:=sameProg_ok hp
      refine⟨Mx+66+m,?_⟩
      obtain⟨h1,h2⟩:=h (Mx+66+m) (by omega)
      have e3:(w.Err==w'.Err)=true:=by rw[hw];simp
      unfold F.adjointlaw3_TextBlanks
      simp only[ali _ (show Mx+66≤Mx+66+m by omega),ht _ (show Mx+66≤Mx+66+m by omega),Option.bind_some,Bool.not_true,cond_false,ne_self,e,hlp _ (show Mx+66≤Mx+66+m by omega),hz,h1,h2,e3,cond_true,hm _ (show m≤Mx+66+m by omega)]
     revert hsim hg rx ry
     cases pProg X (X.L.length+1) 0 [] with
     | ok a i=>
      cases pProg Y (X.L.length+1) 0 [] with
      | ok b k=>rintro⟨rfl,rfl⟩ hg rx ry;exact fin a ⟨0,0⟩ ⟨0,0⟩ hg.2.2 rfl fun fu h=>⟨rx fu h,ry fu h⟩
      | bad e p=>intro h;exact h.elim
     | bad e p=>
      cases pProg Y (X.L.length+1) 0 [] with
      | ok b k=>intro h;exact h.elim
      | bad e' p'=>intro he hg rx ry;exact fin [] ⟨e,p⟩ ⟨e',p'⟩ ⟨Nat.zero_le _,fun f h=>by cases h⟩ he fun fu h=>⟨rx fu h,ry fu h⟩
    ·refine⟨Mx+66,?_⟩
     have hz:decide ((t.size:Int)>65536)=true:=decide_eq_true (by have:¬t.size≤65536:=htz;omega)
     have g1:loopF (F.adjointlaw3_TextBlanks_l1 (Mx+66) bt r1) (Mx+66) (ByteArray.mk #[],0)=some t:=g1
     unfold F.adjointlaw3_TextBlanks
     simp only[ali _ (Nat.le_refl _),ht _ (Nat.le_refl _),Option.bind_some,Bool.not_true,cond_false,ne_self,e,g1,hz,cond_true]
  ·have h1:(r2.Err !=0)=true:=by simpa using (show r2.Err≠0 from h1)
   refine⟨Mx+66,?_⟩
   unfold F.adjointlaw3_TextBlanks
   simp only[ali _ (Nat.le_refl _),ht _ (Nat.le_refl _),Option.bind_some,Bool.not_true,cond_false,h1,cond_true]
 ·have hd:decide ((s.size:Int)>65536)=true:=by
   have:¬s.size≤65536:=hs
   exact decide_eq_true (by omega)
  have ht:F.text_Tokens (Mx+66) s=some ([],⟨5,0⟩):=by
   unfold F.text_Tokens F.text_Tokens_p unP
   simp only[hd,cond_true,Option.bind_some]
  have e5:((5:Int) !=0)=true:=rfl
  refine⟨Mx+66,?_⟩
  unfold F.adjointlaw3_TextBlanks
  simp only[ali _ (Nat.le_refl _),ht,Option.bind_some,Bool.not_true,cond_false,e5,cond_true]
end Go.DN
