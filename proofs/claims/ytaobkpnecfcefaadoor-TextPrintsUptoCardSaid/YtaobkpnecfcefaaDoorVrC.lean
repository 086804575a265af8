/-
  Text, printing: the plain law: the reference's Levels, Chain and longest.
-/
import Derived.Test.YtaobkpnecfcefaaDoorVrB
set_option linter.unusedVariables false
set_option linter.unusedSimpArgs false
namespace Go.DN
open Go.AM
theorem maxL_le {l:List Nat}{n:Nat}(h:∀x∈l,x≤n):maxL l≤n:=by
 induction l with
 | nil=>exact Nat.zero_le _
 | cons x r ih=>
  have h1:=h x List.mem_cons_self
  have h2:=ih fun y hy=>h y (List.mem_cons_of_mem _ hy)
  simp only[maxL];omega
theorem maxL_snoc (l:List Nat) (x:Nat):maxL (l++[x])=max (maxL l) x:=by
 induction l with
 | nil=>simp[maxL]
 | cons y r ih=>simp only[List.cons_append,maxL,ih];omega
theorem maxL_take {l:List Nat}{k:Nat}{x:Nat}(h:l[k]?=some x):maxL (l.take (k+1))=max (maxL (l.take k)) x:=by
 rw[List.take_add_one,h];exact maxL_snoc _ _
theorem lvL_len (t:STree):∀(j:Nat) (ks:List STree),(lvL t j ks (ks.map levels)).length=ks.length
 | _,[]=>rfl
 | j,x::r=>by simp only[lvL,List.map_cons,List.length_cons,lvL_len t (j+1) r]
theorem lvL_get (t:STree):∀(j k:Nat) (ks:List STree) (x:STree),ks[k]?=some x→(lvL t j ks (ks.map levels))[k]?=some (lvW t (j+k) x (levels x))
 | _,_,[],x,h=>by simp at h
 | j,0,y::r,x,h=>by simp at h;subst h;rfl
 | j,k+1,y::r,x,h=>by
  simp only[lvL,List.map_cons,List.getElem?_cons_succ]
  rw[lvL_get t (j+1) k r x (by simpa using h)]
  congr 2;omega
theorem lvL_all {t:STree}{j:Nat}{ks:List STree}{m:Nat}(h:m∈lvL t j ks (ks.map levels)):∃x∈ks,m≤levels x:=by
 obtain⟨k,hk⟩:=List.mem_iff_getElem?.1 h
 have hl:k<ks.length:=by have:=get_lt hk;rw[lvL_len] at this;exact this
 have hx:ks[k]?=some ks[k]:=List.getElem?_eq_getElem hl
 rw[lvL_get t j k ks _ hx] at hk
 cases hk
 refine⟨_,mem_of hx,?_⟩
 unfold lvW;split <;> omega
theorem levels_leW:∀(n:Nat) (t:STree),wtT t≤n→levels t≤wtT t
 | 0,t,h=>by have:=wtT_pos t;omega
 | n+1,t,h=>by
  rw[levels_eq]
  have h8:=wtT_pos t
  have:maxL (lvL t 0 t.Kids (t.Kids.map levels))≤wtT t-1:=maxL_le fun m hm=>by
   obtain⟨x,hx,hl⟩:=lvL_all hm
   have:=wtT_kid hx
   have:=levels_leW n x (by omega)
   omega
  omega
theorem chain_leW:∀(n:Nat) (t:STree),wtT t≤n→chain t≤wtT t
 | 0,t,h=>by have:=wtT_pos t;omega
 | n+1,t,h=>by
  have h8:=wtT_pos t
  rw[chain_eq]
  split
  ·split
   ·rw[List.getD_eq_getElem?_getD,List.getElem?_map]
    cases hx:t.Kids[0]? with
    | none=>simp;omega
    | some x=>
     have:=wtT_kid (mem_of hx)
     have:=chain_leW n x (by omega)
     simp;omega
   ·omega
  ·omega
theorem pick_max (a b:Nat):(cond (decide ((a:Int)>(b:Int))) (some (a:Int)) (some (b:Int)):Option Int)=some ((max b a:Nat):Int):=by
 by_cases h:b<a
 ·rw[decide_eq_true (by omega),cond_true];congr 1;omega
 ·rw[decide_eq_false (by omega),cond_false];congr 1;omega
theorem levels_b_ok {self:STree→Option Int}{fu:Nat}{t:STree}(hf:wtT t+1<fu) (hw:wtT t≤Bd) (hk:∀x∈t.Kids,self x=some (levels x:Int)):F.adjointref3_Levels_b self fu t=some (levels t:Int):=by
 have hwt:=wt_parts t
 have hkl:t.Kids.length≤(t.Kids.map wtT).sum:=sum_len (w:=wtT) (fun x=>by have:=wtT_pos x;omega) t.Kids
 have hL:(lvL t 0 t.Kids (t.Kids.map levels)).length=t.Kids.length:=lvL_len t 0 t.Kids
 have hlv:=levels_leW _ t (Nat.le_refl _)
 obtain⟨r,h1,h2⟩:=loop_idx (body:=F.adjointref3_Levels_l1 self fu t) t.Kids (fun k s=>s=(((maxL ((lvL t 0 t.Kids (t.Kids.map levels)).take k):Nat):Int),(k:Int))) (fun r=>r=((maxL (lvL t 0 t.Kids (t.Kids.map levels)):Nat):Int)) (by
  rintro k x s hx rfl
  have hkk:=get_lt hx
  have hg:=lvL_get t 0 k t.Kids x hx
  rw[Nat.zero_add] at hg
  have hwx:=wtT_kid (mem_of hx)
  have hlx:=levels_leW _ x (Nat.le_refl _)
  have hlp:=levels_pos x
  rw[maxL_take hg]
  generalize maxL ((lvL t 0 t.Kids (t.Kids.map levels)).take k)=M
  left
  refine⟨_,?_,rfl⟩
  simp only[F.adjointref3_Levels_l1,dec_lt hx,cond_true,idx_nat hx,Option.bind_some,eta_t,hk x (mem_of hx),weak_okR (fu:=fu) hx (by simp only[Bd] at hw;omega)]
  have e:(cond (t.Kind==4) (some (!(weakB t x k))) (some false):Option Bool)=some (decide (t.Kind=4∧weakB t x k=false)):=by
   rw[int_eqd]
   by_cases h4:t.Kind=4
   ·rw[decide_eq_true h4]
    cases weakB t x k <;> simp[h4]
   ·simp[h4]
  rw[e,Option.bind_some]
  have e2:(cond (decide (t.Kind=4∧weakB t x k=false)) (some (IntKind.wrap .i64 ((levels x:Int)-1))) (some (levels x:Int)):Option Int)=some ((lvW t k x (levels x):Nat):Int):=by
   unfold lvW
   by_cases hq:t.Kind=4∧weakB t x k=false
   ·rw[decide_eq_true hq,if_pos hq,cond_true,i64 (by omega) (by simp only[Bd] at hw;omega)]
    congr 1;omega
   ·rw[decide_eq_false hq,if_neg hq,cond_false]
  rw[e2,Option.bind_some,pick_max,Option.bind_some,wrB hkk (by omega)])
  (by
   rintro s rfl
   rw[←hL,List.take_length,hL]
   exact⟨_,by simp only[F.adjointref3_Levels_l1,dec_end,cond_false],rfl⟩) t.Kids.length 0 fu (((0:Nat):Int),((0:Nat):Int)) rfl (Nat.zero_le _) (by omega) rfl
 unfold F.adjointref3_Levels_b
 have h1:loopF (F.adjointref3_Levels_l1 self fu t) fu (0,0)=some r:=h1
 rw[h1,h2,Option.bind_some]
 rw[levels_eq] at hlv⊢
 simp only[Bd] at hw
 rw[i64 (by omega) (by omega)]
 congr 1;omega
theorem levels_okR:∀(n:Nat) (t:STree),wtT t≤n→∀(fu:Nat),wtT t+2<fu→wtT t≤Bd→F.adjointref3_Levels fu t=some (levels t:Int)
 | 0,t,h,_,_,_=>by have:=wtT_pos t;omega
 | n+1,t,h,fu,hf,hw=>by
  obtain⟨fu,rfl⟩:∃u,fu=u+1:=⟨fu-1,by omega⟩
  show F.adjointref3_Levels_b (F.adjointref3_Levels fu) (fu+1) t=_
  exact levels_b_ok (by omega) hw fun x hx=>by
   have:=wtT_kid hx
   exact levels_okR n x (by omega) fu (by omega) (by omega)
theorem right_kid {t x:STree}(h:right t=true) (hx:x∈t.Kids):right x=true:=by
 rw[right_eq,Bool.and_eq_true] at h
 exact List.all_eq_true.1 h.2 x hx
theorem right_two4 {t:STree}(h:right t=true) (h4:t.Kind=4∨t.Kind=5∨t.Kind=6):t.Kids.length=2:=by
 rw[right_eq,Bool.and_eq_true] at h
 have h:=h.1
 unfold ownB at h
 rcases h4 with h4 | h4 | h4 <;> simp[h4] at h <;> exact h.2.2.2
theorem chain_okR:∀(n:Nat) (t:STree),wtT t≤n→∀(fu:Nat),wtT t+2<fu→wtT t≤Bd→right t=true→F.adjointref3_Chain fu t=some (chain t:Int)
 | 0,t,h,_,_,_,_=>by have:=wtT_pos t;omega
 | n+1,t,h,fu,hf,hw,hr=>by
  obtain⟨fu,rfl⟩:∃u,fu=u+1:=⟨fu-1,by omega⟩
  show F.adjointref3_Chain_b (F.adjointref3_Chain fu) (fu+1) t=_
  unfold F.adjointref3_Chain_b
  rw[int_ned]
  by_cases h4:t.Kind=4
  ·have h2:=right_two4 hr (.inl h4)
   have hx:=wtT_kid (k0_mem h2)
   have hc:=chain_leW _ (k0 t) (Nat.le_refl _)
   have ih:=chain_okR n (k0 t) (by omega) fu (by omega) (by omega) (right_kid hr (k0_mem h2))
   rw[chain_two h4 h2]
   simp only[decide_eq_true h4,Bool.not_true,cond_false,k0_get h2,Option.bind_some,eta_t,power_okR,int_eqd,ih]
   by_cases hp:pw (k0 t)=pw t
   ·rw[decide_eq_true (by omega),if_pos hp,cond_true,i64 (by omega) (by simp only[Bd] at hw;omega)]
    congr 1
   ·rw[decide_eq_false (by omega),if_neg hp,cond_false];rfl
  ·rw[chain_zero h4,decide_eq_false h4];rfl
theorem longest_b_ok {self:STree→Option Int}{fu:Nat}{t:STree}(hf:wtT t+2<fu) (hw:wtT t≤Bd) (hr:right t=true) (hk:∀x∈t.Kids,self x=some (longest x:Int)):F.adjointref3_longest_b self fu t=some (longest t:Int):=by
 have hwt:=wt_parts t
 have hkl:t.Kids.length≤(t.Kids.map wtT).sum:=sum_len (w:=wtT) (fun x=>by have:=wtT_pos x;omega) t.Kids
 obtain⟨r,h1,h2⟩:=loop_idx (body:=F.adjointref3_longest_l1 self fu t) t.Kids (fun k s=>s=(((max (chain t) (maxL ((t.Kids.map longest).take k)):Nat):Int),(k:Int))) (fun r=>r=((max (chain t) (maxL (t.Kids.map longest)):Nat):Int)) (by
  rintro k x s hx rfl
  have hkk:=get_lt hx
  have hg:(t.Kids.map longest)[k]?=some (longest x):=by rw[List.getElem?_map,hx];rfl
  rw[maxL_take hg,←Nat.max_assoc]
  generalize max (chain t) (maxL ((t.Kids.map longest).take k))=M
  left
  refine⟨_,?_,rfl⟩
  simp only[F.adjointref3_longest_l1,dec_lt hx,cond_true,idx_nat hx,Option.bind_some,eta_t,hk x (mem_of hx)]
  rw[pick_max,Option.bind_some,wrB hkk (by omega)])
  (by
   rintro s rfl
   rw[←List.length_map (f:=longest),List.take_length,List.length_map]
   exact⟨_,by simp only[F.adjointref3_longest_l1,dec_end,cond_false],rfl⟩) t.Kids.length 0 fu (((chain t:Nat):Int),((0:Nat):Int)) rfl (Nat.zero_le _) (by omega) (by simp[maxL])
 unfold F.adjointref3_longest_b
 rw[eta_t,chain_okR _ t (Nat.le_refl _) fu hf hw hr,Option.bind_some]
 have h1:loopF (F.adjointref3_longest_l1 self fu t) fu ((chain t:Int),0)=some r:=h1
 rw[h1,h2,Option.bind_some,longest_eq]
theorem longest_okR:∀(n:Nat) (t:STree),wtT t≤n→∀(fu:Nat),wtT t+2<fu→wtT t≤Bd→right t=true→F.adjointref3_longest fu t=some (longest t:Int)
 | 0,t,h,_,_,_,_=>by have:=wtT_pos t;omega
 | n+1,t,h,fu,hf,hw,hr=>by
  obtain⟨fu,rfl⟩:∃u,fu=u+1:=⟨fu-1,by omega⟩
  show F.adjointref3_longest_b (F.adjointref3_longest fu) (fu+1) t=_
  exact longest_b_ok (by omega) hw hr fun x hx=>by
   have:=wtT_kid hx
   exact longest_okR n x (by omega) fu (by omega) (by omega) (right_kid hr hx)
end Go.DN
