/-
  Orders: the plain law of OrderRuns: the reference's times, and its least ones.
-/
import Derived.Test.YtfkigaldejbeiaaOvL
import Derived.Test.YtfkigaldejbeiaaOqF
set_option linter.unusedSectionVars false
set_option linter.unusedSimpArgs false
set_option linter.unusedVariables false
namespace Go.DN.So
open Go.AM Go.DN
def arr (a:SArr8):List Int:=[a.a0,a.a1,a.a2,a.a3,a.a4,a.a5,a.a6,a.a7]
theorem list8 {l:List Int}(h:l.length=8):[l.getD 0 0,l.getD 1 0,l.getD 2 0,l.getD 3 0,l.getD 4 0,l.getD 5 0,l.getD 6 0,l.getD 7 0]=l:=by
 match l,h with
 | [a,b,c,d,e,f,g,i],_=>rfl
def tup8 (k:Nat) (l:List Int):Int×Int×Int×Int×Int×Int×Int×Int×Int:=((k:Int),l.getD 0 0,l.getD 1 0,l.getD 2 0,l.getD 3 0,l.getD 4 0,l.getD 5 0,l.getD 6 0,l.getD 7 0)
structure GoodQ (n:SNest) (times:List (List SRow)) (q:SSpot):Prop where
 pos:0≤q.Stmt
 ex:∃s rows,n.Stmts[q.Stmt.toNat]?=some s∧times[q.Stmt.toNat]?=some rows∧GoodS n s∧Ran q.At∧q.At.length=s.Over.Box.length∧rows.length≤8∧∀r∈rows,rowW r s.Over.Box.length=0
theorem idxT {α:Type}{l:List α}{i:Int}{x:α}(h:0≤i) (hx:l[i.toNat]?=some x):idx l i=some x:=by
 obtain⟨k,rfl⟩:=Int.eq_ofNat_of_zero_le h
 exact idx_nat hx
theorem time_step (fu:Nat){q:SSpot}{rows:List SRow}{k:Nat}{r:SRow}{v:Int}(hk:rows[k]?=some r) (h8:rows.length≤8) (ha:F.adjointref9_At fu r q.At=some v){L:List Int}(hL:L.length=8):
  F.adjointref11_Time_l1 fu q rows (tup8 k L)=some (.inl (tup8 (k+1) (L.set k v))):=by
 match L,hL with
 | [a,b,c,d,e,f,g,i],_=>
  have hk2:=get_lt hk
  have hw:=wrap_succ hk2 (by omega)
  have c1:=chk_pos (p:=(0:Int)≤(k:Int)∧(k:Int)<((8:Nat):Int)) (by omega)
  show F.adjointref11_Time_l1 fu q rows ((k:Int),a,b,c,d,e,f,g,i)=_
  simp only[F.adjointref11_Time_l1,dec_lt hk,cond_true,idx_nat hk,Option.bind_some,ha,hw,c1,Int.toNat_natCast]
  rw[chk_pos (show k<[a,b,c,d,e,f,g,i].length by simp;omega)]
  rfl
theorem time_end (fu:Nat) (q:SSpot) (rows:List SRow) (L:List Int):F.adjointref11_Time_l1 fu q rows (tup8 rows.length L)=some (.inr (tup8 0 L).2):=by
 unfold tup8
 simp only[F.adjointref11_Time_l1,dec_end,cond_false]
theorem time_ok (fu:Nat){n:SNest}{times:List (List SRow)}{q:SSpot}(g:GoodQ n times q) (hf:10<fu):∃a,F.adjointref11_Time fu times q=some a∧arr a=tmS 8 times q:=by
 obtain⟨s,rows,h1,h2,h3,h4,h5,h6,h7⟩:=g.ex
 have hgd:times.getD q.Stmt.toNat []=rows:=by rw[List.getD_eq_getElem?_getD,h2];rfl
 have hlen:(tmV rows q.At).length=rows.length:=by simp[tmV]
 have hL:∀k,k≤rows.length→((tmV rows q.At).take k++List.replicate (8-k) 0).length=8:=fun k hk=>by rw[List.length_append,List.length_take,List.length_replicate];omega
 have:=PL.loop_acc (body:=F.adjointref11_Time_l1 fu q rows) rows (fun k=>tup8 k ((tmV rows q.At).take k++List.replicate (8-k) 0)) (tup8 0 (padT 8 (tmV rows q.At))).2
  (fun k r hk=>by
   have hk2:=get_lt hk
   have ha:=refAt_ok fu (h3.over.with (h7 r (List.mem_of_getElem? hk))) (r:=r) (by simp) h4 h5 hf
   have ht:(tmV rows q.At)[k]?=some (atV r q.At):=by simp[tmV,hk]
   rw[time_step fu hk h6 ha (hL k (by omega)),pad_set (show k<8 by omega) ht])
  (by rw[time_end,←hlen,List.take_length];rfl) fu (by omega)
 have this:loopF (F.adjointref11_Time_l1 fu q rows) fu (0,0,0,0,0,0,0,0,0)=some (tup8 0 (padT 8 (tmV rows q.At))).2:=this
 have hP:(padT 8 (tmV rows q.At)).length=8:=by unfold padT;rw[List.length_append,List.length_replicate];omega
 refine⟨_,by unfold F.adjointref11_Time;rw[idxT g.pos h2,Option.bind_some,this];rfl,?_⟩
 unfold tmS
 rw[hgd]
 exact list8 hP
theorem getD_idx {l:List Int}{i:Nat}(h:i<l.length):l.getD i 0=l[i]:=by rw[List.getD_eq_getElem?_getD,List.getElem?_eq_getElem h];rfl
theorem before_ok (fu:Nat) (a b:SArr8) (hf:10<fu):F.adjointref11_Before fu a b=some (ltL (arr a) (arr b)):=by
 have key:∀(m k fuel:Nat),k+m=8→m<fuel→bindE (fun r=>r) (loopF (F.adjointref11_Before_l1 fu a b) fuel (k:Int):Option (Ex Unit Bool)) (fun (_:Unit)=>some false)=some (ltL ((arr a).drop k) ((arr b).drop k)):=by
  intro m
  induction m with
  | zero=>
   intro k fuel h1 h2
   obtain⟨fuel,rfl⟩:∃f,fuel=f+1:=⟨fuel-1,by omega⟩
   obtain rfl:k=8:=by omega
   rfl
  | succ m ih=>
   intro k fuel h1 h2
   obtain⟨fuel,rfl⟩:∃f,fuel=f+1:=⟨fuel-1,by omega⟩
   have l1:(arr a).length=8:=rfl
   have l2:(arr b).length=8:=rfl
   have hw:IntKind.i64.wrap ((k:Int)+1)=((k+1:Nat):Int):=by rw[i64 (by omega) (by omega)];omega
   have c1:=chk_pos (p:=(0:Int)≤(k:Int)∧(k:Int)<((8:Nat):Int)) (by omega)
   have c2:=chk_pos (p:=(k:Int).toNat<[a.a0,a.a1,a.a2,a.a3,a.a4,a.a5,a.a6,a.a7].length) (by simp;omega)
   have c3:=chk_pos (p:=(k:Int).toNat<[b.a0,b.a1,b.a2,b.a3,b.a4,b.a5,b.a6,b.a7].length) (by simp;omega)
   have d:decide ((k:Int)<8)=true:=PL.dec_true (by omega)
   have g1:[a.a0,a.a1,a.a2,a.a3,a.a4,a.a5,a.a6,a.a7].getD (k:Int).toNat 0=(arr a)[k]:=by rw[Int.toNat_natCast];exact getD_idx (l:=arr a) (by omega)
   have g2:[b.a0,b.a1,b.a2,b.a3,b.a4,b.a5,b.a6,b.a7].getD (k:Int).toNat 0=(arr b)[k]:=by rw[Int.toNat_natCast];exact getD_idx (l:=arr b) (by omega)
   rw[List.drop_eq_getElem_cons (by omega:k<(arr a).length),List.drop_eq_getElem_cons (by omega:k<(arr b).length)]
   simp only[loopF,F.adjointref11_Before_l1,d,cond_true,c1,c2,c3,Option.bind_some,g1,g2,ltL]
   by_cases he:(arr a)[k]=(arr b)[k]
   ·simp only[PL.bne_false he,cond_false,hw]
    rw[ih (k+1) fuel (by omega) (by omega),if_neg (by omega),if_neg (by omega)]
   ·simp only[PL.bne_true he,cond_true]
    by_cases hl:(arr a)[k]<(arr b)[k]
    ·rw[PL.dec_true hl,if_pos hl];rfl
    ·rw[PL.dec_false hl,if_neg hl,if_pos (by omega)];rfl
 exact key 8 0 fu rfl (by omega)
theorem eqI_ok:∀a b:List Int,eqI a b=decide (a=b)
 | [],[]=>rfl
 | [],_::_=>rfl
 | _::_,[]=>rfl
 | x::xs,y::ys=>by
  simp only[eqI,eqI_ok xs ys,List.cons.injEq]
  by_cases h:x=y <;> simp[h]
def idxs {α:Type}(p:α→Bool):List α→Nat→List Nat
 | [],_=>[]
 | x::l,s=>if p x then s::idxs p l (s+1) else idxs p l (s+1)
theorem idxs_snoc {α:Type}(p:α→Bool) (x:α):∀(l:List α) (s:Nat),idxs p (l++[x]) s=idxs p l s++if p x then[s+l.length] else[]
 | [],s=>by simp only[List.nil_append,idxs,List.length_nil,Nat.add_zero]
 | y::l,s=>by
  simp only[List.cons_append,idxs,idxs_snoc p x l,List.length_cons,show s+1+l.length=s+(l.length+1) by omega]
  split <;> rfl
theorem idxs_len {α:Type}(p:α→Bool):∀(l:List α) (s:Nat),(idxs p l s).length=(l.filter p).length
 | [],_=>rfl
 | x::l,s=>by
  simp only[idxs,List.filter_cons]
  split <;> simp[idxs_len p l]
theorem idxs_nil {α:Type}(p:α→Bool){l:List α}(h:∀x∈l,p x=false) (s:Nat):idxs p l s=[]:=by
 rw[←List.length_eq_zero_iff,idxs_len,List.length_eq_zero_iff,List.filter_eq_nil_iff]
 intro x hx;rw[h x hx];decide
theorem idxs_get {α:Type}(p:α→Bool):∀(l:List α) (s k i:Nat),(idxs p l s)[k]?=some i→∃L1 x L2,l=L1++x::L2∧i=s+L1.length∧p x=true∧(L1.filter p).length=k
 | [],s,k,i,h=>by simp[idxs] at h
 | x::l,s,k,i,h=>by
  simp only[idxs] at h
  split at h
  ·rename_i hp
   cases k with
   | zero=>simp at h;exact⟨[],x,l,rfl,by simp[h],hp,rfl⟩
   | succ k=>
    rw[List.getElem?_cons_succ] at h
    obtain⟨L1,y,L2,e1,e2,e3,e4⟩:=idxs_get p l (s+1) k i h
    exact⟨x::L1,y,L2,by rw[e1];rfl,by rw[e2,List.length_cons];omega,e3,by rw[List.filter_cons,if_pos hp,List.length_cons,e4]⟩
  ·rename_i hp
   obtain⟨L1,y,L2,e1,e2,e3,e4⟩:=idxs_get p l (s+1) k i h
   exact⟨x::L1,y,L2,by rw[e1];rfl,by rw[e2,List.length_cons];omega,e3,by rw[List.filter_cons,if_neg hp,e4]⟩
def isT (T:SSpot→List Int) (t:List Int) (q:SSpot):Bool:=decide (T q=t)
def ints (l:List Nat):List Int:=l.map fun (i:Nat)=>(i:Int)
theorem ints_get {l:List Nat}{k i:Nat}(h:l[k]?=some i):idx (ints l) (k:Int)=some (i:Int):=idx_nat (by simp[ints,h])
theorem least_ok (fu:Nat){n:SNest}{times:List (List SRow)}{left:List SSpot}(hq:∀q∈left,GoodQ n times q) (hl:left.length≤1024) (hf:2000<fu):
  ∃m:List Nat,loopF (F.adjointref11_Run_l1 fu times left) fu (0,[])=some (ints m)∧((left=[]∧m=[])∨∃t,(∀q∈left,ltL (tmS 8 times q) t=false)∧m≠[]∧m=idxs (isT (tmS 8 times) t) left 0):=by
 obtain⟨r,h1,h2⟩:=loopF_inv (body:=F.adjointref11_Run_l1 fu times left)
  (fun q:Int×List Int=>∃(k:Nat) (m:List Nat),q=((k:Int),ints m)∧k≤left.length∧((k=0∧m=[])∨∃t,(∀q∈left.take k,ltL (tmS 8 times q) t=false)∧m≠[]∧m=idxs (isT (tmS 8 times) t) (left.take k) 0))
  (fun q=>left.length-q.1.toNat) (fun r=>∃m:List Nat,r=ints m∧((left=[]∧m=[])∨∃t,(∀q∈left,ltL (tmS 8 times q) t=false)∧m≠[]∧m=idxs (isT (tmS 8 times) t) left 0)) (by
   rintro⟨i,v⟩ ⟨k,m,e,hk,hm⟩
   cases e
   by_cases h:k<left.length
   ·refine .inl ?_
    have hx:left[k]?=some left[k]:=List.getElem?_eq_getElem h
    have hxg:=hq _ (List.getElem_mem h)
    generalize left[k]=x at hx hxg
    have hw:=wrap_succ h (by omega)
    have ht:=PL.take_succ hx
    have hlk:=PL.lenT hx
    obtain⟨ax,tx,ax2⟩:=time_ok fu hxg (by omega)
    have one:∀t,t=tmS 8 times x→(∀q∈left.take k,tmS 8 times q≠t)→[k]=idxs (isT (tmS 8 times) t) (left.take (k+1)) 0:=fun t e hne=>by
     rw[ht,idxs_snoc,idxs_nil _ (fun q hq=>by simpa[isT] using hne q hq),hlk]
     simp[isT,e]
    rcases hm with ⟨hk0,hm0⟩ | ⟨t,hmin,hne,hmi⟩
    ·subst hk0;subst hm0
     refine⟨(((0+1:Nat):Int),ints [0]),?_,⟨0+1,[0],rfl,by omega,.inr ⟨tmS 8 times x,fun q hq=>?_,by simp,one _ rfl (fun q hq=>by simp at hq)⟩⟩,by simp only;omega⟩
     ·have e0:(((ints ([]:List Nat)).length:Int)==0)=true:=rfl
      simp only[F.adjointref11_Run_l1,dec_lt hx,cond_true,idx_nat hx,Option.bind_some,e0,hw]
      rfl
     ·rw[ht] at hq
      simp at hq
      rw[hq];exact ltL_irr _
    ·obtain⟨i0,m',rfl⟩:∃i0 m',m=i0::m':=by
      cases m with
      | nil=>exact absurd rfl hne
      | cons a b=>exact⟨a,b,rfl⟩
     have h0:(idxs (isT (tmS 8 times) t) (left.take k) 0)[0]?=some i0:=by rw[←hmi];rfl
     obtain⟨L1,y,L2,l1,l2,l3,l4⟩:=idxs_get _ _ _ _ _ h0
     rw[Nat.zero_add] at l2
     have hy:left[i0]?=some y:=by
      have:(left.take k)[i0]?=some y:=by rw[l1,l2];simp
      rw[List.getElem?_take] at this
      split at this
      ·exact this
      ·cases this
     have hyt:tmS 8 times y=t:=by simpa[isT] using l3
     obtain⟨ay,ty,ay2⟩:=time_ok fu (hq y (List.mem_of_getElem? hy)) (by omega)
     rw[hyt] at ay2
     have b:=before_ok fu ax ay (by omega)
     rw[ax2,ay2] at b
     have bq:eqI [ax.a0,ax.a1,ax.a2,ax.a3,ax.a4,ax.a5,ax.a6,ax.a7] [ay.a0,ay.a1,ay.a2,ay.a3,ay.a4,ay.a5,ay.a6,ay.a7]=decide (tmS 8 times x=t):=by
      rw[eqI_ok,←ax2,←ay2];rfl
     have e0:(((ints (i0::m')).length:Int)==0)=false:=by simp[ints];omega
     have ei:idx (ints (i0::m')) 0=some (i0:Int):=ints_get (k:=0) rfl
     have hml:(i0::m').length≤1024:=by
      rw[hmi,idxs_len]
      refine Nat.le_trans (List.length_filter_le _ _) ?_
      rw[hlk];omega
     have c:=chk_pos (p:=(ints (i0::m')).length+[(k:Int)].length≤maxLen∧((ints (i0::m')).length+[(k:Int)].length)*8≤140737488355328) (by simp only[ints,List.length_map,List.length_singleton,maxLen];omega)
     have hst:∃m2 t2,F.adjointref11_Run_l1 fu times left ((k:Int),ints (i0::m'))=some (.inl (((k+1:Nat):Int),ints m2))∧(∀q∈left.take (k+1),ltL (tmS 8 times q) t2=false)∧m2≠[]∧m2=idxs (isT (tmS 8 times) t2) (left.take (k+1)) 0:=by
      simp only[F.adjointref11_Run_l1,dec_lt hx,cond_true,idx_nat hx,Option.bind_some,e0,cond_false,ei,idx_nat hy,tx,ty,b,hw]
      cases hb:ltL (tmS 8 times x) t with
      | true=>
       refine⟨[k],tmS 8 times x,by simp only[cond_true];rfl,fun q hq=>?_,by simp,one _ rfl (fun q hq e=>?_)⟩
       ·rw[ht] at hq
        rcases List.mem_append.1 hq with h | h
        ·cases h2:ltL (tmS 8 times q) (tmS 8 times x) with
         | false=>rfl
         | true=>have:=ltL_trans h2 hb;rw[hmin q h] at this;cases this
        ·rw[List.mem_singleton.1 h];exact ltL_irr _
       ·have:=hmin q hq
        rw[show tmS 8 times q=tmS 8 times x from e,hb] at this;cases this
      | false=>
       simp only[cond_false,bq]
       by_cases he:tmS 8 times x=t
       ·refine⟨(i0::m')++[k],t,?_,fun q hq=>?_,by simp,?_⟩
        ·simp only[PL.dec_true he,cond_true,c,Option.bind_some]
         simp[ints]
        ·rw[ht] at hq
         rcases List.mem_append.1 hq with h | h
         ·exact hmin q h
         ·rw[List.mem_singleton.1 h];exact hb
        ·rw[ht,idxs_snoc,←hmi,hlk];simp[isT,he]
       ·refine⟨i0::m',t,?_,fun q hq=>?_,hne,?_⟩
        ·simp only[PL.dec_false he,cond_false,Option.bind_some]
        ·rw[ht] at hq
         rcases List.mem_append.1 hq with h | h
         ·exact hmin q h
         ·rw[List.mem_singleton.1 h];exact hb
        ·rw[ht,idxs_snoc,←hmi];simp[isT,he]
     obtain⟨m2,t2,a1,a2,a3,a4⟩:=hst
     exact⟨_,a1,⟨k+1,m2,rfl,by omega,.inr ⟨t2,a2,a3,a4⟩⟩,by simp only;omega⟩
   ·obtain rfl:k=left.length:=by omega
    refine .inr ⟨ints m,by simp only[F.adjointref11_Run_l1,dec_end,cond_false],m,rfl,?_⟩
    rw[List.take_length] at hm
    rcases hm with ⟨h0,h1⟩ | h
    ·exact .inl ⟨List.length_eq_zero_iff.1 h0,h1⟩
    ·exact .inr h) fu (0,ints []) ⟨0,[],rfl,by omega,.inl ⟨rfl,rfl⟩⟩ (by simp only;omega)
 obtain⟨m,rfl,h3⟩:=h2
 exact⟨m,h1,h3⟩
end Go.DN.So
