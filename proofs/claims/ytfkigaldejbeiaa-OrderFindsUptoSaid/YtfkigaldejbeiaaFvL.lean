/-
  Orders: the plain law of OrderRuns: all spots, with their times.
-/
import Derived.Test.YtfkigaldejbeiaaFvK
set_option linter.unusedSectionVars false
set_option linter.unusedSimpArgs false
set_option linter.unusedVariables false
namespace Go.DN.So
open Go.AM Go.DN
theorem long_ok (fu:Nat){times:List (List SRow)}(h8:∀x∈times,x.length≤8) (hl:times.length≤256) (hf:1000<fu):
  ∃long:Nat,long≤8∧(∀x∈times,x.length≤long)∧loopF (F.order_spots_l1 fu times) fu (0,0)=some (long:Int):=by
 obtain⟨r,h1,h2⟩:=loopF_inv (body:=F.order_spots_l1 fu times)
  (fun q:Int×Int=>∃k m:Nat,q=((k:Int),(m:Int))∧k≤times.length∧m≤8∧∀(j:Nat) (x:List SRow),j<k→times[j]?=some x→x.length≤m)
  (fun q=>times.length-q.1.toNat) (fun r=>∃m:Nat,r=(m:Int)∧m≤8∧∀x∈times,x.length≤m) (by
   rintro⟨i,v⟩ ⟨k,m,e,hk,hm,hj⟩
   cases e
   by_cases h:k<times.length
   ·have hx:times[k]?=some times[k]:=List.getElem?_eq_getElem h
    have hw:=wrap_succ h (by omega)
    have hx8:=h8 _ (List.getElem_mem h)
    refine .inl ⟨(((k+1:Nat):Int),((max times[k].length m:Nat):Int)),?_,⟨k+1,_,rfl,by omega,by omega,fun j x hj1 hj2=>?_⟩,by simp only;omega⟩
    ·simp only[F.order_spots_l1,dec_lt hx,cond_true,idx_nat hx,Option.bind_some,hw]
     split <;> (congr 4;omega)
    ·by_cases hjk:j=k
     ·subst hjk;rw[hx] at hj2;cases hj2;omega
     ·have:=hj j x (by omega) hj2;omega
   ·obtain rfl:k=times.length:=by omega
    refine .inr ⟨(m:Int),by simp only[F.order_spots_l1,dec_end,cond_false],m,rfl,hm,fun x hx=>?_⟩
    obtain⟨j,hj2⟩:=List.getElem?_of_mem hx
    exact hj j x (get_lt hj2) hj2) fu (0,0) ⟨0,0,rfl,by omega,by omega,fun j x h=>by omega⟩ (by simp only;omega)
 obtain⟨m,rfl,h3,h4⟩:=h2
 exact⟨m,h3,h4,h1⟩
def spotsF (n:SNest) (k:Nat):List SSpot:=(n.Stmts.zipIdx.drop k).flatMap fun q=>spotsOf q.2 q.1
theorem spotsF_step {n:SNest}{k:Nat}{s:SStmt}(h:n.Stmts[k]?=some s):spotsF n k=spotsOf k s++spotsF n (k+1):=by
 have hz:n.Stmts.zipIdx[k]?=some (s,k):=by rw[List.getElem?_zipIdx,h];simp
 have hk:=get_lt hz
 unfold spotsF
 rw[List.drop_eq_getElem_cons hk,List.flatMap_cons]
 rw[(List.getElem?_eq_some_iff.1 hz).2]
theorem spotsF_end (n:SNest):spotsF n n.Stmts.length=[]:=by
 unfold spotsF
 rw[List.drop_eq_nil_of_le (by simp)];rfl
theorem spotsL_ok (fu:Nat){n:SNest}{times:List (List SRow)}(go:GoodO n times){long:Nat}(h2:long≤8) (hlong:∀x∈times,x.length≤long) (hf:2000000<fu):
  ∀(m k:Nat) (o:Box1) (f:Nat),k+m=n.Stmts.length→m<f→
  (o.1.length+(spotsF n k).length≤1024→∃o':Box1,loopF (F.order_spots_l2 fu n) f ((k:Int),times,0,(long:Int),[],o.1)=some (.brk (times,0,(long:Int),[],o'.1))∧o'.1.map pr=o.1.map pr++(spotsF n k).map (pq long times))∧
  (1024<o.1.length+(spotsF n k).length→loopF (F.order_spots_l2 fu n) f ((k:Int),times,0,(long:Int),[],o.1)=some (.ret (5,[])))
 | 0,k,o,f,hk,hm=>by
  obtain⟨f,rfl⟩:∃g,f=g+1:=⟨f-1,by omega⟩
  obtain rfl:k=n.Stmts.length:=by omega
  rw[spotsF_end]
  refine⟨fun _=>⟨o,by simp only[loopF,F.order_spots_l2,dec_end,cond_false],by simp⟩,fun h=>by have:=o.2.1;simp at h;omega⟩
 | m+1,k,o,f,hk,hm=>by
  obtain⟨f,rfl⟩:∃g,f=g+1:=⟨f-1,by omega⟩
  obtain⟨hl,hz,hg⟩:=good_all go.wn
  have hks:k<n.Stmts.length:=by omega
  have hs:n.Stmts[k]?=some n.Stmts[k]:=List.getElem?_eq_getElem hks
  generalize n.Stmts[k]=s at hs
  have gs:=hg s (List.mem_of_getElem? hs)
  have hkt:k<times.length:=by rw[go.len];omega
  have ht:times[k]?=some times[k]:=List.getElem?_eq_getElem hkt
  generalize times[k]=rows at ht
  obtain⟨r8,rW⟩:=go.row k rows s ht hs
  have ha:=allS_ok fu gs.over ht rW (hlong rows (List.mem_of_getElem? ht)) h2 gs.bad o (by omega)
  have hw:=wrap_succ hks (by omega)
  obtain⟨r1,r2⟩:=runS long k rows (pts s.Over) o
  rw[spotsF_step hs]
  have hlen:(spotsOf k s).length=(pts s.Over).length:=by simp[spotsOf]
  have b0:((0:Int)==0)=true:=rfl
  have b2:((2:Int)==0)=false:=rfl
  have b3:((2:Int)==1)=false:=rfl
  have hgd:times.getD k []=rows:=by rw[List.getD_eq_getElem?_getD,ht];rfl
  simp only[loopF,F.order_spots_l2,dec_lt hs,cond_true,idx_nat hs,Option.bind_some,F.points_All,ha,List.length_append,hlen]
  by_cases hroom:o.1.length+(pts s.Over).length≤1024
  ·obtain⟨g1,g2⟩:=r1 hroom
   have hlo:(runY (yS long k rows) (pts s.Over) o).1.1.length=o.1.length+(pts s.Over).length:=by
    have:=congrArg List.length g2
    simpa using this
   obtain⟨q1,q2⟩:=spotsL_ok fu go h2 hlong hf m (k+1) (runY (yS long k rows) (pts s.Over) o).1 f (by omega) (by omega)
   simp only[g1,if_true,b0,cond_true,hw]
   refine⟨fun h=>?_,fun h=>q2 (by omega)⟩
   obtain⟨o',e1,e2⟩:=q1 (by omega)
   refine⟨o',e1,?_⟩
   rw[e2,g2,List.map_append,List.append_assoc]
   congr 2
   unfold spotsOf
   rw[List.map_map]
   refine List.map_congr_left fun x _=>?_
   simp only[Function.comp,pq,tmS,Int.toNat_natCast,hgd]
  ·have g1:=r2 (by omega)
   simp only[g1,if_false,b2,cond_false,b3]
   refine⟨fun h=>by omega,fun _=>trivial⟩
theorem orderSpots_ok (fu:Nat){n:SNest}{times:List (List SRow)}(go:GoodO n times) (hs:n.Sizes.length≤1048576) (hf:68719476750<fu):
  (1024<(spots n).length∧F.order_spots fu n times=some (5,[])∧F.adjointref11_Right fu n times=some 5)∨
  ((spots n).length≤1024∧F.adjointref11_Right fu n times=some 0∧∃(long:Nat) (o:List Sspot),long≤8∧(∀x∈times,x.length≤long)∧F.order_spots fu n times=some (0,o)∧o.map pr=(spots n).map (pq long times)∧Num o):=by
 obtain⟨hl,hz,hg⟩:=good_all go.wn
 have hw:oW n times=0:=by
  unfold oW
  rw[if_neg (by have:=go.wn;omega),if_neg (by have:=go.len;omega)]
  have:∀l:List (List SRow×Nat),(∀q∈l,timeW n q=0)→PL.firstW (timeW n) l=0:=fun l=>by
   induction l with
   | nil=>intro _;rfl
   | cons q l ih=>intro h;rw[PL.firstW_cons,if_pos (h q List.mem_cons_self)];exact ih fun q hq=>h q (List.mem_cons_of_mem _ hq)
  refine this _ fun q hq=>?_
  obtain⟨k,hk⟩:=List.getElem?_of_mem hq
  obtain⟨e1,e2⟩:=zip_get hk
  have hks:k<n.Stmts.length:=by rw[←go.len];exact get_lt e1
  have hsk:n.Stmts[k]?=some n.Stmts[k]:=List.getElem?_eq_getElem hks
  obtain⟨r8,rW⟩:=go.row k q.1 _ e1 hsk
  unfold timeW
  rw[if_neg (by omega),e2]
  have:∀l:List SRow,(∀r∈l,rowW r (boxL n k)=0)→PL.firstW (fun r=>rowW r (boxL n k)) l=0:=fun l=>by
   induction l with
   | nil=>intro _;rfl
   | cons q l ih=>intro h;rw[PL.firstW_cons,if_pos (h q List.mem_cons_self)];exact ih fun q hq=>h q (List.mem_cons_of_mem _ hq)
  refine this _ fun r hr=>?_
  simp only[boxL,hsk]
  exact rW r hr
 obtain⟨w1,w2⟩:=oWrong_ok fu n times hs (by omega)
 obtain⟨long,l1,l2,l3⟩:=long_ok fu (fun x hx=>by
  obtain⟨k,hk⟩:=List.getElem?_of_mem hx
  have hks:k<n.Stmts.length:=by rw[←go.len];exact get_lt hk
  exact(go.row k x _ hk (List.getElem?_eq_getElem hks)).1) (by rw[go.len];exact hl) (by omega)
 obtain⟨q1,q2⟩:=spotsL_ok fu go l1 l2 (by omega) n.Stmts.length 0 ⟨[],by simp,fun i s h=>by simp at h⟩ fu (by omega) (by omega)
 have hsp:spotsF n 0=spots n:=rfl
 rw[hsp] at q1 q2
 have hR:=spots_ok fu hg hl hf
 have b0:((0:Int) !=0)=false:=rfl
 by_cases h:(spots n).length≤1024
 ·obtain⟨o',e1,e2⟩:=q1 (by simpa using h)
  refine .inr ⟨h,?_,long,o'.1,l1,l2,?_,by simpa using e2,o'.2.2⟩
  ·unfold F.adjointref11_Right
   rw[w2,hw]
   simp only[Option.bind_some,b0,cond_false,hR,PL.dec_false (show ¬((spots n).length:Int)>1024 by omega)]
  ·unfold F.order_spots
   rw[w1,hw]
   have e1:loopF (F.order_spots_l2 fu n) fu (0,times,0,(long:Int),[],[])=_:=e1
   simp only[Option.bind_some,b0,cond_false,l3,e1]
   rfl
 ·refine .inl ⟨by omega,?_,?_⟩
  ·unfold F.order_spots
   rw[w1,hw]
   have e1:loopF (F.order_spots_l2 fu n) fu (0,times,0,(long:Int),[],[])=_:=q2 (by simp;omega)
   simp only[Option.bind_some,b0,cond_false,l3,e1]
   rfl
  ·unfold F.adjointref11_Right
   rw[w2,hw]
   simp only[Option.bind_some,b0,cond_false,hR,PL.dec_true (show((spots n).length:Int)>1024 by omega),cond_true]
end Go.DN.So
