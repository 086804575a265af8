/-
  Orders: the plain law of OrderRuns: the turns of one time, there and at the reference.
-/
import Derived.Test.YtfkigaldejbeiaaOvN
set_option linter.unusedSectionVars false
set_option linter.unusedSimpArgs false
set_option linter.unusedVariables false
namespace Go.DN.So
open Go.AM Go.DN
abbrev MemO (n:SNest):={m:List (List Int) // Fits n m}
def FQ (T:SSpot→List Int) (L M:List SSpot):Prop:=∀t,L.filter (isT T t)=M.filter (isT T t)
theorem FQ.mem {T:SSpot→List Int}{L M:List SSpot}(h:FQ T L M){q:SSpot}(hq:q∈L):q∈M:=by
 have:q∈L.filter (isT T (T q)):=List.mem_filter.2 ⟨hq,by simp[isT]⟩
 rw[h] at this
 exact(List.mem_filter.1 this).1
theorem FQ.symm {T:SSpot→List Int}{L M:List SSpot}(h:FQ T L M):FQ T M L:=fun t=>(h t).symm
theorem filter_all {α:Type}{p:α→Bool}{l:List α}(h:∀x∈l,p x=true):l.filter p=l:=List.filter_eq_self.2 h
theorem filter_none {α:Type}{p:α→Bool}{l:List α}(h:∀x∈l,p x=false):l.filter p=[]:=List.filter_eq_nil_iff.2 fun x hx=>by rw[h x hx];decide
theorem part_cut {α:Type}(L1 L2:List α) (x:α):([]++lpart (L1++x::L2) 0 (L1.length:Int))++lpart (L1++x::L2) ((L1.length+1:Nat):Int) ((L1++x::L2).length:Int)=L1++L2:=by
 unfold lpart
 simp only[Int.toNat_natCast,Int.toNat_zero,List.drop_zero,Nat.sub_zero,List.nil_append]
 rw[List.take_append_of_le_length (Nat.le_refl _),List.take_length,show L1++x::L2=(L1++[x])++L2 by simp,List.drop_append_of_le_length (by simp),List.drop_eq_nil_of_le (by simp),List.nil_append]
 rw[List.take_of_length_le (by simp;omega)]
section
variable {n:SNest}{times:List (List SRow)}{mix:List Int}
theorem ref_turn (fu:Nat) (hf:2000<fu){L1 L2:List SSpot}{x:SSpot}(hq:∀q∈L1++x::L2,GoodQ n times q) (hl:(L1++x::L2).length≤1024) (m:List Nat) (hm:loopF (F.adjointref11_Run_l1 fu times (L1++x::L2)) fu (0,[])=some (ints m))
  {s:SStmt}(hs:n.Stmts[x.Stmt.toNat]?=some s) (gs:GoodS n s) (mem:MemO n){turn turn':Nat}{i0:Nat}(h0:m[0]?=some i0)
  (hp:(cond (decide ((mix.length:Int)>0)) ((chk ((mix.length:Int)≠0)).bind fun _=>(idx mix (Int.tmod (turn:Int) (mix.length:Int))).bind fun x29=>(chk (((ints m).length:Int)≠0)).bind fun _=>
   (cond (decide ((Int.tmod x29 ((ints m).length:Int))<0)) (some (IntKind.wrap .i64 ((Int.tmod x29 ((ints m).length:Int))+((ints m).length:Int)))) (some (Int.tmod x29 ((ints m).length:Int)))).bind fun (k30:Int)=>
   (idx (ints m) k30).bind fun x31=>some (x31,IntKind.wrap .i64 ((turn:Int)+1))) (some ((i0:Int),(turn:Int))))=some ((L1.length:Int),(turn':Int))):
  F.adjointref11_Run_l2 fu n times mix ((turn:Int),L1++x::L2,mem.1)=some (.inl ((turn':Int),L1++L2,doM s x.At mem.1)):=by
 have gx:=hq x (by simp)
 obtain⟨s',rows,g1,g2,g3,g4,g5,_⟩:=gx.ex
 rw[hs] at g1
 cases g1
 have hlen:(L1++x::L2).length=L1.length+1+L2.length:=by simp;omega
 have d:decide (((L1++x::L2).length:Int)>0)=true:=PL.dec_true (by omega)
 have ix:idx (L1++x::L2) (L1.length:Int)=some x:=idx_nat (by simp)
 have hd:=refDo_ok fu gs g4 g5 mem.2 (by omega)
 have hb:Nat.beq (doM s x.At mem.1).length mem.1.length=true:=by rw[(doM_fits gs x.At mem.2).len,mem.2.len];exact Nat.beq_refl _
 have hw:IntKind.i64.wrap ((L1.length:Int)+1)=((L1.length+1:Nat):Int):=by rw[i64 (by omega) (by omega)];omega
 unfold F.adjointref11_Run_l2
 simp only[d,cond_true,hm,Option.bind_some,ints_get (k:=0) h0,show idx (ints m) 0=some (i0:Int) from ints_get (k:=0) h0]
 rw[hp]
 simp only[Option.bind_some,ix,idxT gx.pos hs,hd,hb,cond_true,hw]
 have p1:=lpart_length (l:=L1++x::L2) (i:=0) (j:=(L1.length:Int)) (by omega) (by omega) (by omega)
 have p2:=lpart_length (l:=L1++x::L2) (i:=((L1.length+1:Nat):Int)) (j:=((L1++x::L2).length:Int)) (by omega) (by omega) (by omega)
 rw[chk_pos (by omega),Option.bind_some,chk_pos (by omega),Option.bind_some,chk_pos (by rw[p1];simp only[List.length_nil,maxLen];omega),Option.bind_some,
  chk_pos (by rw[List.length_append,p1,p2];simp only[List.length_nil,maxLen];omega),Option.bind_some,part_cut]
theorem inner_ok (fu:Nat) (hf:2000<fu) (t0:List Int) (R:List Sspot) (hR:∀s∈R,ltL t0 (tmS 8 times s.Spot)=true∧GoodQ n times s.Spot):
  ∀(c:Nat) (N J:List Sspot) (L:List SSpot) (turn:Nat) (mem:MemO n) (f:Nat),N.length=c→c<f→N.length+J.length≤2000→(∀s∈N,tmS 8 times s.Spot=t0∧GoodQ n times s.Spot)→FQ (tmS 8 times) L ((N++R).map (·.Spot))→L.length=N.length+R.length→L.length≤1024→turn+c≤4000→
  ∃(turn':Nat) (mem':MemO n) (L':List SSpot) (J':List Sspot),turn'≤turn+c∧FQ (tmS 8 times) L' (R.map (·.Spot))∧L'.length=R.length∧
   loopF (F.order_Run_l1 fu n mix) f ((turn:Int),0,(c:Int),mem.1,N++J)=some ((turn':Int),mem'.1,J')∧∀f2,loopF (F.adjointref11_Run_l2 fu n times mix) (f2+c) ((turn:Int),L,mem.1)=loopF (F.adjointref11_Run_l2 fu n times mix) f2 ((turn':Int),L',mem'.1)
 | 0,N,J,L,turn,mem,f,hc,hcf,hl,hN,hL,hLl,hL2,ht=>by
  obtain⟨f,rfl⟩:∃g,f=g+1:=⟨f-1,by omega⟩
  obtain rfl:N=[]:=List.length_eq_zero_iff.1 hc
  refine⟨turn,mem,L,J,by omega,by simpa using hL,by simpa using hLl,?_,fun f2=>rfl⟩
  simp only[loopF,F.order_Run_l1]
  rfl
 | c+1,N,J,L,turn,mem,f,hc,hcf,hl,hN,hL,hLl,hL2,ht=>by
  obtain⟨f,rfl⟩:∃g,f=g+1:=⟨f-1,by omega⟩
  have hqL:∀q∈L,GoodQ n times q:=fun q hq=>by
   obtain⟨s,h1,h2⟩:=List.mem_map.1 (hL.mem hq)
   rw[←h2]
   rcases List.mem_append.1 h1 with h | h
   ·exact(hN s h).2
   ·exact(hR s h).2
  have hFN:∀l:List Sspot,(∀s∈l,s∈N)→(l.map (·.Spot)).filter (isT (tmS 8 times) t0)=l.map (·.Spot):=fun l h=>filter_all fun q hq=>by
   obtain⟨s,h1,h2⟩:=List.mem_map.1 hq
   rw[←h2];simp only[isT,(hN s (h s h1)).1,decide_true]
  have hFR:(R.map (·.Spot)).filter (isT (tmS 8 times) t0)=[]:=filter_none fun q hq=>by
   obtain⟨s,h1,h2⟩:=List.mem_map.1 hq
   rw[←h2]
   have:=(hR s h1).1
   simp only[isT,decide_eq_false_iff_not]
   intro e
   rw[e,ltL_irr] at this;cases this
  have hLt:L.filter (isT (tmS 8 times) t0)=N.map (·.Spot):=by
   rw[hL t0,List.map_append,List.filter_append,hFR,hFN N (fun _ h=>h),List.append_nil]
  obtain⟨m,m1,m2⟩:=least_ok fu hqL hL2 hf
  have hmi:m≠[]∧m=idxs (isT (tmS 8 times) t0) L 0:=by
   rcases m2 with ⟨e,_⟩ | ⟨t,a1,a2,a3⟩
   ·rw[e] at hLl;simp at hLl;omega
   ·have ht0:t=t0:=by
     obtain⟨i,hi⟩:∃i,m[0]?=some i:=by cases m with | nil=>exact absurd rfl a2 | cons a b=>exact⟨a,rfl⟩
     rw[a3] at hi
     obtain⟨L1,q,L2,b1,_,b3,_⟩:=idxs_get _ _ _ _ _ hi
     have hq:q∈L:=by rw[b1];simp
     have hqt:tmS 8 times q=t:=by simpa[isT] using b3
     obtain⟨s,h1,h2⟩:=List.mem_map.1 (hL.mem hq)
     rw[←h2] at hqt
     rcases List.mem_append.1 h1 with h | h
     ·rw[←hqt,(hN s h).1]
     ·have g:=(hR s h).1
      rw[hqt] at g
      obtain⟨y,N',rfl⟩:∃y N',N=y::N':=by cases N with | nil=>simp at hc | cons a b=>exact⟨a,b,rfl⟩
      have:=a1 y.Spot (hL.symm.mem (by simp))
      rw[(hN y (by simp)).1,g] at this
      cases this
    subst ht0
    exact⟨a2,a3⟩
  have hml:m.length=c+1:=by rw[hmi.2,idxs_len,hLt,List.length_map,hc]
  obtain⟨k,turn',k1,k2,k3,k4⟩:=pick_ok mix turn (c+1) (by omega) (by omega) (by omega)
  obtain⟨i0,hi0⟩:∃i,m[0]?=some i:=⟨_,List.getElem?_eq_getElem (by omega)⟩
  obtain⟨i,hi⟩:∃i,m[k]?=some i:=⟨_,List.getElem?_eq_getElem (by omega)⟩
  have hpick:=k4 (ints m) (by simpa[ints] using hml) (i0:Int) (ints_get (k:=0) hi0) (i:Int) (ints_get hi)
  rw[hmi.2] at hi
  obtain⟨L1,x,L2,rfl,l2,l3,l4⟩:=idxs_get _ _ _ _ _ hi
  rw[Nat.zero_add] at l2
  subst l2
  have hxt:tmS 8 times x=t0:=by simpa[isT] using l3
  rw[List.filter_append,List.filter_cons,if_pos l3] at hLt
  obtain⟨N1,y,N2,rfl,n1,n2,n3⟩:∃N1 y N2,N=N1++y::N2∧N1.map (·.Spot)=L1.filter (isT (tmS 8 times) t0)∧y.Spot=x∧N2.map (·.Spot)=L2.filter (isT (tmS 8 times) t0):=by
   obtain⟨a,b,e1,e2,e3⟩:=List.map_eq_append_iff.1 hLt.symm
   obtain⟨y,N2,e4,e5,e6⟩:=List.map_eq_cons_iff.1 e3
   exact⟨a,y,N2,by rw[e1,e4],e2,e5,e6⟩
  have hn1:N1.length=k:=by rw[←l4,←n1,List.length_map]
  have hlen:(N1++y::N2).length=N1.length+1+N2.length:=by simp;omega
  have gy:=hN y (by simp)
  obtain⟨s,rows,g1,g2,g3,g4,g5,_⟩:=gy.2.ex
  have g1':=g1
  rw[n2] at g1'
  have hturn:=ref_turn (mix:=mix) fu hf hqL hL2 m m1 g1' g3 mem hi0 hpick
  have hD:=nestDo_ok fu g3 g4 g5 mem.2 (by omega)
  obtain⟨J',j1,j2⟩:=del_ok fu N1 N2 J y (by omega) (a:=(((Int.toNat 0:Nat)):Int)) (b:=(((Int.toNat ((c+1:Nat):Int):Nat)):Int)) (c:=(k:Int)) (d:=IntKind.wrap .i64 ((k:Int)+1)) rfl (by rw[Int.toNat_natCast];omega) (by omega) (by rw[i64 (by omega) (by omega)];omega)
  have hFQ:FQ (tmS 8 times) (L1++L2) (((N1++N2)++R).map (·.Spot)):=fun t=>by
   have:=hL t
   by_cases ht:t0=t
   ·subst ht
    rw[List.filter_append,←n1,←n3,List.map_append,List.map_append,List.filter_append,List.filter_append,hFR,hFN N1 (fun s h=>by simp[h]),hFN N2 (fun s h=>by simp[h]),List.append_nil]
   ·have b1:isT (tmS 8 times) t x=false:=by simp only[isT,hxt,decide_eq_false_iff_not];exact ht
    simp only[List.map_append,List.map_cons,List.filter_append,List.filter_cons,n2,b1] at this⊢
    simpa using this
  obtain⟨turn2,mem2,L',J2,a1,a2,a3,a4,a5⟩:=inner_ok fu hf t0 R hR c (N1++N2) J' (L1++L2) turn' ⟨doM s y.Spot.At mem.1,doM_fits g3 _ mem.2⟩ f (by rw[List.length_append];omega) (by omega) (by rw[List.length_append];omega)
   (fun s hs=>hN s (by rcases List.mem_append.1 hs with h | h <;> simp[h])) hFQ (by rw[List.length_append,List.length_cons] at hLl;rw[List.length_append,List.length_append];omega) (by rw[List.length_append,List.length_cons] at hL2;rw[List.length_append];omega) (by omega)
  refine⟨turn2,mem2,L',J2,by omega,a2,a3,?_,fun f2=>?_⟩
  ·have d:decide ((((Int.toNat ((c+1:Nat):Int)):Nat):Int)>0)=true:=PL.dec_true (by rw[Int.toNat_natCast];omega)
   have z:Int.toNat 0=0:=rfl
   have iy:((N1++y::N2)++J)[0+k]?=some y:=by rw[Nat.zero_add,←hn1];simp
   have hb:Nat.beq (doM s y.Spot.At mem.1).length mem.1.length=true:=by rw[(doM_fits g3 y.Spot.At mem.2).len,mem.2.len];exact Nat.beq_refl _
   have hb2:Nat.beq (N1++(N2++J')).length (N1++(y::(N2++J))).length=true:=beqL (by simp only[List.length_append,List.length_cons];omega)
   have c1:=chk_pos (p:=(0:Int)≤(k:Int)∧(k:Int)<((c+1:Nat):Int)) (by omega)
   rw[Int.toNat_natCast,z] at j2
   simp only[loopF,F.order_Run_l1,d,cond_true]
   simp only[Int.toNat_natCast,z]
   rw[k3]
   simp only[Option.bind_some,c1,Int.toNat_natCast,iy,idxT gy.2.pos g1,hD,hb,cond_true]
   rw[show(N1++y::N2)++J=N1++(y::(N2++J)) by simp]
   simp only[j2,Option.bind_some,hb2,cond_true,z,Int.toNat_natCast]
   rw[show((N1.length+N2.length:Nat):Int)=(c:Int) by omega]
   simpa using a4
  ·rw[show f2+(c+1)=(f2+c)+1 from rfl]
   simp only[loopF,hturn]
   rw[←n2]
   exact a5 f2
end
end Go.DN.So
