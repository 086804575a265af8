/-
  Orders: the plain law of OrderRuns: all turns; the law over F.
-/
import Derived.Test.YtfkigaldejbeiaaOvO
set_option linter.unusedSectionVars false
set_option linter.unusedSimpArgs false
set_option linter.unusedVariables false
namespace Go.DN.So
open Go.AM Go.DN
theorem equal_ok (fu:Nat) (a b:List Int) (h:a.length≤1000) (hf:2000<fu):F.slices_Equal fu a b=some (decide (a=b)):=by
 unfold F.slices_Equal
 by_cases hl:a.length=b.length
 ·have:=equal_loop a b hl (by omega) fu (by omega)
  have this:loopF (F.slices_Equal_l1 fu a b) fu 0=_:=this
  rw[PL.bne_false (by omega),this]
  by_cases he:a=b
  ·simp only[he,if_true,decide_true];rfl
  ·simp only[he,if_false,decide_false];rfl
 ·rw[PL.bne_true (by omega),PL.dec_false (fun e=>hl (by rw[e]))]
  rfl
theorem split_time (t:List Int):∀M:List Sspot,∃N R,M=N++R∧(∀s∈N,s.time=t)∧(R=[]∨∃z R',R=z::R'∧z.time≠t)
 | []=>⟨[],[],rfl,by simp,.inl rfl⟩
 | x::M=>by
  by_cases h:x.time=t
  ·obtain⟨N,R,e,h1,h2⟩:=split_time t M
   refine⟨x::N,R,by rw[e];rfl,fun s hs=>?_,h2⟩
   rcases List.mem_cons.1 hs with hs | hs
   ·rw[hs];exact h
   ·exact h1 s hs
  ·exact⟨[],x::M,rfl,by simp,.inr ⟨x,M,rfl,h⟩⟩
theorem index_ok (fu:Nat) (hf:5000<fu){D N R:List Sspot}{x:Sspot}(hx:(N++R)[0]?=some x) (hN:∀s∈N,s.time=x.time) (hNl:0<N.length) (hR:R=[]∨∃z R',R=z::R'∧z.time≠x.time) (ht:Tm (N++R)) (hl:N.length+R.length≤2000):
  F.slices_IndexFunc_4 fu (D.length:Int) ((N.length+R.length:Nat):Int) (D++(N++R)) (D.length:Int) ((N.length+R.length:Nat):Int)=some (if R=[] then -1 else(N.length:Int),D++(N++R),(D.length:Int),((N.length+R.length:Nat):Int)):=by
 have hx0:(D++(N++R))[D.length+0]?=some x:=by rw[List.getElem?_append_right (by omega),Nat.add_sub_cancel_left];exact hx
 have hrun:∀s:Sspot,s.time.length≤1000→F.order_Run_2_2 fu s (D.length:Int) ((N.length+R.length:Nat):Int) (D++(N++R))=some (!(decide (s.time=x.time)),(D.length:Int),((N.length+R.length:Nat):Int),D++(N++R)):=fun s hs=>by
  unfold F.order_Run_2_2
  simp only[Int.toNat_natCast,show Int.toNat 0=0 from rfl,hx0,Option.bind_some,equal_ok fu _ _ hs (by omega)]
  rw[chk_pos (by omega),Option.bind_some]
 have hb:Nat.beq (D++(N++R)).length (D++(N++R)).length=true:=Nat.beq_refl _
 have hloop:=loopF_val (body:=F.slices_IndexFunc_4_l1 fu ((N.length+R.length:Nat):Int))
  (fun q=>∃k:Nat,q=((k:Int),(D.length:Int),((N.length+R.length:Nat):Int),(D.length:Int),((N.length+R.length:Nat):Int),D++(N++R))∧k≤N.length)
  (fun q=>N.length-q.1.toNat) (if R=[] then Ex.brk ((D.length:Int),((N.length+R.length:Nat):Int),D++(N++R)) else Ex.ret ((N.length:Int),D++(N++R),(D.length:Int),((N.length+R.length:Nat):Int))) (by
   rintro _ ⟨k,rfl,hk⟩
   by_cases hk2:k<N.length
   ·have hs:(N++R)[k]?=some N[k]:=by rw[List.getElem?_append_left hk2];exact List.getElem?_eq_getElem hk2
    have hsD:(D++(N++R))[D.length+k]?=some N[k]:=by rw[List.getElem?_append_right (by omega),Nat.add_sub_cancel_left];exact hs
    have hst:=hN _ (List.getElem_mem hk2)
    refine .inl ⟨(((k+1:Nat):Int),(D.length:Int),((N.length+R.length:Nat):Int),(D.length:Int),((N.length+R.length:Nat):Int),D++(N++R)),?_,⟨k+1,rfl,by omega⟩,by simp only;omega⟩
    have hw:IntKind.i64.wrap ((k:Int)+1)=((k+1:Nat):Int):=by rw[i64 (by omega) (by omega)];omega
    have d:decide ((k:Int)<((N.length+R.length:Nat):Int))=true:=PL.dec_true (by omega)
    have c:=chk_pos (p:=(0:Int)≤(k:Int)∧(k:Int)<((N.length+R.length:Nat):Int)) (by omega)
    simp only[F.slices_IndexFunc_4_l1,Int.toNat_natCast,d,cond_true,c,Option.bind_some,hsD,hrun _ (ht _ (List.mem_of_getElem? hs)),hb,hst,decide_true,Bool.not_true,cond_false,hw]
   ·obtain rfl:k=N.length:=by omega
    refine .inr ?_
    rcases hR with rfl | ⟨z,R',rfl,hz⟩
    ·have d:decide ((N.length:Int)<((N.length+([]:List Sspot).length:Nat):Int))=false:=PL.dec_false (by simp)
     simp only[F.slices_IndexFunc_4_l1,Int.toNat_natCast,d,cond_false,if_true]
    ·have hs:(N++z::R')[N.length]?=some z:=by simp
     have hsD:(D++(N++z::R'))[D.length+N.length]?=some z:=by rw[List.getElem?_append_right (by omega),Nat.add_sub_cancel_left];exact hs
     have d:decide ((N.length:Int)<((N.length+(z::R').length:Nat):Int))=true:=PL.dec_true (by simp;omega)
     have c:=chk_pos (p:=(0:Int)≤(N.length:Int)∧(N.length:Int)<((N.length+(z::R').length:Nat):Int)) (by simp;omega)
     simp only[F.slices_IndexFunc_4_l1,Int.toNat_natCast,d,cond_true,c,Option.bind_some,hsD,hrun _ (ht _ (List.mem_of_getElem? hs)),hb,hz,decide_false,Bool.not_false]
     rfl) fu (0,(D.length:Int),((N.length+R.length:Nat):Int),(D.length:Int),((N.length+R.length:Nat):Int),D++(N++R)) ⟨0,rfl,by omega⟩ (by simp only;omega)
 unfold F.slices_IndexFunc_4
 simp only[Int.toNat_natCast]
 rw[hloop]
 by_cases h:R=[]
 ·simp only[h,if_true];rfl
 ·simp only[h,if_false];rfl
theorem clone3_ok (fu:Nat){D N R:List Sspot}(hNl:0<N.length) (hl:N.length≤2000):F.slices_Clone_3 fu (D.length:Int) (N.length:Int) (D++(N++R))=some (D++(N++R),N):=by
 unfold F.slices_Clone_3 nilF
 have e:((D++(N++R)).drop D.length).take N.length=N:=by simp
 simp only[Int.toNat_natCast,e]
 rw[if_neg (by omega),chk_pos (by simp only[List.length_append];omega),Option.bind_some,chk_pos (by simp only[List.length_nil,maxLen];omega),Option.bind_some,List.nil_append]
section
variable {n:SNest}{times:List (List SRow)}{mix:List Int}
def JS (n:SNest) (times:List (List SRow)) (long:Nat) (s:Sspot):Prop:=s.time=tmS long times s.Spot∧GoodQ n times s.Spot
theorem outer_ok (fu:Nat) (hf:6000<fu){long:Nat}(h8:long≤8) (hlong:∀x∈times,x.length≤long):
  ∀(c:Nat) (M D:List Sspot) (L:List SSpot) (turn:Nat) (mem:MemO n) (f f2:Nat),M.length≤c→c<f→M.length<f2→M.length≤1024→Srt M→(∀s∈M,JS n times long s)→FQ (tmS 8 times) L (M.map (·.Spot))→L.length=M.length→turn+M.length≤3000→
  ∃(mem':MemO n) (w:List Sspot) (a b:Int),loopF (F.order_Run_l2 fu n mix) f ((turn:Int),D++M,mem.1,(D.length:Int),(M.length:Int))=some (w,mem'.1,a,b)∧loopF (F.adjointref11_Run_l2 fu n times mix) f2 ((turn:Int),L,mem.1)=some mem'.1
 | c,[],D,L,turn,mem,f,f2,hc,hcf,hcf2,hl,hs,hj,hL,hLl,ht=>by
  obtain⟨f,rfl⟩:∃g,f=g+1:=⟨f-1,by omega⟩
  obtain⟨f2,rfl⟩:∃g,f2=g+1:=⟨f2-1,by omega⟩
  obtain rfl:L=[]:=List.length_eq_zero_iff.1 hLl
  refine⟨mem,_,_,_,rfl,?_⟩
  simp only[loopF,F.adjointref11_Run_l2]
  rfl
 | 0,x::M,D,L,turn,mem,f,f2,hc,hcf,hcf2,hl,hs,hj,hL,hLl,ht=>by simp at hc
 | c+1,x::M,D,L,turn,mem,f,f2,hc,hcf,hcf2,hl,hs,hj,hL,hLl,ht=>by
  obtain⟨f,rfl⟩:∃g,f=g+1:=⟨f-1,by omega⟩
  obtain⟨N,R,e,hN,hR⟩:=split_time x.time (x::M)
  have hx:(N++R)[0]?=some x:=by rw[←e];rfl
  have hNl:0<N.length:=by
   cases N with
   | cons=>simp
   | nil=>
    rcases hR with rfl | ⟨z,R',rfl,hz⟩
    ·simp at e
    ·simp at e;exact absurd (by rw[←e.1]) hz
  rw[e] at hl hs hj hL hLl ht hc hcf2⊢
  rw[List.length_append] at hl hLl ht hc hcf2⊢
  have h88:∀s∈N++R,tmS 8 times s.Spot=s.time++List.replicate (8-long) 0∧s.time.length=long:=fun s h=>by
   have:=tm8 h8 hlong (hj s h).2
   rw[←(hj s h).1] at this
   exact this
  have hxm:x∈N++R:=List.mem_of_getElem? hx
  have hRlt:∀s∈R,lt x s:=by
   rcases hR with rfl | ⟨z,R',rfl,hz⟩
   ·intro s h;cases h
   ·have hxN:x∈N:=by
     cases N with
     | nil=>simp at hNl
     | cons a b=>simp at hx;rw[hx];simp
    have h1:=hs.mid x hxN z (by simp)
    have hxz:lt x z:=by
     unfold So.lt
     cases hb:ltL x.time z.time with
     | true=>rfl
     | false=>exact absurd (ltL_tri hb h1).symm hz
    intro s h
    rcases List.mem_cons.1 h with h | h
    ·rw[h];exact hxz
    ·exact lt_of_lt_le hxz ((List.pairwise_cons.1 hs.right).1 s h)
  have tm:Tm (N++R):=fun s h=>by rw[(h88 s h).2];omega
  have hidx:=index_ok fu (by omega) (D:=D) hx hN hNl hR tm (by omega)
  have hcl:=clone3_ok fu (D:=D) (R:=R) hNl (by omega)
  obtain⟨turn',mem',L',J',a1,a2,a3,a4,a5⟩:=inner_ok (mix:=mix) fu (by omega) (tmS 8 times x.Spot) R (fun s h=>by
    have h1:=h88 s (List.mem_append_right _ h)
    have h2:=h88 x hxm
    refine⟨?_,(hj s (List.mem_append_right _ h)).2⟩
    rw[h1.1,h2.1,ltL_pad _ (by rw[h1.2,h2.2])]
    exact hRlt s h) N.length N [] L turn mem fu rfl (by omega) (by simp;omega) (fun s h=>by
    have h1:=h88 s (List.mem_append_left _ h)
    have h2:=h88 x hxm
    exact⟨by rw[h1.1,h2.1,hN s h],(hj s (List.mem_append_left _ h)).2⟩) hL hLl (by omega) (by omega)
  have d:decide (((N.length+R.length:Nat):Int)>0)=true:=PL.dec_true (by omega)
  have hb:Nat.beq (D++(N++R)).length (D++(N++R)).length=true:=Nat.beq_refl _
  obtain⟨mem2,w,p,q,b1,b2⟩:=outer_ok fu hf h8 hlong c R (D++N) L' turn' mem' f (f2-N.length) (by omega) (by omega) (by omega) (by omega) hs.right (fun s h=>hj s (List.mem_append_right _ h)) a2 a3 (by omega)
  refine⟨mem2,w,p,q,?_,?_⟩
  ·have hk:(cond (decide ((if R=[] then(-1:Int) else(N.length:Int))<0)) (some ((N.length+R.length:Nat):Int)) (some (if R=[] then(-1:Int) else(N.length:Int))):Option Int)=some (N.length:Int):=by
    by_cases h:R=[]
    ·subst h;simp
    ·simp only[h,if_false,PL.dec_false (show ¬(N.length:Int)<0 by omega),cond_false]
   have c1:=chk_pos (p:=(0:Int)≤(N.length:Int)∧(N.length:Int)≤((N.length+R.length:Nat):Int)) (by omega)
   rw[List.append_nil] at a4
   simp only[loopF,F.order_Run_l2,Int.toNat_natCast,d,cond_true,hidx,Option.bind_some,hb,hk,c1,hcl]
   have a4:loopF (F.order_Run_l1 fu n mix) fu ((turn:Int),((0:Nat):Int),(N.length:Int),mem.1,N)=_:=a4
   rw[a4]
   simp only[Option.bind_some]
   rw[show N.length+R.length-N.length=R.length by omega]
   rw[List.append_assoc,List.length_append] at b1
   exact b1
  ·rw[show f2=(f2-N.length)+N.length by omega,a5]
   exact b2
end
theorem spots_good {n:SNest}{times:List (List SRow)}(go:GoodO n times):∀q∈spots n,GoodQ n times q:=fun q hq=>by
 obtain⟨hl,hz,hg⟩:=good_all go.wn
 unfold spots at hq
 obtain⟨⟨s,k⟩,h1,h2⟩:=List.mem_flatMap.1 hq
 obtain⟨j,hj⟩:=List.getElem?_of_mem h1
 obtain⟨e1,e2⟩:=zip_get hj
 simp only at e1 e2
 subst e2
 unfold spotsOf at h2
 obtain⟨x,hx,rfl⟩:=List.mem_map.1 h2
 have gs:=hg s (List.mem_of_getElem? e1)
 obtain⟨a,b⟩:=pts_mem gs.over hx
 have hk:k<times.length:=by rw[go.len];exact get_lt e1
 have ht:times[k]?=some times[k]:=List.getElem?_eq_getElem hk
 obtain⟨r1,r2⟩:=go.row k _ s ht e1
 exact⟨by simp,s,_,e1,ht,gs,a,b,r1,r2⟩
theorem orderRuns_F (n:SNest) (times:List (List SRow)) (mem:List (List Int)) (mix:List Int) (hs:n.Sizes.length≤1048576):F.adjointlaw11_OrderRuns 70000000000 n times mem mix=some true:=by
 generalize hfu:70000000000=fu
 obtain⟨w1,w2⟩:=oWrong_ok fu n times hs (by omega)
 have fin:∀(a:List (List Int)) (e:Int),F.order_Run fu n times mem mix=some (a,e)→F.adjointref11_Run fu n times mem mix=some (a,e)→F.adjointref10_SameMemory fu a a=some true→F.adjointlaw11_OrderRuns fu n times mem mix=some true:=by
  intro a e h1 h2 h3
  unfold F.adjointlaw11_OrderRuns
  have b:(e==e)=true:=by simp
  simp only[h1,h2,h3,Option.bind_some,cond_true,b]
 have sm0:=same_ok fu [] (by simp) (by simp) (by omega)
 have b0:((0:Int) !=0)=false:=rfl
 by_cases hw:oW n times=0
 ·have go:=goodO hw
  obtain⟨hl,hz,hg⟩:=good_all go.wn
  rcases orderSpots_ok fu go hs (by omega) with ⟨h1,h2,h3⟩ | ⟨h1,h2,long,o,l1,l2,h3,h4⟩
  ·exact fin [] 5 (by unfold F.order_Run;rw[h2];rfl) (by unfold F.adjointref11_Run;rw[h3];rfl) sm0
  ·rcases copied_ok fu hs hz mem (by omega) with ⟨hF,hc⟩ | ⟨hF,e,he,hc,hfit⟩
   ·have hol:o.length=(spots n).length:=by simpa using congrArg List.length h4
    have hoS:o.map (·.Spot)=spots n:=by
     have:=congrArg (List.map Prod.fst) h4
     rw[List.map_map,List.map_map] at this
     have e1:(Prod.fst∘pr)=(·.Spot):=rfl
     have e2:(Prod.fst∘pq long times)=id:=rfl
     rw[e1,e2,List.map_id] at this
     exact this
    have hJ:∀s∈o,JS n times long s:=fun s hm=>by
     have:pr s∈(spots n).map (pq long times):=by rw[←h4];exact List.mem_map_of_mem hm
     obtain⟨q,q1,q2⟩:=List.mem_map.1 this
     simp only[pq,pr,Prod.mk.injEq] at q2
     refine⟨?_,?_⟩
     ·rw[←q2.2,←q2.1]
     ·rw[←q2.1];exact spots_good go q q1
    have tm:Tm o:=fun s hm=>by
     have:=(tm8 l1 l2 (hJ s hm).2).2
     rw[←(hJ s hm).1] at this
     omega
    obtain⟨o',⟨s1,s2,s3⟩,s4⟩:=sort_ok fu (by omega) (l:=o) (by omega) tm
    have hJ':∀s∈o',JS n times long s:=fun s hm=>hJ s (s3.mem hm)
    have hFQ:FQ (tmS 8 times) (spots n) (o'.map (·.Spot)):=fun t=>by
     rw[←hoS,List.filter_map,List.filter_map]
     congr 1
     have cl:∀s,JS n times long s→tmS 8 times s.Spot=s.time++List.replicate (8-long) 0:=fun s hj=>by
      have:=(tm8 l1 l2 hj.2).1
      rwa[←hj.1] at this
     by_cases hex:∃s0∈o,tmS 8 times s0.Spot=t
     ·obtain⟨s0,m0,t0⟩:=hex
      have hc:∀s,JS n times long s→(isT (tmS 8 times) t∘fun x:Sspot=>x.Spot) s=decide (s.time=s0.time):=fun s hj=>by
       simp only[Function.comp,isT,←t0,cl s hj,cl s0 (hJ s0 m0),List.append_cancel_right_eq]
      rw[List.filter_congr (fun s hm=>hc s (hJ s hm)),List.filter_congr (fun s hm=>hc s (hJ' s hm))]
      exact(s3 s0.time).symm
     ·have hn:∀s∈o,(isT (tmS 8 times) t∘fun x:Sspot=>x.Spot) s=false:=fun s hm=>by
       simp only[Function.comp,isT,decide_eq_false_iff_not]
       exact fun e=>hex ⟨s,hm,e⟩
      rw[filter_none hn,filter_none (fun s hm=>hn s (s3.mem hm))]
    obtain⟨R,w,a,b,q1,q2⟩:=outer_ok (mix:=mix) fu (by omega) l1 l2 o'.length o' [] (spots n) 0 ⟨mem,hF⟩ fu fu (Nat.le_refl _) (by omega) (by omega) (by omega) s1 hJ' hFQ (by omega) (by omega)
    refine fin R.1 0 ?_ ?_ (same_ok fu R.1 (by rw[R.2.len];exact hs) (fun r hr=>?_) (by omega))
    ·unfold F.order_Run
     have hb:Nat.beq o'.length o.length=true:=beqL s2
     have q1:loopF (F.order_Run_l2 fu n mix) fu (0,o',mem,((0:Nat):Int),(o'.length:Int))=_:=q1
     simp only[h3,Option.bind_some,b0,cond_false,hc,s4,hb,cond_true,q1]
    ·unfold F.adjointref11_Run
     have q2:loopF (F.adjointref11_Run_l2 fu n times mix) fu (0,spots n,mem)=_:=q2
     simp only[h2,Option.bind_some,b0,cond_false,fitsRef_ok fu hs hF (by omega),copyRef_ok fu hs hz hF (by omega),spots_ok fu hg hl (by omega),q2]
    ·obtain⟨k,hk⟩:=List.getElem?_of_mem hr
     have hkl:=get_lt hk
     have hln:=R.2.len
     have hzk:n.Sizes[k]?=some (n.Sizes[k]'(by omega)):=List.getElem?_eq_getElem _
     have he:=(fits_iff R.2.len).1 R.2 k r _ hk hzk
     have hb:=(hz _ (List.getElem_mem (by omega:k<n.Sizes.length))).2
     omega
   ·have be:(e !=0)=true:=by simpa using he
    refine fin [] e ?_ ?_ sm0
    ·unfold F.order_Run
     simp only[h3,Option.bind_some,b0,cond_false,hc,be,cond_true]
    ·unfold F.adjointref11_Run
     simp only[h2,Option.bind_some,b0,cond_false,hfit,be,cond_true]
 ·have b:(oW n times !=0)=true:=by simpa using hw
  refine fin [] (oW n times) ?_ ?_ sm0
  ·unfold F.order_Run F.order_spots
   simp only[w1,Option.bind_some,b,cond_true]
  ·unfold F.adjointref11_Run F.adjointref11_Right
   simp only[w2,Option.bind_some,b,cond_true]
end Go.DN.So
