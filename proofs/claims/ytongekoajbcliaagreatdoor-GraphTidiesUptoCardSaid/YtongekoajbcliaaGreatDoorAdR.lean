/-
  Arrays: the plain law: numbers of dimensions.
-/
import Derived.Test.YtongekoajbcliaaGreatDoorAdQ
set_option linter.unusedSimpArgs false
set_option linter.unusedVariables false
namespace Go.DN.Pl
open Go.AM Go.PL
def ao (l:List Int) (k:Nat):Int:=l.getD k 0
theorem nE {l:List Int}{k:Nat}{x:Int}(h:l[k]?=some x):ao l k=x:=by unfold ao;rw[bZ,h];rfl
theorem aY {l:List Int}{k:Nat}(h:k<l.length):l[k]?=some (ao l k):=by rw[nE (ag h)];exact ag h
def tH (l:List Int) (rank:Nat) (k:Nat):Bool:=decide (ao l k<0)||(decide (ao l k≥(rank:Int))||hasB (l.take k) (ao l k))
def iw (l:List Int) (rank:Nat):Bool:=!((List.range l.length).any (tH l rank))
theorem um {l:List Int}{rank:Nat}:iw l rank=true↔(∀x∈l,0≤x∧x<(rank:Int))∧l.Nodup:=by
 unfold iw;rw[aS,nN];constructor
 ·intro h;have h':∀k,k<l.length→¬ao l k<0∧¬ao l k≥(rank:Int)∧hasB (l.take k) (ao l k)=false:=fun k hk=>by
   have:=h k hk;simpa[tH] using this
  refine⟨fun x hx=>?_,?_⟩
  ·obtain⟨k,hk⟩:=cA hx;have:=h' k (bP hk);rw[nE hk] at this;omega
  ·rw[gU,iz];intro i j hi hj hij e;have h3:=(h' j hj).2.2;have h4:ao l j∈l.take j:=by
    rw[nE (ag hj),←e];exact List.mem_iff_getElem?.2 ⟨i,by rw[bo,if_pos hij];exact ag hi⟩
   rw[ju.2 h4] at h3;cases h3
 ·rintro⟨h1,h2⟩ k hk;have hx:=aY hk;have hr:=h1 _ (aj hx);have h3:hasB (l.take k) (ao l k)=false:=by
   cases hh:hasB (l.take k) (ao l k) with
   | false=>rfl
   | true=>
    exfalso;obtain⟨i,hi⟩:=cA (ju.1 hh);rw[bo] at hi;split at hi
    ·rename_i hik;rw[gU,iz] at h2;have hil:=bP hi;refine h2 i k hil hk hik ?_;have e1:=(ai.1 hi).2;have e2:=(ai.1 hx).2;rw[e1,e2]
    ·cases hi
  simp only[tH,h3,cF];rw[cB (by omega),cB (by omega)];rfl
theorem F3 (a b:List Int) (rank:Nat):iw (a++b) rank=iw (b++a) rank:=by
 rw[mn,um,um];have e:(a++b).Nodup↔(b++a).Nodup:=List.Perm.nodup_iff List.perm_append_comm;constructor
 ·rintro⟨h1,h2⟩;exact⟨fun x hx=>h1 x (by rcases dl.1 hx with h | h <;> simp[h]),e.1 h2⟩
 ·rintro⟨h1,h2⟩;exact⟨fun x hx=>h1 x (by rcases dl.1 hx with h | h <;> simp[h]),e.2 h2⟩
theorem Oq (fu:Nat) (l:List Int) (rank:Nat) (hl:l.length≤4000000) (hf:4000000<fu):F.lM fu l rank=some (iw l rank):=by
 unfold F.lM iw;have h:=gO (body:=F.l4 fu l rank) l.length (fun k=>(k:Int)) (fun k=>if tH l rank k then some (Ex.ret false:Ex Unit Bool) else none) (Ex.bJ ())
  (fun k hk _=>by
   have hx:=aY hk;have hw:=aT hk (by omega);have hp:eG l 0 (k:Int)=l.take k:=by unfold eG;simp
   have hc:bj ((0:Int)≤(k:Int)∧(k:Int)≤(l.length:Int))=some ():=ey (by omega);simp only[F.l4,dec_lt hx,cond_true,aC hx,hc,aa,hp,OX fu (l.take k) _ (by rw[br];omega) hf,cc,hw];unfold tH;cases (decide (ao l k<0)||(decide (ao l k≥(rank:Int))||hasB (l.take k) (ao l k))) <;> rfl)
  (fun _=>by simp only[F.l4,bw,cond_false]) fu (by omega)
 rw[show((0:Nat):Int)=0 from rfl] at h;rw[h,gP];cases (List.range l.length).any (tH l rank) <;> rfl
def jq (rank:Nat) (p:List Int):List Bool:=(List.range rank).map fun (q:Nat)=>hasB p (q:Int)
theorem uh {rank:Nat}{p:List Int}{q:Nat}(h:q<rank):(jq rank p)[q]?=some (hasB p q):=by
 unfold jq;rw[ak,dr h];rfl
theorem Je (rank:Nat):jq rank []=List.replicate rank false:=by
 unfold jq;apply du;intro i;rw[ak,ko]
 by_cases h:i<rank
 ·rw[if_pos h,dr h];rfl
 ·rw[if_neg h,bV (by simp;omega)];rfl
theorem Jd {rank:Nat}{p:List Int}{x:Int}(h0:0≤x) (h1:x<(rank:Int)):(jq rank p).set x.toNat true=jq rank (p++[x]):=by
 apply du;intro i;rw[dN];have hlen:(jq rank p).length=rank:=by unfold jq;simp
 by_cases h:i<rank
 ·rw[uh h]
  by_cases e:x.toNat=i
  ·rw[if_pos e,if_pos (by omega)];have:hasB (p++[x]) (i:Int)=true:=ju.2 (by simp;right;omega);rw[uh h,this]
  ·rw[if_neg e,uh h];congr 1;unfold hasB;rw[List.any_append];have:([x].any fun y=>y==(i:Int))=false:=by simp;omega
   rw[this,cF]
 ·rw[bV (by unfold jq;simp;omega)]
  by_cases e:x.toNat=i
  ·omega
  ·rw[if_neg e];rw[bV (show(jq rank (p++[x])).length≤i by unfold jq;simp;omega)]
theorem yc (fu:Nat) (l:List Int) (rank:Nat) (hl:l.length≤4000000) (hr:rank≤4000000) (hf:4000000<fu):F.ly fu l rank=some (iw l rank):=by
 unfold F.ly iw;have h:=gO (body:=F.np fu l rank) l.length (fun k=>((k:Int),jq rank (l.take k))) (fun k=>if tH l rank k then some (Ex.ret false:Ex (List Bool) Bool) else none) (Ex.bJ (jq rank l))
  (fun k hk _=>by
   have hx:=aY hk;have hw:=aT hk (by omega);simp only[F.np,dec_lt hx,cond_true,aC hx,aa,hw];unfold tH
   by_cases h1:ao l k<0
   ·simp only[ed h1,cond_true,aa,Bool.true_or,if_true]
   ·by_cases h2:ao l k≥(rank:Int)
    ·simp only[cB h1,ed h2,cond_false,cond_true,aa,Bool.true_or,Bool.or_true,if_true]
    ·obtain⟨q,hq⟩:∃q:Nat,ao l k=q:=⟨(ao l k).toNat,by omega⟩;have hs:=uh (p:=l.take k) (show q<rank by omega);rw[hq] at h1 h2;simp only[hq,cB h1,cB h2,cond_false,fW,aC hs,aa];cases hh:hasB (l.take k) (q:Int) with
     | true=>rfl
     | false=>
      have e:(jq rank (l.take k)).set (q:Int).toNat true=jq rank (l.take (k+1)):=by
       rw[Jd (by omega) (by omega),take_succ hx,hq]
      simp only[cond_false,e,bF,if_false])
  (fun _=>by simp only[F.np,bw,cond_false,bK]) fu (by omega)
 rw[dA,Je] at h;rw[show((0:Nat):Int)=0 from rfl] at h;rw[ey (by omega)];simp only[aa,bO];rw[h,gP];cases (List.range l.length).any (tH l rank) <;> rfl
def IU (l:List Int) (rank:Nat) (k:Nat):Bool:=decide (ao l k<0)||(decide (ao l k≥(rank:Int))||(decide (k>0)&&decide (ao l k≤ao l (k-1))))
def nS (l:List Int) (rank:Nat):Bool:=!((List.range l.length).any (IU l rank))
theorem qZ {l:List Int}{rank:Nat}:nS l rank=true↔(∀k,k<l.length→0≤ao l k∧ao l k<(rank:Int))∧∀k,k+1<l.length→ao l k<ao l (k+1):=by
 unfold nS;rw[aS,nN];constructor
 ·intro h;have h':∀k,k<l.length→¬ao l k<0∧¬ao l k≥(rank:Int)∧(k>0→¬ao l k≤ao l (k-1)):=fun k hk=>by
   have:=h k hk;simp only[IU,bi,Bool.and_eq_false_imp,decide_eq_false_iff_not,decide_eq_true_eq] at this;exact this
  refine⟨fun k hk=>by have:=h' k hk;omega,fun k hk=>?_⟩;have:=(h' (k+1) hk).2.2 (by omega);rw[Nat.add_sub_cancel] at this;omega
 ·rintro⟨h1,h2⟩ k hk;have:=h1 k hk;simp only[IU,bi,Bool.and_eq_false_imp,decide_eq_false_iff_not,decide_eq_true_eq];refine⟨by omega,by omega,fun hk0=>?_⟩;have:=h2 (k-1) (by omega);rw[show k-1+1=k by omega] at this;omega
theorem zA (fu:Nat) (l:List Int) (rank:Nat) (hl:l.length≤4000000) (hf:4000000<fu):F.jj fu l rank=some (nS l rank):=by
 unfold F.jj nS;have h:=gO (body:=F.kJ fu l rank) l.length (fun k=>(k:Int)) (fun k=>if IU l rank k then some (Ex.ret false:Ex Unit Bool) else none) (Ex.bJ ())
  (fun k hk _=>by
   have hx:=aY hk;have hw:=aT hk (by omega);simp only[F.kJ,dec_lt hx,cond_true,aC hx,aa,hw];unfold IU
   by_cases h0:k>0
   ·have hy:=aY (l:=l) (show k-1<l.length by omega);have hw2:IntKind.i64.wrap ((k:Int)-1)=((k-1:Nat):Int):=by rw[i64 (by omega) (by omega)];omega
    rw[ed (show(k:Int)>0 by omega),ed h0,hw2,aC hy];simp only[cond_true,aa,cc,qu];cases (decide (ao l k<0)||(decide (ao l k≥(rank:Int))||decide (ao l k≤ao l (k-1)))) <;> rfl
   ·rw[cB (show ¬(k:Int)>0 by omega),cB h0];simp only[cond_false,cc,Bool.false_and,cF,aa];cases (decide (ao l k<0)||decide (ao l k≥(rank:Int))) <;> rfl)
  (fun _=>by simp only[F.kJ,bw,cond_false]) fu (by omega)
 rw[show((0:Nat):Int)=0 from rfl] at h;rw[h,gP];cases (List.range l.length).any (IU l rank) <;> rfl
def zU (l:List Int):Nat→Int
 | 0=>-1
 | k+1=>ao l k
theorem FU (fu:Nat) (l:List Int) (rank:Nat) (hl:l.length≤4000000) (hf:4000000<fu):F.qv fu l rank=some (nS l rank):=by
 unfold F.qv;have h:=gO (body:=F.pX fu l rank) l.length (fun k=>(zU l k,(k:Int))) (fun k=>if (decide (ao l k≤zU l k)||decide (ao l k≥(rank:Int))) then some (Ex.ret false:Ex Unit Bool) else none) (Ex.bJ ())
  (fun k hk _=>by
   have hx:=aY hk;have hw:=aT hk (by omega);simp only[F.pX,dec_lt hx,cond_true,aC hx,aa,hw,cc];cases (decide (ao l k≤zU l k)||decide (ao l k≥(rank:Int))) <;> rfl)
  (fun _=>by simp only[F.pX,bw,cond_false]) fu (by omega)
 rw[show((0:Nat):Int)=0 from rfl,show zU l 0=-1 from rfl] at h;rw[h,gP];have e:nS l rank=!((List.range l.length).any fun k=>decide (ao l k≤zU l k)||decide (ao l k≥(rank:Int))):=by
  rw[mn,qZ,aS,nN];constructor
  ·rintro⟨h1,h2⟩ k hk;have:=h1 k hk;rw[bi,decide_eq_false_iff_not,decide_eq_false_iff_not];refine⟨?_,by omega⟩;cases k with
   | zero=>show ¬ao l 0≤-1;omega
   | succ k=>have:=h2 k hk;show ¬ao l (k+1)≤ao l k;omega
  ·intro h;have h':∀k,k<l.length→¬ao l k≤zU l k∧¬ao l k≥(rank:Int):=fun k hk=>by
    have:=h k hk;rw[bi,decide_eq_false_iff_not,decide_eq_false_iff_not] at this;exact this
   have h2:∀k,k+1<l.length→ao l k<ao l (k+1):=fun k hk=>by
    have:¬ao l (k+1)≤ao l k:=(h' (k+1) hk).1;omega
   have h0:∀k,k<l.length→0≤ao l k:=by
    intro k
    induction k with
    | zero=>intro hk;have:¬ao l 0≤-1:=(h' 0 hk).1;omega
    | succ k ih=>intro hk;have:=ih (by omega);have:=h2 k hk;omega
   exact⟨fun k hk=>⟨h0 k hk,by have:=(h' k hk).2;omega⟩,h2⟩
 rw[e];cases (List.range l.length).any fun k=>decide (ao l k≤zU l k)||decide (ao l k≥(rank:Int)) <;> rfl
theorem Xj (fu:Nat) (x y:Int):F.Az fu x y=some (decide (x<y)):=by
 unfold F.Az F.xD;have:(x !=x)=false:=by simp
 simp only[aa,this,cond_false]
def Lh (l:List Int):Bool:=!((List.range (l.length-1)).any fun k=>decide (ao l (l.length-1-k)<ao l (l.length-1-k-1)))
theorem RI (fu:Nat) (l:List Int) (hl:l.length≤4000000) (hf:4000000<fu):F.oR fu l=some (Lh l):=by
 unfold F.oR Lh;have h:=gO (body:=F.mr fu l) (l.length-1) (fun k=>(l.length:Int)-1-(k:Int)) (fun k=>if decide (ao l (l.length-1-k)<ao l (l.length-1-k-1)) then some (Ex.ret false:Ex Unit Bool) else none) (Ex.bJ ())
  (fun k hk _=>by
   have e1:(l.length:Int)-1-(k:Int)=((l.length-1-k:Nat):Int):=by omega
   have hx:=aY (l:=l) (show l.length-1-k<l.length by omega);have hy:=aY (l:=l) (show l.length-1-k-1<l.length by omega);have hw2:IntKind.i64.wrap (((l.length-1-k:Nat):Int)-1)=((l.length-1-k-1:Nat):Int):=by rw[i64 (by omega) (by omega)];omega
   have e2:(l.length:Int)-1-((k+1:Nat):Int)=((l.length-1-k-1:Nat):Int):=by omega
   rw[e1,e2];simp only[F.mr,ed (show((l.length-1-k:Nat):Int)>0 by omega),cond_true,aC hx,hw2,aC hy,aa,Xj];cases decide (ao l (l.length-1-k)<ao l (l.length-1-k-1)) <;> rfl)
  (fun _=>by
   have:¬((l.length:Int)-1-((l.length-1:Nat):Int)>0):=by omega
   simp only[F.mr,cB this,cond_false]) fu (by omega)
 have e0:IntKind.i64.wrap ((l.length:Int)-1)=(l.length:Int)-1-((0:Nat):Int):=by rw[i64 (by omega) (by omega)];simp
 rw[e0,h,gP];cases (List.range (l.length-1)).any fun k=>decide (ao l (l.length-1-k)<ao l (l.length-1-k-1)) <;> rfl
theorem T4 {l:List Int}:Lh l=true↔∀k,k+1<l.length→ao l k≤ao l (k+1):=by
 unfold Lh;rw[aS,nN];constructor
 ·intro h k hk;have:=h (l.length-1-(k+1)) (by omega);rw[decide_eq_false_iff_not,show l.length-1-(l.length-1-(k+1))=k+1 by omega,Nat.add_sub_cancel] at this;omega
 ·intro h k hk;have:=h (l.length-1-k-1) (by omega);rw[show l.length-1-k-1+1=l.length-1-k by omega] at this;rw[decide_eq_false_iff_not];omega
theorem NM (l:List Int) (rank:Nat):(Lh l&&iw l rank)=nS l rank:=by
 rw[mn,af,T4,um,qZ];constructor
 ·rintro⟨h1,h2,h3⟩;refine⟨fun k hk=>h2 _ (aj (aY hk)),fun k hk=>?_⟩;have h4:=h1 k hk;rw[gU,iz] at h3;have h5:=h3 k (k+1) (by omega) hk (by omega);have e1:=(ai.1 (aY (l:=l) (show k<l.length by omega))).2;have e2:=(ai.1 (aY (l:=l) hk)).2;rw[e1,e2] at h5;omega
 ·rintro⟨h1,h2⟩;have hlt:∀d k,k+d+1<l.length→ao l k<ao l (k+d+1):=by
   intro d
   induction d with
   | zero=>intro k hk;exact h2 k hk
   | succ d ih=>intro k hk;have:=ih k (by omega);have h3:=h2 (k+d+1) (by omega);rw[show k+(d+1)+1=k+d+1+1 by omega];omega
  refine⟨fun k hk=>Int.le_of_lt (h2 k hk),fun x hx=>?_,?_⟩
  ·obtain⟨k,hk⟩:=cA hx;have:=h1 k (bP hk);rw[nE hk] at this;exact this
  ·rw[gU,iz];intro i j hi hj hij e;have:=hlt (j-i-1) i (by omega);rw[show i+(j-i-1)+1=j by omega] at this;have e1:=(ai.1 (aY (l:=l) hi)).2;have e2:=(ai.1 (aY (l:=l) hj)).2;rw[←e1,←e2,e] at this;omega
theorem PQ (fu:Nat) (l:List Int) (rank:Nat) (hl:l.length≤4000000) (hr:rank≤4000000) (hf:4000000<fu):F.sJ fu l rank=some (nS l rank):=by
 unfold F.sJ;simp only[RI fu l hl hf,yc fu l rank hl hr hf,aa,M9,NM]
end Go.DN.Pl
