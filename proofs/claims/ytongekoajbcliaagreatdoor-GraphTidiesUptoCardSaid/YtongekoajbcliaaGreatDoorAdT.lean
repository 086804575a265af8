/-
  Arrays: the plain law: places that are free, padded, joined.
-/
import Derived.Test.YtongekoajbcliaaGreatDoorAdR
set_option linter.unusedSimpArgs false
set_option linter.unusedVariables false
namespace Go.DN.Pl
open Go.AM Go.PL
theorem iP {τ ρ:Type}{body:τ→Option (τ⊕ρ)}(m:Nat) (st:Nat→τ) (e:ρ)
  (hbody:∀k,k<m→body (st k)=some (.inl (st (k+1)))) (hend:body (st m)=some (.inr e)) (n:Nat) (hn:m<n):
  aP body n (st 0)=some e:=by
 have h:=gO (body:=body) m st (fun _=>(none:Option ρ)) e (fun k hk _=>hbody k hk) (fun _=>hend) n hn;rw[h,show(List.range m).findSome? (fun _=>(none:Option ρ))=none from lC.2 fun _ _=>rfl]
def eA (ins:List Int):Nat→List Int
 | 0=>[]
 | k+1=>if hasB ins k then eA ins k else eA ins k++[(k:Int)]
def eT (d ins:List Int) (k:Nat):List Int:=(eA ins k).map fun i=>ao d i.toNat
theorem nM (ins:List Int):∀k,(eA ins k).length≤k
 | 0=>by simp[eA]
 | k+1=>by have:=nM ins k;unfold eA;split <;> simp <;> omega
theorem JF (ins:List Int):∀k,∀x∈eA ins k,0≤x∧x<(k:Int)
 | 0=>by simp[eA]
 | k+1=>by
  intro x hx;have:=JF ins k;unfold eA at hx;split at hx
  ·have:=this x hx;omega
  ·rcases dl.1 hx with h | h
   ·have:=this x h;omega
   ·simp at h;omega
theorem zZ (d ins:List Int) (k:Nat):eT d ins (k+1)=if hasB ins k then eT d ins k else eT d ins k++[ao d k]:=by
 unfold eT;rw[show eA ins (k+1)=if hasB ins k then eA ins k else eA ins k++[(k:Int)] from rfl];split
 ·rfl
 ·rw[dW];simp
theorem lm (d ins:List Int) (k:Nat):(eT d ins k).length≤k:=by unfold eT;rw[aN];exact nM ins k
theorem EU (a b:List Int) (n:Int):hasB (a++b) n=(hasB a n||hasB b n):=by unfold hasB;rw[List.any_append]
theorem GF (a b:List Int):∀k,eA (a++b) k=eA (b++a) k
 | 0=>rfl
 | k+1=>by
  have e:hasB (a++b) (k:Int)=hasB (b++a) (k:Int):=by rw[EU,EU,Bool.or_comm]
  unfold eA;rw[GF a b k,e]
theorem Gn (d a b:List Int) (k:Nat):eT d (a++b) k=eT d (b++a) k:=by unfold eT;rw[GF]
theorem Ia (fu:Nat) (d ins:List Int) (hd:d.length≤4000000) (hi:ins.length≤4000000) (hf:4000000<fu):F.jX fu d ins=some (eA ins d.length):=by
 unfold F.jX;have h:=iP (body:=F.l6 fu d ins) d.length (fun k=>((k:Int),eA ins k)) (eA ins d.length)
  (fun k hk=>by
   have hx:=aY hk;have hw:=aT hk (by omega);have hl:=nM ins k;simp only[F.l6,dec_lt hx,cond_true,OX fu ins _ hi hf,aa,hw];rw[show eA ins (k+1)=if hasB ins k then eA ins k else eA ins k++[(k:Int)] from rfl];cases hasB ins (k:Int) with
   | true=>rfl
   | false=>
    simp only[jn,cond_true,bF,if_false];rw[cQ (by simp only[ah];omega) (by simp only[ah];omega)];rfl)
  (by simp only[F.l6,bw,cond_false]) fu (by omega)
 rw[show eA ins 0=[] from rfl,show((0:Nat):Int)=0 from rfl] at h;simp only[h,aa]
def bD (d at_:List Int):List Int:=at_.map fun i=>ao d i.toNat
theorem fX (d at_:List Int):(bD d at_).length=at_.length:=by unfold bD;rw[aN]
theorem uE (fu:Nat) (d at_:List Int) (ha:at_.length≤4000000) (hr:∀x∈at_,0≤x∧x<(d.length:Int)) (hf:4000000<fu):F.dd fu d at_=some (bD d at_):=by
 unfold F.dd;have h:=fw (body:=F.kG fu d at_) at_ (fun k=>((k:Int),(bD d at_).take k)) (bD d at_)
  (fun k x hx=>by
   have hw:=aT (bP hx) (by omega);have hr:=hr x (aj hx);obtain⟨q,hq⟩:∃q:Nat,x=q:=⟨x.toNat,by omega⟩;have hy:=aY (l:=d) (show q<d.length by omega);have hc:(bD d at_)[k]?=some (ao d q):=by unfold bD;rw[ak,hx];simp[hq]
   have hl:=pE hc;have:=bP hx;simp only[F.kG,dec_lt hx,cond_true,aC hx,aa,hw];rw[hq,aC hy];simp only[aa];rw[cQ (by simp only[ah];omega) (by simp only[ah];omega),take_succ hc];rfl)
  (by
   have:(bD d at_).take at_.length=bD d at_:=by rw[←fX d at_];exact bK
   simp only[F.kG,bw,cond_false,this]) fu (by omega)
 rw[dA,show((0:Nat):Int)=0 from rfl] at h;simp only[h,aa]
theorem yd (fu:Nat) (d ins:List Int) (hd:d.length≤4000000) (hf:4000000<fu):F.dd fu d (eA ins d.length)=some (eT d ins d.length):=
 uE fu d _ (by have:=nM ins d.length;omega) (JF ins d.length) hf
theorem vM (fu:Nat) (a b:List Int) (ha:a.length≤4000000) (hb:b.length≤4000000):F.e8 fu a b=some (a++b):=by
 unfold F.e8;rw[cQ (by simp only[jE];omega) (by simp only[jE];omega)];simp only[aa,jD];rw[cQ (by omega) (by omega)];rfl
theorem RB (fu:Nat) (at_ d:List Int) (hd:d.length≤4000000) (hi:at_.length≤4000000) (hf:4000000<fu):
  F.sI fu at_ d=some (if nS at_ d.length then(eT d at_ d.length,0) else([],6)):=by
 unfold F.sI;rw[PQ fu at_ d.length hi hd hf];simp only[aa];cases nS at_ d.length with
 | false=>rfl
 | true=>
  have h:=iP (body:=F.oZ fu at_ d) d.length (fun k=>((k:Int),eT d at_ k)) (eT d at_ d.length)
   (fun k hk=>by
    have hx:=aY hk;have hw:=aT hk (by omega);have hl:=lm d at_ k;simp only[F.oZ,dec_lt hx,cond_true,aC hx,oK fu at_ _ hi hf,aa,hw];rw[zZ];cases hasB at_ (k:Int) with
    | true=>rfl
    | false=>
     simp only[jn,cond_true,bF,if_false];rw[cQ (by simp only[ah];omega) (by simp only[ah];omega)];rfl)
   (by simp only[F.oZ,bw,cond_false]) fu (by omega)
  rw[show eT d at_ 0=[] from rfl,show((0:Nat):Int)=0 from rfl] at h;simp only[fj,cond_false,h,aa,if_true]
def uU (x y z:Int):Bool:=(decide (x<0)||decide (x>4096))||((decide (y<0)||decide (y>4096))||(decide (z<1)||decide (z>4096)))
def PZ (x y z d:Int):Int:=x+y+(if d>0 then(d-1)*z+1 else 0)
def s7 (op:cy) (d:List Int) (k:Nat):List Int:=(List.range k).map fun (i:Nat)=>PZ (ao op.Lo i) (ao op.Hi i) (ao op.Step i) (ao d i)
theorem Ew (op:cy) (d:List Int) (k:Nat):(s7 op d k).length=k:=by unfold s7;simp
theorem Jm (op:cy) (d:List Int) (k:Nat):s7 op d (k+1)=s7 op d k++[PZ (ao op.Lo k) (ao op.Hi k) (ao op.Step k) (ao d k)]:=by
 unfold s7;rw[qI,dW];rfl
def Rc (op:cy) (d:List Int):Bool:=(List.range d.length).any fun k=>uU (ao op.Lo k) (ao op.Hi k) (ao op.Step k)
def EH (op:cy) (d:List Int):Bool:=((op.Lo.length:Int) !=d.length)||(((op.Hi.length:Int) !=d.length)||((op.Step.length:Int) !=d.length))
def zD (op:cy) (d:List Int):List Int×Int:=if EH op d then([],6) else if Rc op d then([],4) else(s7 op d d.length,0)
theorem OJ {op:cy}{d:List Int}(h:EH op d=false):op.Lo.length=d.length∧op.Hi.length=d.length∧op.Step.length=d.length:=by
 unfold EH at h;simp at h;omega
theorem Om {x y z d:Int}(h:uU x y z=false) (h0:0≤d) (h1:d≤4096):(0≤x∧x≤4096)∧(0≤y∧y≤4096)∧(1≤z∧z≤4096)∧(0<d→0≤(d-1)*z∧(d-1)*z≤16777216):=by
 simp[uU] at h;obtain⟨⟨a1,a2⟩,⟨a3,a4⟩,a5,a6⟩:=h;refine⟨by omega,by omega,by omega,fun hd=>⟨iH (by omega) (by omega),?_⟩⟩;have:=pi (show d-1≤4096 by omega) (show z≤4096 by omega) (by omega) (by omega);omega
theorem PX (fu:Nat) (x l:Int):F.lx fu x l=some (decide (x<l)||decide (x>4096)):=by
 unfold F.lx;rw[cc];rfl
theorem P0 (fu:Nat) (op:cy) (d:List Int) (hd:d.length≤4000000) (hr:∀x∈d,0≤x∧x≤4096) (hf:4000000<fu):F.l3 fu op d=some (zD op d):=by
 unfold F.l3 zD;have e:(cond ((op.Lo.length:Int) !=(d.length:Int)) (some true) (cond ((op.Hi.length:Int) !=(d.length:Int)) (some true) (some ((op.Step.length:Int) !=(d.length:Int)))))=some (EH op d):=by
  rw[cc,cc];rfl
 rw[e];simp only[aa];cases hlp:EH op d with
 | true=>rfl
 | false=>
  obtain⟨e1,e2,e3⟩:=OJ hlp;have h:=gO (body:=F.j8 fu op d) d.length (fun k=>((k:Int),s7 op d k)) (fun k=>if uU (ao op.Lo k) (ao op.Hi k) (ao op.Step k) then some (Ex.ret ([],4):Ex (List Int) (List Int×Int)) else none) (Ex.bJ (s7 op d d.length))
   (fun k hk _=>by
    have hx:=aY hk;have hw:=aT hk (by omega);have i1:=aY (l:=op.Lo) (show k<op.Lo.length by omega);have i2:=aY (l:=op.Hi) (show k<op.Hi.length by omega);have i3:=aY (l:=op.Step) (show k<op.Step.length by omega);have hdr:=hr _ (aj hx);have hpl:=Ew op d k;simp only[F.j8,dec_lt hx,cond_true,aC hx,aC i1,aC i2,aC i3,aa,hw,cc,Jm];have eb:(decide (ao op.Lo k<0)||(decide (ao op.Lo k>4096)||(decide (ao op.Hi k<0)||(decide (ao op.Hi k>4096)||(decide (ao op.Step k<1)||decide (ao op.Step k>4096))))))=uU (ao op.Lo k) (ao op.Hi k) (ao op.Step k):=by
     unfold uU;simp only[Bool.or_assoc]
    rw[eb];cases hb:uU (ao op.Lo k) (ao op.Hi k) (ao op.Step k) with
    | true=>rfl
    | false=>
     obtain⟨⟨a1,a2⟩,⟨a3,a4⟩,⟨a5,a6⟩,a7⟩:=Om hb hdr.1 hdr.2;simp only[cond_false,bF,if_false];unfold PZ
     by_cases h0:ao d k>0
     ·have a8:=a7 h0;rw[ed h0,if_pos h0];simp only[cond_true,aa];have w1:IntKind.i64.wrap (ao d k-1)=ao d k-1:=i64 (by omega) (by omega);have w2:IntKind.i64.wrap ((ao d k-1)*ao op.Step k)=(ao d k-1)*ao op.Step k:=i64 (by omega) (by omega);have w3:IntKind.i64.wrap ((ao d k-1)*ao op.Step k+1)=(ao d k-1)*ao op.Step k+1:=i64 (by omega) (by omega);have w4:IntKind.i64.wrap (ao op.Lo k+((ao d k-1)*ao op.Step k+1))=ao op.Lo k+((ao d k-1)*ao op.Step k+1):=i64 (by omega) (by omega);have w5:IntKind.i64.wrap (ao op.Lo k+((ao d k-1)*ao op.Step k+1)+ao op.Hi k)=ao op.Lo k+ao op.Hi k+((ao d k-1)*ao op.Step k+1):=by rw[i64 (by omega) (by omega)];omega
      rw[w1,w2,w3,w4,w5,cQ (by simp only[ah];omega) (by simp only[ah];omega)];rfl
     ·rw[cB h0,if_neg h0];simp only[cond_false,aa];have w4:IntKind.i64.wrap (ao op.Lo k+0)=ao op.Lo k:=by rw[i64 (by omega) (by omega)];omega
      have w5:IntKind.i64.wrap (ao op.Lo k+ao op.Hi k)=ao op.Lo k+ao op.Hi k+0:=by rw[i64 (by omega) (by omega)];omega
      rw[w4,w5,cQ (by simp only[ah];omega) (by simp only[ah];omega)];rfl)
   (fun _=>by simp only[F.j8,bw,cond_false]) fu (by omega)
  rw[show s7 op d 0=[] from rfl,show((0:Nat):Int)=0 from rfl] at h;rw[cond_false,h,gP];unfold Rc;cases (List.range d.length).any fun k=>uU (ao op.Lo k) (ao op.Hi k) (ao op.Step k) <;> rfl
theorem N9 (p:List Int) (q:List Int) (y x:Int) (k:Nat) (h:p.length=k):(p++y::q).set k x=p++x::q:=by
 subst h;simp
theorem Se (fu:Nat) (op:cy) (d:List Int) (hd:d.length≤4000000) (hr:∀x∈d,0≤x∧x≤4096) (hf:4000000<fu):F.sN fu op d=some (zD op d):=by
 unfold F.sN zD;have e:(cond ((op.Lo.length:Int) !=(d.length:Int)) (some true) (cond ((op.Hi.length:Int) !=(d.length:Int)) (some true) (some ((op.Step.length:Int) !=(d.length:Int)))))=some (EH op d):=by
  rw[cc,cc];rfl
 rw[e];simp only[aa];cases hlp:EH op d with
 | true=>rfl
 | false=>
  obtain⟨e1,e2,e3⟩:=OJ hlp;have h:=gO (body:=F.o8 fu op d) d.length (fun k=>((k:Int),s7 op d k++List.replicate (d.length-k) 0)) (fun k=>if uU (ao op.Lo k) (ao op.Hi k) (ao op.Step k) then some (Ex.ret ([],4):Ex (List Int) (List Int×Int)) else none) (Ex.bJ (s7 op d d.length))
   (fun k hk _=>by
    have hx:=aY hk;have hw:=aT hk (by omega);have i1:=aY (l:=op.Lo) (show k<op.Lo.length by omega);have i2:=aY (l:=op.Hi) (show k<op.Hi.length by omega);have i3:=aY (l:=op.Step) (show k<op.Step.length by omega);have hdr:=hr _ (aj hx);have hpl:=Ew op d k;obtain⟨q,hq⟩:∃q,d.length-k=q+1:=⟨d.length-k-1,by omega⟩;have hq2:d.length-(k+1)=q:=by omega
    simp only[F.o8,dec_lt hx,cond_true,aC hx,aC i1,aC i2,aC i3,aa,hw,Jm,PX,cc,hq,hq2,List.replicate_succ];have eb:(decide (ao op.Lo k<0)||decide (ao op.Lo k>4096)||(decide (ao op.Hi k<0)||decide (ao op.Hi k>4096)||(decide (ao op.Step k<1)||decide (ao op.Step k>4096))))=uU (ao op.Lo k) (ao op.Hi k) (ao op.Step k):=rfl;rw[eb];cases hb:uU (ao op.Lo k) (ao op.Hi k) (ao op.Step k) with
    | true=>rfl
    | false=>
     obtain⟨⟨a1,a2⟩,⟨a3,a4⟩,⟨a5,a6⟩,a7⟩:=Om hb hdr.1 hdr.2;have g0:∀x:Int,(s7 op d k++x::List.replicate q 0)[k]?=some x:=fun x=>by rw[gV (by omega),hpl];simp
     have w0:IntKind.i64.wrap (ao op.Lo k+ao op.Hi k)=ao op.Lo k+ao op.Hi k:=i64 (by omega) (by omega);simp only[cond_false,bF,if_false,aC (g0 0),aa,bO,N9 _ _ _ _ k hpl,w0,aC (g0 _)];unfold PZ
     by_cases h0:ao d k>0
     ·have a8:=a7 h0;rw[ed h0,if_pos h0];have w1:IntKind.i64.wrap (ao d k-1)=ao d k-1:=i64 (by omega) (by omega);have w2:IntKind.i64.wrap ((ao d k-1)*ao op.Step k)=(ao d k-1)*ao op.Step k:=i64 (by omega) (by omega);have w3:IntKind.i64.wrap ((ao d k-1)*ao op.Step k+1)=(ao d k-1)*ao op.Step k+1:=i64 (by omega) (by omega);have w5:IntKind.i64.wrap (ao op.Lo k+ao op.Hi k+((ao d k-1)*ao op.Step k+1))=ao op.Lo k+ao op.Hi k+((ao d k-1)*ao op.Step k+1):=by rw[i64 (by omega) (by omega)]
      simp only[cond_true,aa,w1,w2,w3,w5,aR,List.singleton_append]
     ·rw[cB h0,if_neg h0];simp only[cond_false,aa,Int.add_zero,aR,List.singleton_append])
   (fun _=>by simp only[F.o8,bw,cond_false,Nat.sub_self,List.replicate_zero,bM]) fu (by omega)
  rw[show s7 op d 0=[] from rfl,show((0:Nat):Int)=0 from rfl,jD,Nat.sub_zero] at h;rw[cond_false,ey (by omega)];simp only[aa,bO];rw[h,gP];unfold Rc;cases (List.range d.length).any fun k=>uU (ao op.Lo k) (ao op.Hi k) (ao op.Step k) <;> rfl
end Go.DN.Pl
