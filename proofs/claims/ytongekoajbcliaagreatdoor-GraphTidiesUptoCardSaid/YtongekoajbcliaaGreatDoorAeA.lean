/-
  Arrays: the plain law: views cut, flipped.
-/
import Derived.Test.YtongekoajbcliaaGreatDoorAdY
set_option linter.unusedSimpArgs false
set_option linter.unusedVariables false
namespace Go.DN.Pl
open Go.AM Go.PL
theorem Ud {d:List Int}(h6:d.length≤6) (hg:∀x∈d,0≤x∧x≤4096) (hp:hasB d 0=false→b8 d≤65536):(cn d).2=0:=by
 unfold cn;rw[if_neg (by omega)];have hb:d.any pT=false:=by
  rw[fV];intro x hx;have:=hg x hx;simp[pT];omega
 rw[hb];simp only[bF,if_false];cases hz:hasB d 0 with
 | true=>rfl
 | false=>
  have:=hp hz;simp only[bF,if_false];rw[if_neg (by rw[s6];omega)]
theorem LI:∀(a b:List Int),a.length=b.length→(∀k,k<a.length→1≤ao a k∧ao a k≤ao b k)→1≤b8 a∧b8 a≤b8 b
 | [],[],_,_=>by simp[b8]
 | [],_::_,h,_=>by simp at h
 | _::_,[],h,_=>by simp at h
 | x::r,y::s,hl,h=>by
  have h1:1≤x∧x≤y:=h 0 (by simp);have h2:=LI r s (by simpa using hl) fun k hk=>h (k+1) (by simpa using hk);rw[show b8 (x::r)=b8 r*x from rfl,show b8 (y::s)=b8 s*y from rfl];have a1:=pi h2.2 h1.2 (by omega) (by omega);have a2:=pi h2.1 h1.1 (by omega) (by omega);omega
theorem shrink {d e:List Int}(h:(cn d).2=0) (hl:e.length=d.length) (he:∀k,k<e.length→0≤ao e k∧ao e k≤ao d k):(cn e).2=0:=by
 obtain⟨h6,hg,hp,_⟩:=fC h;refine Ud (by omega) (fun x hx=>?_) fun hz=>?_
 ·obtain⟨k,hk⟩:=cA hx;have h1:=he k (bP hk);have h2:=hg _ (aj (aY (l:=d) (show k<d.length by have:=bP hk;omega)));rw[nE hk] at h1;omega
 ·have hne:∀k,k<e.length→1≤ao e k:=fun k hk=>by
   have h1:=he k hk;have:ao e k≠0:=fun e0=>by
    have:=ju.2 (aj (aY hk));rw[e0,hz] at this;cases this
   omega
  have hz2:hasB d 0=false:=by
   cases hh:hasB d 0 with
   | false=>rfl
   | true=>
    obtain⟨k,hk⟩:=cA (ju.1 hh);have h1:=he k (by have:=bP hk;omega);have h2:=hne k (by have:=bP hk;omega);rw[nE hk] at h1;omega
  have:=LI e d hl fun k hk=>⟨hne k hk,(he k hk).2⟩;have:=(hp hz2).2.1;omega
def vt (v:aK):aK×Int:=if fo v=0 then(v,0) else(jS,5)
theorem FG {v:aK}(h1:(cn v.au).2=0) (h2:v.Steps.length=v.au.length):fo v=0∨fo v=4:=by
 unfold fo;rw[if_neg (by omega),if_neg (by omega)];split
 ·exact .inr rfl
 ·exact .inl rfl
theorem Ip (fu:Nat) (v:aK) (h1:(cn v.au).2=0) (h2:v.Steps.length=v.au.length) (hf:4000000<fu):F.pj fu v=some (vt v):=by
 have h6:=(fC h1).1;unfold F.pj vt;simp only[sW fu v (by omega) (by omega) hf,aa];rcases FG h1 h2 with h | h
 ·rw[h,if_pos rfl];rfl
 ·rw[h,if_neg (by omega)];rfl
theorem OC (fu:Nat) (v:aK) (h1:(cn v.au).2=0) (h2:v.Steps.length=v.au.length) (hf:4000000<fu):F.lN fu v=some (vt v):=by
 have h6:=(fC h1).1;unfold F.lN vt;simp only[ua fu v (by omega) (by omega) hf,aa];rcases FG h1 h2 with h | h
 ·rw[h,if_pos rfl];rfl
 ·rw[h,if_neg (by omega)];rfl
def qN (lo hi st:Int):Int:=(hi-lo+st-1).tdiv st
theorem EO {lo hi st:Int}(h0:lo≤hi) (h1:hi-lo≤4096) (h2:1≤st):qN lo hi st=(hi-lo+st-1)/st∧0≤qN lo hi st∧qN lo hi st≤hi-lo:=by
 have e:qN lo hi st=(hi-lo+st-1)/st:=Int.tdiv_eq_ediv_of_nonneg (by omega);refine⟨e,?_,?_⟩
 ·rw[e];exact Int.ediv_nonneg (by omega) (by omega)
 ·rw[e];apply Int.le_of_lt_add_one;rw[Int.ediv_lt_iff_lt_mul (by omega)];have:(hi-lo+1)*st=(hi-lo)*st+st:=by rw[Int.add_mul,nI]
  have h3:(hi-lo)*1≤(hi-lo)*st:=j9 h2 (by omega);omega
theorem Xk (fu:Nat) (lo hi st:Int) (hl:0≤lo) (h0:lo≤hi) (h1:hi≤4096) (h2:1≤st) (h3:st≤4096) (hf:4000000<fu):F.lO fu lo hi st=some (qN lo hi st):=by
 unfold F.lO;obtain⟨e,e0,e1⟩:=EO h0 (by omega) h2;obtain⟨c,hc⟩:∃c:Nat,qN lo hi st=c:=⟨(qN lo hi st).toNat,by omega⟩;have q1:∀k:Nat,k<c→lo+(k:Int)*st<hi:=fun k hk=>by
  have:((k:Int)+1)≤(hi-lo+st-1)/st:=by rw[←e];omega
  rw[Int.le_ediv_iff_mul_le (by omega),Int.add_mul,nI] at this;omega
 have q2:¬(lo+(c:Int)*st<hi):=fun h=>by
  have:¬((c:Int)+1≤(hi-lo+st-1)/st):=by rw[←e];omega
  rw[Int.le_ediv_iff_mul_le (by omega),Int.add_mul,nI] at this;omega
 have h:=iP (body:=F.mc fu hi st) c (fun k=>((k:Int),lo+(k:Int)*st)) (c:Int)
  (fun k hk=>by
   have hw:=aT hk (by omega);have a1:=q1 k hk;have a2:0≤(k:Int)*st:=iH (by omega) (by omega);have a3:((k+1:Nat):Int)*st=(k:Int)*st+st:=by rw[Int.natCast_add,Int.add_mul];simp
   have w:IntKind.i64.wrap (lo+(k:Int)*st+st)=lo+((k+1:Nat):Int)*st:=by rw[i64 (by omega) (by omega)];omega
   simp only[F.mc,ed a1,cond_true,hw,w])
  (by simp only[F.mc,cB q2,cond_false]) fu (by omega)
 rw[show((0:Nat):Int)=0 from rfl,Int.zero_mul,Int.add_zero] at h;simp only[h,aa,hc]
def uV (v:aK) (lo hi st:List Int) (k:Nat):Bool:=
 decide (ao lo k<0)||(decide (ao lo k>ao hi k)||(decide (ao hi k>ao v.au k)||(decide (ao st k<1)||decide (ao st k>4096))))
def uc (v:aK) (lo:List Int):Nat→Int
 | 0=>v.Start
 | k+1=>IntKind.wrap .i64 (uc v lo k+IntKind.wrap .i64 (ao lo k*ao v.Steps k))
def pQ (lo hi st:List Int) (k:Nat):List Int:=(List.range k).map fun (i:Nat)=>qN (ao lo i) (ao hi i) (ao st i)
def uQ (v:aK) (st:List Int) (k:Nat):List Int:=(List.range k).map fun (i:Nat)=>IntKind.wrap .i64 (ao v.Steps i*ao st i)
theorem JU (lo hi st:List Int) (k:Nat):pQ lo hi st (k+1)=pQ lo hi st k++[qN (ao lo k) (ao hi k) (ao st k)]:=by
 unfold pQ;rw[qI,dW];rfl
theorem JT (v:aK) (st:List Int) (k:Nat):uQ v st (k+1)=uQ v st k++[IntKind.wrap .i64 (ao v.Steps k*ao st k)]:=by
 unfold uQ;rw[qI,dW];rfl
theorem tD (lo hi st:List Int) (k:Nat):(pQ lo hi st k).length=k:=by unfold pQ;simp
theorem Fa (v:aK) (st:List Int) (k:Nat):(uQ v st k).length=k:=by unfold uQ;simp
theorem VC (lo hi st:List Int) (n k:Nat) (h:k<n):ao (pQ lo hi st n) k=qN (ao lo k) (ao hi k) (ao st k):=by
 apply nE;unfold pQ;rw[ak,dr h];rfl
def EI (v:aK) (lo hi st:List Int):Bool:=((lo.length:Int) !=v.au.length)||(((hi.length:Int) !=v.au.length)||((st.length:Int) !=v.au.length))
theorem OK {v:aK}{lo hi st:List Int}(h:EI v lo hi st=false):lo.length=v.au.length∧hi.length=v.au.length∧st.length=v.au.length:=by
 unfold EI at h;simp at h;omega
def wC (v:aK) (lo hi st:List Int):aK:=⟨uc v lo v.au.length,pQ lo hi st v.au.length,uQ v st v.au.length⟩
def IA (v:aK) (lo hi st:List Int):aK×Int:=
 if fo v≠0 then(jS,fo v) else if EI v lo hi st then(jS,6) else if (List.range v.au.length).any (uV v lo hi st) then(jS,4) else vt (wC v lo hi st)
theorem IV {v:aK}{lo hi st:List Int}{k:Nat}(h:uV v lo hi st k=false):0≤ao lo k∧ao lo k≤ao hi k∧ao hi k≤ao v.au k∧1≤ao st k∧ao st k≤4096:=by
 simp[uV] at h;omega
theorem M4 {v:aK}{lo hi st:List Int}(hs:(cn v.au).2=0) (hb:(List.range v.au.length).any (uV v lo hi st)=false):(cn (wC v lo hi st).au).2=0∧(wC v lo hi st).Steps.length=(wC v lo hi st).au.length:=by
 refine⟨shrink hs (tD _ _ _ _) fun k hk=>?_,by unfold wC;simp only[tD,Fa]⟩;have hk:k<v.au.length:=by rwa[show(wC v lo hi st).au=pQ lo hi st v.au.length from rfl,tD] at hk
 obtain⟨b1,b2,b3,b4,b5⟩:=IV (nN.1 hb k hk);have:=(fC hs).2.1 _ (aj (aY hk));obtain⟨_,r1,r2⟩:=EO b2 (by omega) b4;rw[show(wC v lo hi st).au=pQ lo hi st v.au.length from rfl,VC _ _ _ _ _ hk];omega
theorem Zf (fu:Nat) (v:aK) (lo hi st:List Int) (hd:v.au.length≤4000000) (hs:v.Steps.length≤4000000) (hf:4000000<fu):F.zp fu v lo hi st=some (IA v lo hi st):=by
 unfold F.zp IA;simp only[sW fu v hd hs hf,aa]
 by_cases hw0:fo v=0
 ·rw[if_neg (by omega),bne_false hw0,cond_false];obtain⟨hsz,hsl,_⟩:=mo hw0;simp only[cc,aa];rw[show(((lo.length:Int) !=v.au.length)||(((hi.length:Int) !=v.au.length)||((st.length:Int) !=v.au.length)))=EI v lo hi st from rfl];cases hc:EI v lo hi st with
  | true=>rfl
  | false=>
   obtain⟨e1,e2,e3⟩:=OK hc;have h:=gO (body:=F.tS fu v lo hi st) v.au.length (fun k=>((k:Int),0,[],[],uc v lo k,pQ lo hi st k,uQ v st k)) (fun k=>if uV v lo hi st k then some (Ex.ret (jS,4)) else none) (Ex.bJ (0,[],[],uc v lo v.au.length,pQ lo hi st v.au.length,uQ v st v.au.length))
    (fun k hk _=>by
     have hx:=aY hk;have hw:=aT hk (by omega);have i1:=aC (aY (l:=lo) (show k<lo.length by omega));have i2:=aC (aY (l:=hi) (show k<hi.length by omega));have i3:=aC (aY (l:=st) (show k<st.length by omega));have i4:=aC (aY (l:=v.Steps) (show k<v.Steps.length by omega));simp only[F.tS,dec_lt hx,cond_true,aC hx,i1,i2,i3,i4,aa,hw,cc];rw[show(decide (ao lo k<0)||(decide (ao lo k>ao hi k)||(decide (ao hi k>ao v.au k)||(decide (ao st k<1)||decide (ao st k>4096)))))=uV v lo hi st k from rfl];cases hb:uV v lo hi st k with
     | true=>rfl
     | false=>
      obtain⟨b1,b2,b3,b4,b5⟩:=IV hb;have hdr:=(fC hsz).2.1 _ (aj hx);obtain⟨_,r1,r2⟩:=EO b2 (by omega) b4;have w1:IntKind.i64.wrap (ao hi k-ao lo k)=ao hi k-ao lo k:=i64 (by omega) (by omega);have w2:IntKind.i64.wrap (ao hi k-ao lo k+ao st k)=ao hi k-ao lo k+ao st k:=i64 (by omega) (by omega);have w3:IntKind.i64.wrap (ao hi k-ao lo k+ao st k-1)=ao hi k-ao lo k+ao st k-1:=i64 (by omega) (by omega);have w4:IntKind.i64.wrap (Int.tdiv (ao hi k-ao lo k+ao st k-1) (ao st k))=qN (ao lo k) (ao hi k) (ao st k):=by
       rw[show Int.tdiv (ao hi k-ao lo k+ao st k-1) (ao st k)=qN (ao lo k) (ao hi k) (ao st k) from rfl,i64 (by omega) (by omega)]
      have l1:=tD lo hi st k;have l2:=Fa v st k;simp only[cond_false,w1,w2,w3,w4,ey (show ao st k≠0 by omega),aa,dG,dK,fM,fL,bF,if_false];rw[cQ (by simp only[ah];omega) (by simp only[ah];omega),cQ (by simp only[ah];omega) (by simp only[ah];omega),JU,JT];rfl)
    (fun _=>by simp only[F.tS,bw,cond_false]) fu (by omega)
   rw[show((0:Nat):Int)=0 from rfl,show uc v lo 0=v.Start from rfl,show pQ lo hi st 0=[] from rfl,show uQ v st 0=[] from rfl] at h;rw[cond_false,h,gP];cases hb:(List.range v.au.length).any (uV v lo hi st) with
   | true=>rfl
   | false=>
    obtain⟨z1,z2⟩:=M4 (lo:=lo) (hi:=hi) (st:=st) hsz hb;have:=Ip fu (wC v lo hi st) z1 z2 hf;unfold wC at this;simp only[bF,if_false,bd,this,aa];rfl
 ·rw[if_pos hw0,bne_true hw0,cond_true];rfl
theorem XH (fu:Nat) (v:aK) (lo hi st:List Int) (hd:v.au.length≤4000000) (hs:v.Steps.length≤4000000) (hf:4000000<fu):F.pc fu v lo hi st=some (IA v lo hi st):=by
 unfold F.pc IA;simp only[ua fu v hd hs hf,aa]
 by_cases hw0:fo v=0
 ·rw[if_neg (by omega),bne_false hw0,cond_false];obtain⟨hsz,hsl,_⟩:=mo hw0;simp only[cc,aa];rw[show(((lo.length:Int) !=v.au.length)||(((hi.length:Int) !=v.au.length)||((st.length:Int) !=v.au.length)))=EI v lo hi st from rfl];cases hc:EI v lo hi st with
  | true=>rfl
  | false=>
   obtain⟨e1,e2,e3⟩:=OK hc;have h:=gO (body:=F.mS fu v lo hi st) v.au.length (fun k=>((k:Int),0,[],[])) (fun k=>if uV v lo hi st k then some (Ex.ret (jS,4)) else none) (Ex.bJ (0,[],[]))
    (fun k hk _=>by
     have hx:=aY hk;have hw:=aT hk (by omega);have i1:=aC (aY (l:=lo) (show k<lo.length by omega));have i2:=aC (aY (l:=hi) (show k<hi.length by omega));have i3:=aC (aY (l:=st) (show k<st.length by omega));simp only[F.mS,dec_lt hx,cond_true,aC hx,i1,i2,i3,aa,hw,cc];rw[show(decide (ao lo k<0)||(decide (ao hi k<ao lo k)||(decide (ao v.au k<ao hi k)||(decide (ao st k<1)||decide (ao st k>4096)))))=uV v lo hi st k from rfl];cases uV v lo hi st k <;> rfl)
    (fun _=>by simp only[F.mS,bw,cond_false]) fu (by omega)
   rw[show((0:Nat):Int)=0 from rfl] at h;rw[cond_false,h,gP];cases hb:(List.range v.au.length).any (uV v lo hi st) with
   | true=>rfl
   | false=>
    have h2:=iP (body:=F.mR fu v lo hi st) v.au.length (fun k=>((k:Int),uc v lo k,pQ lo hi st k,uQ v st k)) (uc v lo v.au.length,pQ lo hi st v.au.length,uQ v st v.au.length)
     (fun k hk=>by
      have hx:=aY hk;have hw:=aT hk (by omega);have i1:=aC (aY (l:=lo) (show k<lo.length by omega));have i2:=aC (aY (l:=hi) (show k<hi.length by omega));have i3:=aC (aY (l:=st) (show k<st.length by omega));have i4:=aC (aY (l:=v.Steps) (show k<v.Steps.length by omega));obtain⟨b1,b2,b3,b4,b5⟩:=IV (nN.1 hb k hk);have hdr:=(fC hsz).2.1 _ (aj hx);have l1:=tD lo hi st k;have l2:=Fa v st k;simp only[F.mR,dec_lt hx,cond_true,i1,i2,i3,i4,aa,hw,Xk fu _ _ _ b1 b2 (by omega) b4 b5 hf,dG,dK,fM,fL];rw[cQ (by simp only[ah];omega) (by simp only[ah];omega),cQ (by simp only[ah];omega) (by simp only[ah];omega),JU,JT];simp only[aa,dG,dK,fM,fL];rfl)
     (by simp only[F.mR,bw,cond_false]) fu (by omega)
    rw[show((0:Nat):Int)=0 from rfl,show uc v lo 0=v.Start from rfl,show pQ lo hi st 0=[] from rfl,show uQ v st 0=[] from rfl] at h2;obtain⟨z1,z2⟩:=M4 (lo:=lo) (hi:=hi) (st:=st) hsz hb;have:=OC fu (wC v lo hi st) z1 z2 hf;unfold wC at this;simp only[bF,if_false,bd,h2,this,aa];rfl
 ·rw[if_pos hw0,bne_true hw0,cond_true];rfl
end Go.DN.Pl
