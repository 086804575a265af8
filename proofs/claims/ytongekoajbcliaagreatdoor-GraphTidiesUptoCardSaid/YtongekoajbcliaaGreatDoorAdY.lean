/-
  Arrays: the plain law: views spread, turned, cut, flipped.
-/
import Derived.Test.YtongekoajbcliaaGreatDoorAdX
set_option linter.unusedSimpArgs false
set_option linter.unusedVariables false
namespace Go.DN.Pl
open Go.AM Go.PL
def kr (s at_:List Int) (n:Nat):Nat→List Int
 | 0=>List.replicate n 0
 | k+1=>(kr s at_ n k).set (ao at_ k).toNat (ao s k)
theorem xQ (s at_:List Int) (n:Nat):∀k,(kr s at_ n k).length=n
 | 0=>by simp[kr]
 | k+1=>by rw[show kr s at_ n (k+1)=(kr s at_ n k).set (ao at_ k).toNat (ao s k) from rfl,fP,xQ s at_ n k]
def na (v:aK) (dZ at_:List Int) (k:Nat):Bool:=ao dZ (ao at_ k).toNat !=ao v.au k
def vG (v:aK) (dZ at_:List Int):aK×Int:=
 if fo v≠0 then(jS,fo v) else if (cn dZ).2≠0 then(jS,(cn dZ).2) else
 if ((at_.length:Int) !=v.au.length||!(nS at_ dZ.length)) then(jS,6) else
 if (List.range at_.length).any (na v dZ at_) then(jS,6) else(⟨v.Start,dZ,kr v.Steps at_ dZ.length at_.length⟩,0)
theorem RH (fu:Nat) (v:aK) (dZ at_:List Int) (hd:v.au.length≤4000000) (hs:v.Steps.length≤4000000) (hn:dZ.length≤4000000) (ha:at_.length≤4000000) (hf:4000000<fu):F.tQ fu v dZ at_=some (vG v dZ at_):=by
 unfold F.tQ vG;simp only[sW fu v hd hs hf,aa]
 by_cases hw0:fo v=0
 ·rw[if_neg (by omega),bne_false hw0,cond_false];obtain⟨_,hsl,_⟩:=mo hw0;simp only[rq fu dZ hn hf,aa]
  by_cases hz:(cn dZ).2=0
  ·rw[if_neg (by omega),bne_false hz,cond_false];simp only[FU fu at_ dZ.length ha hf,aa,cc];cases hc:((at_.length:Int) !=v.au.length||!(nS at_ dZ.length)) with
   | true=>rfl
   | false=>
    simp only[bi,Bool.not_eq_false'] at hc;obtain⟨hl,hr⟩:=hc;have hl:at_.length=v.au.length:=by simp at hl;omega
    have hr:=(qZ.1 hr).1;simp only[cond_false,kP fu dZ (by omega),aa,dG,dK,fM,fL];rw[ey (by omega)];simp only[aa,dG,dK,fM,fL,bO];have h:=gO (body:=F.pZ fu v dZ at_) at_.length (fun k=>((k:Int),0,[],[],kr v.Steps at_ dZ.length k,v.Start)) (fun k=>if na v dZ at_ k then some (Ex.ret (jS,6)) else none) (Ex.bJ (0,[],[],kr v.Steps at_ dZ.length at_.length,v.Start))
     (fun k hk _=>by
      have hx:=aY hk;have hw:=aT hk (by omega);have i1:=aY (l:=v.au) (show k<v.au.length by omega);have i2:=aY (l:=v.Steps) (show k<v.Steps.length by omega);have hrk:=hr k hk;have i3:=qE (d:=kr v.Steps at_ dZ.length k) (x:=ao at_ k) (by rw[xQ];exact hrk);simp only[F.pZ,dec_lt hx,cond_true,aC hx,qE hrk,aC i1,aC i2,i3,aa,hw];unfold na;cases ao dZ (ao at_ k).toNat !=ao v.au k <;> rfl)
     (fun _=>by simp only[F.pZ,bw,cond_false]) fu (by omega)
    rw[show((0:Nat):Int)=0 from rfl,show kr v.Steps at_ dZ.length 0=List.replicate dZ.length 0 from rfl] at h;rw[h,gP];cases (List.range at_.length).any (na v dZ at_) <;> rfl
  ·rw[if_pos hz,bne_true hz,cond_true];rfl
 ·rw[if_pos hw0,bne_true hw0,cond_true];rfl
theorem PC (fu:Nat) (v:aK) (dZ at_:List Int) (hd:v.au.length≤4000000) (hs:v.Steps.length≤4000000) (hn:dZ.length≤4000000) (ha:at_.length≤4000000) (hf:4000000<fu):F.mQ fu v dZ at_=some (vG v dZ at_):=by
 unfold F.mQ vG;simp only[ua fu v hd hs hf,aa]
 by_cases hw0:fo v=0
 ·rw[if_neg (by omega),bne_false hw0,cond_false];obtain⟨_,hsl,_⟩:=mo hw0;simp only[k5 fu dZ hn hf,aa]
  by_cases hz:(cn dZ).2=0
  ·rw[if_neg (by omega),bne_false hz,cond_false];simp only[zA fu at_ dZ.length ha hf,aa,cc];cases hc:((at_.length:Int) !=v.au.length||!(nS at_ dZ.length)) with
   | true=>rfl
   | false=>
    simp only[bi,Bool.not_eq_false'] at hc;obtain⟨hl,hr⟩:=hc;have hl:at_.length=v.au.length:=by simp at hl;omega
    have hr:=(qZ.1 hr).1;simp only[cond_false,aa,dG,dK,fM,fL];rw[ey (by omega)];simp only[aa,dG,dK,fM,fL,bO];have h:=gO (body:=F.kI fu v dZ at_) at_.length (fun k=>((k:Int),0,[],[],kr v.Steps at_ dZ.length k,v.Start,dZ)) (fun k=>if na v dZ at_ k then some (Ex.ret (jS,6)) else none) (Ex.bJ (0,[],[],kr v.Steps at_ dZ.length at_.length,v.Start,dZ))
     (fun k hk _=>by
      have hx:=aY hk;have hw:=aT hk (by omega);have i1:=aY (l:=v.au) (show k<v.au.length by omega);have i2:=aY (l:=v.Steps) (show k<v.Steps.length by omega);have hrk:=hr k hk;have i3:=qE (d:=kr v.Steps at_ dZ.length k) (x:=ao at_ k) (by rw[xQ];exact hrk);simp only[F.kI,dec_lt hx,cond_true,aC hx,qE hrk,aC i1,aC i2,i3,aa,hw];unfold na;cases ao dZ (ao at_ k).toNat !=ao v.au k <;> rfl)
     (fun _=>by simp only[F.kI,bw,cond_false]) fu (by omega)
    rw[show((0:Nat):Int)=0 from rfl,show kr v.Steps at_ dZ.length 0=List.replicate dZ.length 0 from rfl] at h;rw[h,gP];cases (List.range at_.length).any (na v dZ at_) <;> rfl
  ·rw[if_pos hz,bne_true hz,cond_true];rfl
 ·rw[if_pos hw0,bne_true hw0,cond_true];rfl
theorem B0 {α:Type}[DecidableEq α]:∀(l m:List α),l.Nodup→(∀x∈l,x∈m)→l.length≤m.length
 | [],m,_,_=>iV _
 | x::r,m,hn,h=>by
  have hx:=h x ar;have hn':=ov.1 hn;have:=B0 r (m.erase x) hn'.2 fun y hy=>(List.mem_erase_of_ne (fun e=>hn'.1 (by rw[←e];exact hy))).2 (h y (ap _ hy));rw[List.length_erase_of_mem hx] at this;have h0:0<m.length:=List.length_pos_of_mem hx;rw[bL];omega
theorem Si {α:Type}[DecidableEq α] (l m:List α) (hn:l.Nodup) (h:∀x∈l,x∈m) (hl:m.length≤l.length):∀x∈m,x∈l:=by
 intro x hx;apply mg;intro hxl;have:=B0 (x::l) m (ov.2 ⟨hxl,hn⟩) fun y hy=>by
  rcases bf.1 hy with e | hy
  ·rw[e];exact hx
  ·exact h y hy
 rw[bL] at this;omega
theorem J4 {α:Type}[DecidableEq α]:∀(l m:List α),m.Nodup→(∀x∈m,x∈l)→l.length≤m.length→l.Nodup∧∀x∈l,x∈m
 | [],m,_,h,_=>⟨List.nodup_nil,fun x hx=>by cases hx⟩
 | x::r,m,hm,h,hl=>by
  rw[bL] at hl
  by_cases hx:x∈m
  ·have he:(m.erase x).Nodup:=hm.erase x;have h0:0<m.length:=List.length_pos_of_mem hx;have:=J4 r (m.erase x) he (fun y hy=>by
    have hy':=(List.Nodup.mem_erase_iff hm).1 hy;rcases bf.1 (h y hy'.2) with e | h2
    ·exact absurd e hy'.1
    ·exact h2) (by rw[List.length_erase_of_mem hx];omega)
   refine⟨ov.2 ⟨fun hr=>?_,this.1⟩,fun y hy=>?_⟩
   ·have:=(List.Nodup.mem_erase_iff hm).1 (this.2 x hr);exact this.1 rfl
   ·rcases bf.1 hy with e | hy
    ·rw[e];exact hx
    ·exact List.mem_of_mem_erase (this.2 y hy)
  ·have:=B0 m r hm fun y hy=>by
    rcases bf.1 (h y hy) with e | h2
    ·exact absurd (e▸hy) hx
    ·exact h2
   omega
def ui (n:Nat):List Int:=(List.range n).map fun (i:Nat)=>(i:Int)
theorem vb {n:Nat}{x:Int}:x∈ui n↔0≤x∧x<(n:Int):=by
 unfold ui;rw[fc];constructor
 ·rintro⟨i,hi,rfl⟩;have:=gx.1 hi;omega
 ·rintro⟨h0,h1⟩;exact⟨x.toNat,gx.2 (by omega),by omega⟩
theorem Lz (n:Nat):(ui n).Nodup:=by
 unfold ui;rw[gU,List.pairwise_map];exact(gU.1 List.nodup_range).imp fun {a b} h e=>h (by omega)
theorem FW (n:Nat):(ui n).length=n:=by unfold ui;simp
theorem Jk (p:List Int) (n:Nat) (hl:p.length=n):iw p n=true↔∀k,k<n→hasB p (k:Int)=true:=by
 rw[um];constructor
 ·rintro⟨h1,h2⟩ k hk;exact ju.2 (Si p (ui n) h2 (fun x hx=>vb.2 (h1 x hx)) (by rw[FW];omega) _ (vb.2 ⟨by omega,by omega⟩))
 ·intro h;have:=J4 p (ui n) (Lz n) (fun x hx=>by
   obtain⟨h0,h1⟩:=vb.1 hx;have:=ju.1 (h x.toNat (by omega));rwa[gD h0] at this) (by rw[FW];omega)
  exact⟨fun x hx=>vb.1 (this.2 x hx),this.1⟩
def CW (v:aK) (p:List Int):aK×Int:=
 if fo v≠0 then(jS,fo v) else if (p.length=v.au.length∧iw p v.au.length=true) then(⟨v.Start,bD v.au p,bD v.Steps p⟩,0) else(jS,6)
theorem WE (fu:Nat) (v:aK) (p:List Int) (hd:v.au.length≤4000000) (hs:v.Steps.length≤4000000) (hp:p.length≤4000000) (hf:4000000<fu):F.w6 fu v p=some (CW v p):=by
 unfold F.w6 CW;simp only[sW fu v hd hs hf,aa]
 by_cases hw0:fo v=0
 ·rw[if_neg (by omega),bne_false hw0,cond_false];obtain⟨_,hsl,_⟩:=mo hw0;have h:=gO (body:=F.rQ fu v p) p.length (fun k=>((k:Int),0,[],[],jq v.au.length (p.take k),v.Start,(bD v.au p).take k,(bD v.Steps p).take k)) (fun k=>if tH p v.au.length k then some (Ex.ret (jS,6)) else none) (Ex.bJ (0,[],[],jq v.au.length p,v.Start,bD v.au p,bD v.Steps p))
   (fun k hk _=>by
    have hx:=aY hk;have hw:=aT hk (by omega);have hsn:(jq v.au.length (p.take k)).length=v.au.length:=by unfold jq;simp
    simp only[F.rQ,dec_lt hx,cond_true,aC hx,aa,hw,hsn];unfold tH
    by_cases h1:ao p k<0
    ·simp only[ed h1,cond_true,aa,Bool.true_or,if_true];rfl
    ·by_cases h2:ao p k≥(v.au.length:Int)
     ·simp only[cB h1,ed h2,cond_false,cond_true,aa,Bool.true_or,Bool.or_true,if_true];rfl
     ·obtain⟨q,hq⟩:∃q:Nat,ao p k=q:=⟨(ao p k).toNat,by omega⟩;rw[hq] at h1 h2 hx;have hsq:=uh (p:=p.take k) (show q<v.au.length by omega);have c1:=lr (d:=v.au) hx;have c2:=lr (d:=v.Steps) hx;have l1:=pE c1;have l2:=pE c2;have j1:=aY (l:=v.au) (show q<v.au.length by omega);have j2:=aY (l:=v.Steps) (show q<v.Steps.length by omega);rw[bO] at c1 c2;simp only[hq,cB h1,cB h2,cond_false,fW,aC hsq,aC j1,aC j2,aa];cases hh:hasB (p.take k) (q:Int) with
      | true=>rfl
      | false=>
       have e:(jq v.au.length (p.take k)).set (q:Int).toNat true=jq v.au.length (p.take (k+1)):=by
        rw[Jd (by omega) (by omega),take_succ hx]
       rw[cQ (by simp only[ah];omega) (by simp only[ah];omega),cQ (by simp only[ah];omega) (by simp only[ah];omega)];simp only[cond_false,e,bF,if_false,aa,dG,dK,fM,fL,take_succ c1,take_succ c2])
   (fun _=>by
    have e1:(bD v.au p).take p.length=bD v.au p:=C0;have e2:(bD v.Steps p).take p.length=bD v.Steps p:=C0;simp only[F.rQ,bw,cond_false,bK,e1,e2]) fu (by omega)
  rw[dA,Je,dA,dA,show((0:Nat):Int)=0 from rfl] at h;rw[ey (by omega)];simp only[aa,bO];rw[h,gP];have ho:iw p v.au.length=!((List.range p.length).any (tH p v.au.length)):=rfl;cases hb:(List.range p.length).any (tH p v.au.length) with
  | true=>
   rw[hb] at ho;rw[if_neg (show ¬(p.length=v.au.length∧iw p v.au.length=true) from fun h=>by rw[ho] at h;cases h.2)];rfl
  | false=>
   rw[hb] at ho;have hsn:(jq v.au.length p).length=v.au.length:=by unfold jq;simp
   simp only[bF,if_false,bd,hsn]
   by_cases hpl:p.length=v.au.length
   ·rw[if_pos ⟨hpl,by rw[ho];rfl⟩,bne_false (by omega),cond_false]
   ·rw[if_neg (fun h=>hpl h.1),bne_true (by omega),cond_true];rfl
 ·rw[if_pos hw0,bne_true hw0,cond_true];rfl
theorem TU (fu:Nat) (v:aK) (p:List Int) (hd:v.au.length≤4000000) (hs:v.Steps.length≤4000000) (hp:p.length≤4000000) (hf:4000000<fu):F.oq fu v p=some (CW v p):=by
 unfold F.oq CW;simp only[ua fu v hd hs hf,aa]
 by_cases hw0:fo v=0
 ·rw[if_neg (by omega),bne_false hw0,cond_false];obtain⟨_,hsl,_⟩:=mo hw0
  by_cases hpl:p.length=v.au.length
  ·rw[bne_false (by omega),cond_false];have h:=gO (body:=F.l9 fu v p) v.au.length (fun k=>((k:Int),0,[],[])) (fun k=>if !(hasB p (k:Int)) then some (Ex.ret (jS,6)) else none) (Ex.bJ (0,[],[]))
    (fun k hk _=>by
     have hx:=aY hk;have hw:=aT hk (by omega);simp only[F.l9,dec_lt hx,cond_true,H8 fu p _ hp hf,aa,hw];cases hasB p (k:Int) <;> rfl)
    (fun _=>by simp only[F.l9,bw,cond_false]) fu (by omega)
   rw[show((0:Nat):Int)=0 from rfl] at h;rw[h,gP];cases hb:(List.range v.au.length).any fun (k:Nat)=>!(hasB p (k:Int)) with
   | true=>
    have hno:¬(p.length=v.au.length∧iw p v.au.length=true):=by
     rintro⟨_,ho⟩;have:=(Jk p _ hpl).1 ho;obtain⟨k,hk,hk2⟩:=List.any_eq_true.1 hb;rw[this k (gx.1 hk)] at hk2;cases hk2
    rw[if_neg hno];rfl
   | false=>
    have ho:iw p v.au.length=true:=(Jk p _ hpl).2 fun k hk=>by
     have:=nN.1 hb k hk;simpa using this
    have hr:=vY ho;rw[if_pos (show(p.length=v.au.length∧iw p v.au.length=true) from⟨hpl,ho⟩)];simp only[bF,if_false,bd];have h2:=fw (body:=F.l7 fu v p) p (fun k=>((k:Int),v.Start,(bD v.au p).take k,(bD v.Steps p).take k)) (v.Start,bD v.au p,bD v.Steps p)
     (fun k x hx=>by
      have hw:=aT (bP hx) (by omega);have hrx:=hr x (aj hx);have c1:=lr (d:=v.au) hx;have c2:=lr (d:=v.Steps) hx;have l1:=pE c1;have l2:=pE c2;have:=bP hx;simp only[F.l7,dec_lt hx,cond_true,aC hx,aa,hw,qE hrx,qE (d:=v.Steps) (show 0≤x∧x<(v.Steps.length:Int) by omega)];rw[cQ (by simp only[ah];omega) (by simp only[ah];omega),cQ (by simp only[ah];omega) (by simp only[ah];omega)];simp only[aa,dG,dK,fM,fL,take_succ c1,take_succ c2])
     (by
      have e1:(bD v.au p).take p.length=bD v.au p:=C0;have e2:(bD v.Steps p).take p.length=bD v.Steps p:=C0;simp only[F.l7,bw,cond_false,e1,e2]) fu (by omega)
    rw[dA,dA,show((0:Nat):Int)=0 from rfl] at h2;simp only[h2,aa]
  ·rw[bne_true (by omega),cond_true,if_neg (fun h=>hpl h.1)];rfl
 ·rw[if_pos hw0,bne_true hw0,cond_true];rfl
end Go.DN.Pl
