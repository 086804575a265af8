/-
  Arrays: the plain law: pairs.
-/
import Derived.Test.YtongekoajbcliaaGreatDoorAdU
set_option linter.unusedSimpArgs false
set_option linter.unusedVariables false
namespace Go.DN.Pl
open Go.AM Go.PL
def pS (m d:Int):Int:=if 65537<IntKind.wrap .i64 (m*d) then 65537 else IntKind.wrap .i64 (m*d)
theorem qD (n:Nat):Nat.beq n n=true:=aW n
theorem Un (fu:Nat) (ins d m3 m4:List Int) (m5 m6 m7 m8:Int) (m9:List Int) (hd:d.length≤4000000) (hi:ins.length≤4000000) (h9:m9.length≤8000000) (hf:4000000<fu):
  F.sK fu ins d m3 m4 m5 m6 m7 m8 m9=some (eA ins d.length,m3,m4,m5,(eT d ins d.length).foldl pS m6,m7,m8,m9++eT d ins d.length):=by
 unfold F.sK;have h:=iP (body:=F.o7 fu ins d) d.length (fun k=>((k:Int),m9++eT d ins k,m3,m4,m5,(eT d ins k).foldl pS m6,m7,m8,eA ins k)) (m9++eT d ins d.length,m3,m4,m5,(eT d ins d.length).foldl pS m6,m7,m8,eA ins d.length)
  (fun k hk=>by
   have hx:=aY hk;have hw:=aT hk (by omega);have hl:=lm d ins k;have hl2:=nM ins k;simp only[F.o7,dec_lt hx,cond_true,aC hx,oK fu ins _ hi hf,aa,hw];rw[zZ,show eA ins (k+1)=if hasB ins k then eA ins k else eA ins k++[(k:Int)] from rfl];cases hasB ins (k:Int) with
   | true=>rfl
   | false=>
    simp only[jn,cond_true,bF,if_false];rw[cQ (by simp only[ah];omega) (by simp only[ah];omega),cQ (by simp only[ah,aI];omega) (by simp only[ah,aI];omega)];simp only[aa,F.tL,qD,cond_true,eo,cz,eZ,aR];rfl)
  (by simp only[F.o7,bw,cond_false]) fu (by omega)
 rw[show eA ins 0=[] from rfl,show eT d ins 0=[] from rfl,show((0:Nat):Int)=0 from rfl,bM,eZ] at h;simp only[h,aa]
theorem Sd (fu:Nat) (ins d m3 m4:List Int) (m5 m6 m7 m8:Int) (m9:List Int) (hd:d.length≤4000000) (hi:ins.length≤4000000) (h9:m9.length≤8000000) (hf:4000000<fu):
  F.qd fu ins d m3 m4 m5 m6 m7 m8 m9=some (eA ins d.length,m3,m4,m5,m6,(eT d ins d.length).foldl pS m7,m8,m9++eT d ins d.length):=by
 unfold F.qd;have h:=iP (body:=F.nm fu ins d) d.length (fun k=>((k:Int),m9++eT d ins k,m3,m4,m5,m6,(eT d ins k).foldl pS m7,m8,eA ins k)) (m9++eT d ins d.length,m3,m4,m5,m6,(eT d ins d.length).foldl pS m7,m8,eA ins d.length)
  (fun k hk=>by
   have hx:=aY hk;have hw:=aT hk (by omega);have hl:=lm d ins k;have hl2:=nM ins k;simp only[F.nm,dec_lt hx,cond_true,aC hx,oK fu ins _ hi hf,aa,hw];rw[zZ,show eA ins (k+1)=if hasB ins k then eA ins k else eA ins k++[(k:Int)] from rfl];cases hasB ins (k:Int) with
   | true=>rfl
   | false=>
    simp only[jn,cond_true,bF,if_false];rw[cQ (by simp only[ah];omega) (by simp only[ah];omega),cQ (by simp only[ah,aI];omega) (by simp only[ah,aI];omega)];simp only[aa,F.tK,qD,cond_true,eo,cz,eZ,aR];rfl)
  (by simp only[F.nm,bw,cond_false]) fu (by omega)
 rw[show eA ins 0=[] from rfl,show eT d ins 0=[] from rfl,show((0:Nat):Int)=0 from rfl,bM,eZ] at h;simp only[h,aa]
theorem lr {d l:List Int}{k:Nat}{x:Int}(h:l[k]?=some x):(bD d l)[k]?=some (ao d x.toNat):=by
 unfold bD;rw[ak,h];rfl
theorem qE {d:List Int}{x:Int}(h:0≤x∧x<(d.length:Int)):idx d x=some (ao d x.toNat):=by
 have:=aC (aY (l:=d) (show x.toNat<d.length by omega));rwa[gD h.1] at this
theorem C0 {d l:List Int}:(bD d l).take l.length=bD d l:=by rw[←fX d l];exact bK
theorem Sa (fu:Nat) (op:cy) (a:List Int) (ha:op.Lo.length≤4000000) (hr:∀x∈op.Lo,0≤x∧x<(a.length:Int)) (hf:4000000<fu):
  aP (F.oE fu op a) fu (0,[],[],1,1,1,1,[])=some ([],[],(bD a op.Lo).foldl pS 1,1,1,1,bD a op.Lo):=by
 have h:=fw (body:=F.oE fu op a) op.Lo (fun k=>((k:Int),[],[],((bD a op.Lo).take k).foldl pS 1,1,1,1,(bD a op.Lo).take k)) ([],[],(bD a op.Lo).foldl pS 1,1,1,1,bD a op.Lo)
  (fun k x hx=>by
   have hw:=aT (bP hx) (by omega);have hr:=hr x (aj hx);have hc:=lr (d:=a) hx;have hl:=pE hc;have:=bP hx;simp only[F.oE,dec_lt hx,cond_true,aC hx,aa,hw,qE hr,dG,dK,fM,fL];rw[cQ (by simp only[ah];omega) (by simp only[ah];omega),take_succ hc];simp only[aa,F.tM,qD,cond_true,eo,cz,eZ,dG,dK,fM,fL];rfl)
  (by simp only[F.oE,bw,cond_false,C0]) fu (by omega)
 rw[dA,show((0:Nat):Int)=0 from rfl,eZ] at h;exact h
theorem R9 (fu:Nat) (op:cy) (a m1 m2:List Int) (m3 m4 m5 m6:Int) (m7:List Int) (ha:op.At.length≤4000000) (hr:∀x∈op.At,0≤x∧x<(a.length:Int)) (hf:4000000<fu):
  aP (F.oD fu op a) fu (0,m1,m2,m3,m4,m5,m6,m7)=some (m1,m2,m3,m4,m5,(bD a op.At).foldl pS m6,m7):=by
 have h:=fw (body:=F.oD fu op a) op.At (fun k=>((k:Int),m1,m2,m3,m4,m5,((bD a op.At).take k).foldl pS m6,m7)) (m1,m2,m3,m4,m5,(bD a op.At).foldl pS m6,m7)
  (fun k x hx=>by
   have hw:=aT (bP hx) (by omega);have hr:=hr x (aj hx);have hc:=lr (d:=a) hx;simp only[F.oD,dec_lt hx,cond_true,aC hx,aa,hw,qE hr,dG,dK,fM,fL];rw[take_succ hc];simp only[aa,F.sL,qD,cond_true,eo,cz,eZ,dG,dK,fM,fL];rfl)
  (by simp only[F.oD,bw,cond_false,C0]) fu (by omega)
 rw[dA,show((0:Nat):Int)=0 from rfl,eZ] at h;exact h
def jI (a b l m:List Int):Bool:=decide (bD a l=bD b m)
theorem Sc (fu:Nat) (a b l m:List Int) (hlm:l.length=m.length) (hl:l.length≤4000000) (hra:∀x∈l,0≤x∧x<(a.length:Int)) (hrb:∀x∈m,0≤x∧x<(b.length:Int)) (hf:4000000<fu):
  aP (F.oF fu a b l m) fu (0,[],[],[],0,0,0,0)=some (if jI a b l m then Ex.bJ ([],[],[],0,0,0,0) else Ex.ret (⟨[],[],[],0,0,0,0⟩,6)):=by
 have h:=gO (body:=F.oF fu a b l m) l.length (fun k=>((k:Int),[],[],[],0,0,0,0)) (fun k=>if ao (bD a l) k !=ao (bD b m) k then some (Ex.ret (⟨[],[],[],0,0,0,0⟩,6)) else none) (Ex.bJ ([],[],[],0,0,0,0))
  (fun k hk _=>by
   have hx:=aY hk;have hy:=aY (l:=m) (show k<m.length by omega);have hw:=aT hk (by omega);have h1:=hra _ (aj hx);have h2:=hrb _ (aj hy);simp only[F.oF,dec_lt hx,cond_true,aC hx,aC hy,aa,hw,qE h1,qE h2];rw[nE (lr (d:=a) hx),nE (lr (d:=b) hy)];cases ao a (ao l k).toNat !=ao b (ao m k).toNat <;> rfl)
  (fun _=>by simp only[F.oF,bw,cond_false]) fu (by omega)
 rw[show((0:Nat):Int)=0 from rfl] at h;rw[h,gP];have e:((List.range l.length).any fun k=>ao (bD a l) k !=ao (bD b m) k)=!(jI a b l m):=by
  rw[mn,aS];unfold jI;constructor
  ·intro h;obtain⟨k,_,hk⟩:=List.any_eq_true.1 h;rw[decide_eq_false_iff_not];intro e;rw[e] at hk;simp at hk
  ·intro h;rw[decide_eq_false_iff_not] at h;apply mg;intro h2;rw[Bool.not_eq_true,nN] at h2;apply h;apply du;intro i
   by_cases hi:i<l.length
   ·have h3:=h2 i hi;rw[aY (l:=bD a l) (by rw[fX];omega),aY (l:=bD b m) (by rw[fX];omega)];simp at h3;rw[h3]
   ·rw[bV (by rw[fX];omega),bV (by rw[fX];omega)]
 rw[e];cases jI a b l m <;> rfl
theorem RK (a b l1 l2 m1 m2:List Int) (h:l1.length=m1.length):jI a b (l1++l2) (m1++m2)=(jI a b l1 m1&&jI a b l2 m2):=by
 unfold jI;rw[mn,af,decide_eq_true_iff,decide_eq_true_iff,decide_eq_true_iff];unfold bD;rw[dW,dW];constructor
 ·intro e;exact List.append_inj e (by simp[h])
 ·rintro⟨e1,e2⟩;rw[e1,e2]
def xi (op:cy):Bool:=((op.At.length:Int) !=op.Step.length)||((op.Lo.length:Int) !=op.Hi.length)
theorem Mf {op:cy}(h:xi op=false):op.At.length=op.Step.length∧op.Lo.length=op.Hi.length:=by
 unfold xi at h;simp at h;omega
def MU (op:cy) (a b:List Int):Bool:=
 xi op||(!(iw (op.At++op.Lo) a.length)||!(iw (op.Step++op.Hi) b.length))||(!(jI a b op.At op.Step)||!(jI a b op.Lo op.Hi))
def Vm (op:cy) (a b:List Int):List Int:=bD a op.Lo++eT a (op.At++op.Lo) a.length++eT b (op.Step++op.Hi) b.length
def oO (op:cy) (a b:List Int):List Int×Int:=if MU op a b then([],6) else(Vm op a b,0)
def vZ (op:cy):Prop:=op.au.length≤1048576∧op.At.length≤1048576∧op.Lo.length≤1048576∧op.Hi.length≤1048576∧op.Step.length≤1048576
theorem vY {l:List Int}{rank:Nat}(h:iw l rank=true):∀x∈l,0≤x∧x<(rank:Int):=(um.1 h).1
theorem QO (fu:Nat) (op:cy) (a b:List Int) (ho:vZ op) (ha:a.length≤1000000) (hb:b.length≤1000000) (hf:4000000<fu):F.l5 fu op a b=some (oO op a b):=by
 obtain⟨_,o1,o2,o3,o4⟩:=ho;unfold F.l5 oO MU;rw[cc];simp only[aa];rw[show(((op.At.length:Int) !=op.Step.length)||((op.Lo.length:Int) !=op.Hi.length))=xi op from rfl];cases hlp:xi op with
 | true=>rfl
 | false=>
  obtain⟨e1,e2⟩:=Mf hlp;have lA:(op.At++op.Lo).length≤4000000:=by rw[aI];omega
  have lB:(op.Step++op.Hi).length≤4000000:=by rw[aI];omega
  simp only[cond_false,vM fu op.At op.Lo (by omega) (by omega),vM fu op.Step op.Hi (by omega) (by omega),Oq fu (op.At++op.Lo) a.length lA hf,Oq fu (op.Step++op.Hi) b.length lB hf,aa,cc,fW];cases hoA:iw (op.At++op.Lo) a.length with
  | false=>rfl
  | true=>
  cases hoB:iw (op.Step++op.Hi) b.length with
  | false=>rfl
  | true=>
   have mA:=vY hoA;have mB:=vY hoB;have c1:=uE fu a op.At (by omega) (fun x hx=>mA x (bY _ hx)) hf;have c2:=uE fu a op.Lo (by omega) (fun x hx=>mA x (ct _ hx)) hf;have c3:=uE fu b op.Step (by omega) (fun x hx=>mB x (bY _ hx)) hf;have c4:=uE fu b op.Hi (by omega) (fun x hx=>mB x (ct _ hx)) hf;have k1:=lm a (op.At++op.Lo) a.length;have k2:=lm b (op.Step++op.Hi) b.length;have s1:=iI fu (bD a op.At) (bD b op.Step) (by rw[fX];omega) hf;have s2:=iI fu (bD a op.Lo) (bD b op.Hi) (by rw[fX];omega) hf;simp only[fj,cF,cond_false,c1,c2,c3,c4,s1,s2,aa,dG,dK,fM,fL,cc];rw[show decide (bD a op.At=bD b op.Step)=jI a b op.At op.Step from rfl,show decide (bD a op.Lo=bD b op.Hi)=jI a b op.Lo op.Hi from rfl,fW];cases hs:(!(jI a b op.At op.Step)||!(jI a b op.Lo op.Hi)) with
   | true=>rfl
   | false=>
    simp only[cond_false,Ia fu a (op.At++op.Lo) (by omega) lA hf,Ia fu b (op.Step++op.Hi) (by omega) lB hf,aa,yd fu a _ (by omega) hf,yd fu b _ (by omega) hf,
     vM fu (bD a op.Lo) (eT a (op.At++op.Lo) a.length) (by rw[fX];omega) (by omega),
     vM fu (bD a op.Lo++eT a (op.At++op.Lo) a.length) (eT b (op.Step++op.Hi) b.length) (by rw[aI,fX];omega) (by omega)]
    rfl
theorem R8 (fu:Nat) (op:cy) (a b:List Int) (ho:vZ op) (ha:a.length≤1000000) (hb:b.length≤1000000) (hf:4000000<fu):
  ∃p,F.sM fu op a b=some (p,(oO op a b).2)∧((oO op a b).2=0→(p.dZ=(oO op a b).1∧p.inner=(bD a op.At).foldl pS 1)∧p.Kt=op.Lo++(eA (op.Lo++op.At) a.length++op.At)∧p.Ks=op.Hi++(eA (op.Hi++op.Step) b.length++op.Step)∧
   p.both=(bD a op.Lo).foldl pS 1∧p.left=(eT a (op.Lo++op.At) a.length).foldl pS 1∧p.right=(eT b (op.Hi++op.Step) b.length).foldl pS 1):=by
 obtain⟨_,o1,o2,o3,o4⟩:=ho;unfold F.sM oO MU;have f2:∀x y:List Int,[x,y].flatten=x++y:=fun x y=>by simp
 have f3:∀x y z:List Int,[x,y,z].flatten=x++(y++z):=fun x y z=>by simp
 have n1:Go.Proofs.YtongekoajbcliaaGreatDoor.F.c7 fu [op.Lo,op.At]=some (op.Lo++op.At):=by
  rw[uD fu _ (by simp) (by rw[f2,aI];omega) (by omega),f2]
 have n2:Go.Proofs.YtongekoajbcliaaGreatDoor.F.c7 fu [op.Hi,op.Step]=some (op.Hi++op.Step):=by
  rw[uD fu _ (by simp) (by rw[f2,aI];omega) (by omega),f2]
 have lA:(op.Lo++op.At).length≤4000000:=by rw[aI];omega
 have lB:(op.Hi++op.Step).length≤4000000:=by rw[aI];omega
 simp only[n1,n2,aa,dG,dK,fM,fL,yc fu (op.Lo++op.At) a.length lA (by omega) hf,yc fu (op.Hi++op.Step) b.length lB (by omega) hf,cc];rw[F3 op.Lo op.At,F3 op.Hi op.Step];rw[show(((op.At.length:Int) !=op.Step.length)||(((op.Lo.length:Int) !=op.Hi.length)||(!(iw (op.At++op.Lo) a.length)||!(iw (op.Step++op.Hi) b.length))))=(xi op||(!(iw (op.At++op.Lo) a.length)||!(iw (op.Step++op.Hi) b.length))) by unfold xi;simp only[Bool.or_assoc]];cases h1:(xi op||(!(iw (op.At++op.Lo) a.length)||!(iw (op.Step++op.Hi) b.length))) with
 | true=>exact⟨_,rfl,fun h=>by simp at h⟩
 | false=>
  simp only[bi,Bool.not_eq_false'] at h1;obtain⟨hlp,hoA,hoB⟩:=h1;obtain⟨e1,e2⟩:=Mf hlp;have mA:=vY hoA;have mB:=vY hoB;have q1:=Sc fu a b (op.Lo++op.At) (op.Hi++op.Step) (by rw[aI,aI];omega) lA (fun x hx=>mA x (dl.2 (dl.1 hx).symm)) (fun x hx=>mB x (dl.2 (dl.1 hx).symm)) hf;rw[RK _ _ _ _ _ _ e2] at q1;rw[cond_false,q1];rw[show(!(jI a b op.At op.Step)||!(jI a b op.Lo op.Hi))=!(jI a b op.Lo op.Hi&&jI a b op.At op.Step) by cases jI a b op.At op.Step <;> cases jI a b op.Lo op.Hi <;> rfl];cases hs:(jI a b op.Lo op.Hi&&jI a b op.At op.Step) with
  | false=>exact⟨_,rfl,fun h=>by simp at h⟩
  | true=>
   have k1:=lm a (op.Lo++op.At) a.length;have k2:=lm b (op.Hi++op.Step) b.length;have u1:=nM (op.Lo++op.At) a.length;have u2:=nM (op.Hi++op.Step) b.length;have n3:Go.Proofs.YtongekoajbcliaaGreatDoor.F.c7 fu [op.Lo,eA (op.Lo++op.At) a.length,op.At]=some (op.Lo++(eA (op.Lo++op.At) a.length++op.At)):=by
    rw[uD fu _ (by simp) (by rw[f3,aI,aI];omega) (by omega),f3]
   have n4:Go.Proofs.YtongekoajbcliaaGreatDoor.F.c7 fu [op.Hi,eA (op.Hi++op.Step) b.length,op.Step]=some (op.Hi++(eA (op.Hi++op.Step) b.length++op.Step)):=by
    rw[uD fu _ (by simp) (by rw[f3,aI,aI];omega) (by omega),f3]
   simp only[if_true,bd,Sa fu op a (by omega) (fun x hx=>mA x (ct _ hx)) hf,aa,
    Un fu (op.Lo++op.At) a [] [] _ _ _ _ (bD a op.Lo) (by omega) lA (by rw[fX];omega) hf,
    Sd fu (op.Hi++op.Step) b [] [] _ _ _ _ (bD a op.Lo++eT a (op.Lo++op.At) a.length) (by omega) lB (by rw[aI,fX];omega) hf,
    R9 fu op a _ _ _ _ _ _ _ (by omega) (fun x hx=>mA x (bY _ hx)) hf,n3,n4,dG,dK,fM,fL]
   refine⟨_,rfl,fun _=>⟨⟨?_,rfl⟩,rfl,rfl,rfl,rfl,rfl⟩⟩;show bD a op.Lo++eT a (op.Lo++op.At) a.length++eT b (op.Hi++op.Step) b.length=Vm op a b;rw[Gn,Gn b];rfl
theorem W2 (fu:Nat) (op:cy) (a b:List Int) (ho:vZ op) (ha:a.length≤1000000) (hb:b.length≤1000000) (hf:4000000<fu):
  ∃p,F.sM fu op a b=some (p,(oO op a b).2)∧((oO op a b).2=0→p.dZ=(oO op a b).1∧p.inner=(bD a op.At).foldl pS 1):=by
 obtain⟨p,h1,h2⟩:=R8 fu op a b ho ha hb hf;exact⟨p,h1,fun h=>(h2 h).1⟩
end Go.DN.Pl
