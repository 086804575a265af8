/-
  Arrays: the plain law: joined, paired.
-/
import Derived.Test.YtongekoajbcliaaGreatDoorAdT
set_option linter.unusedSimpArgs false
set_option linter.unusedVariables false
namespace Go.DN.Pl
open Go.AM Go.PL
def Fy (a x:List Int) (p:Nat) (i:Nat):Bool:=(i:Int) !=(p:Int)&&(ao x i !=ao a i)
def mi (a x:List Int) (p:Nat):Bool:=decide (x.length=a.length)&&!((List.range a.length).any (Fy a x p))
def kM (p:Nat):Int→List (List Int)→Int
 | s,[]=>s
 | s,x::r=>kM p (s+ao x p) r
def AV (at_:List Int) (args:List (List Int)):Bool:=!((at_.length:Int) !=1||(decide (ao at_ 0<0)||decide (ao at_ 0≥((args.headD []).length:Int))))
def vn (at_:List Int) (args:List (List Int)):List Int×Int:=
 if AV at_ args then(if args.tail.all fun x=>mi (args.headD []) x (ao at_ 0).toNat then((args.headD []).set (ao at_ 0).toNat (kM (ao at_ 0).toNat (ao (args.headD []) (ao at_ 0).toNat) args.tail),0) else([],6)) else([],6)
theorem Ee (p:Nat):∀(l:List (List Int)) (s:Int) (x:List Int),kM p s (l++[x])=kM p s l+ao x p
 | [],s,x=>rfl
 | y::r,s,x=>Ee p r _ x
theorem Ed (p:Nat):∀(l:List (List Int)) (s:Int),(∀x∈l,0≤ao x p∧ao x p≤4096)→s≤kM p s l∧kM p s l≤s+4096*(l.length:Int)
 | [],s,h=>by simp[kM]
 | y::r,s,h=>by
  have h1:=h y ar;have h2:=Ed p r (s+ao y p) fun x hx=>h x (ap _ hx);rw[show kM p s (y::r)=kM p (s+ao y p) r from rfl,bL];omega
theorem vN {d:List Int}(hr:∀x∈d,0≤x∧x≤4096) (k:Nat):0≤ao d k∧ao d k≤4096:=by
 by_cases h:k<d.length
 ·exact hr _ (aj (aY h))
 ·have:ao d k=0:=by unfold ao;rw[bZ,bV (by omega)];rfl
  omega
theorem yN {α:Type}(x:α) (r:List α):eG (x::r) 1 ((x::r).length:Int)=r:=by
 unfold eG;simp
theorem Pd {a:List Int}{p i:Nat}{v:Int}(h:i≠p):ao (a.set p v) i=ao a i:=by
 unfold ao;rw[bZ,bZ,List.getElem?_set_ne (by omega)]
theorem Rd {a:List Int}{p:Nat}{v:Int}(h:p<a.length):ao (a.set p v) p=v:=by
 unfold ao;rw[bZ,List.getElem?_set_self h];rfl
theorem Ob {a:List Int}{p:Nat}(h:p<a.length):a.set p (ao a p)=a:=by
 have:=(ai.1 (aY h)).2;rw[←this];exact List.set_getElem_self h
theorem Pc (at_:List Int) (a:List Int) (r:List (List Int)):(cond ((at_.length:Int) !=1) (some true) ((idx at_ 0).bind fun x3=>
  cond (decide (x3<0)) (some true) ((idx at_ 0).bind fun x4=>
  (idx (a::r) 0).bind fun x5=>
  some (decide (x4≥(x5.length:Int))))))=some (!(AV at_ (a::r))):=by
 unfold AV
 by_cases h:at_.length=1
 ·have hx:=aY (l:=at_) (show 0<at_.length by omega);have h0:=aC hx;have h1:idx (a::r) 0=some a:=aC (i:=0) rfl;rw[show((0:Nat):Int)=0 from rfl] at h0;simp only[h0,h1,aa,cc,Bool.not_not];rfl
 ·rw[bne_true (show ¬(at_.length:Int)=1 by omega)];rfl
theorem Nv {at_ a:List Int}{r:List (List Int)}(h:AV at_ (a::r)=true):at_.length=1∧∃p:Nat,ao at_ 0=p∧p<a.length:=by
 unfold AV at h;simp at h;refine⟨by omega,(ao at_ 0).toNat,by omega,by omega⟩
theorem Qu (fu:Nat) (at_ a m x:List Int) (p:Nat) (h1:at_.length=1) (hp:ao at_ 0=p) (hl:m.length=a.length) (hx:x.length=a.length) (hm:∀i,i≠p→ao m i=ao a i) (ha:a.length≤4000000) (hf:4000000<fu):
  aP (F.mK fu at_ m x) fu 0=some (if mi a x p then Ex.bJ () else Ex.ret (Sum.inr (Ex.ret ([],6)))):=by
 have i0:=aC (aY (l:=at_) (show 0<at_.length by omega));rw[show((0:Nat):Int)=0 from rfl,hp] at i0;have h:=gO (body:=F.mK fu at_ m x) a.length (fun k=>(k:Int)) (fun k=>if Fy a x p k then some (Ex.ret (Sum.inr (Ex.ret ([],6))):Ex Unit ((Int×List Int)⊕Ex (List Int) (List Int×Int))) else none) (Ex.bJ ())
  (fun k hk _=>by
   have hw:=aT hk (by omega);have hy:=aY (l:=m) (show k<m.length by omega);have hz:=aY (l:=x) (show k<x.length by omega);simp only[F.mK,dec_lt hy,cond_true,i0,aC hy,aC hz,aa,hw,M9];unfold Fy
   by_cases e:k=p
   ·subst e;rw[bne_false rfl];simp
   ·rw[hm k e];cases ((k:Int) !=(p:Int))&&(ao x k !=ao a k) <;> rfl)
  (fun _=>by rw[←hl];simp only[F.mK,bw,cond_false]) fu (by omega)
 rw[show((0:Nat):Int)=0 from rfl] at h;rw[h,gP];unfold mi;rw[ed hx];cases (List.range a.length).any (Fy a x p) <;> rfl
theorem SH (fu:Nat) (at_ a:List Int) (r:List (List Int)) (ha:a.length≤4000000) (hr:r.length≤4000000) (hd:∀x∈a::r,∀y∈x,0≤y∧y≤4096) (hf:4000000<fu):F.sO fu at_ (a::r)=some (vn at_ (a::r)):=by
 unfold F.sO vn;rw[Pc];simp only[aa];cases hj:AV at_ (a::r) with
 | false=>rfl
 | true=>
  obtain⟨h1,p,hp,hpa⟩:=Nv hj;have i0:=aC (aY (l:=at_) (show 0<at_.length by omega));rw[show((0:Nat):Int)=0 from rfl,hp] at i0;have ia:idx (a::r) 0=some a:=aC (i:=0) rfl;have hra:=vN (d:=a) (hd a ar) p;simp only[fj,cond_false,ia,aa,kP fu a (by omega),List.headD_cons,List.tail_cons,if_true,hp,bO];rw[ey (by simp only[bL];omega)];simp only[aa];have hrp:∀k,∀x∈r.take k,0≤ao x p∧ao x p≤4096:=fun k x hx=>vN (hd x (ap _ (fA hx))) p;have h:=nL (body:=F.o9 fu at_ (a::r)) r (fun k=>((k:Int),a.set p (kM p (ao a p) (r.take k)))) (fun x=>if mi a x p then none else some (Ex.ret ([],6))) (Ex.bJ (a.set p (kM p (ao a p) r)))
   (fun k x hx=>by
    have hw:=aT (bP hx) (by omega);have hlm:(a.set p (kM p (ao a p) (r.take k))).length=a.length:=fP;simp only[F.o9,yN,dec_lt hx,cond_true,aC hx,aa,hw];rw[hlm]
    by_cases hxl:x.length=a.length
    ·have hm:=Qu fu at_ a (a.set p (kM p (ao a p) (r.take k))) x p h1 hp hlm hxl (fun i hi=>Pd hi) ha hf;rw[bne_false (by omega),cond_false,hm];cases hfj:mi a x p with
     | false=>rfl
     | true=>
      have ix:=aY (l:=x) (show p<x.length by omega);have im:idx (a.set p (kM p (ao a p) (r.take k))) (p:Int)=some (kM p (ao a p) (r.take k)):=aC (List.getElem?_set_self hpa);have s1:=Ed p (r.take k) (ao a p) (hrp k);have s2:=vN (d:=x) (hd x (ap _ (aj hx))) p;have hlt:=pE hx;have:=bP hx;have w:IntKind.i64.wrap (kM p (ao a p) (r.take k)+ao x p)=kM p (ao a p) (r.take k)+ao x p:=i64 (by omega) (by omega);simp only[if_true,bd,i0,im,aC ix,aa,w,bO,List.set_set,take_succ hx,Ee]
    ·rw[bne_true (by omega),cond_true];have:mi a x p=false:=by unfold mi;rw[cB hxl];rfl
     rw[this];rfl)
   (by simp only[F.o9,yN,bw,cond_false,bK]) fu (by omega)
  rw[show kM p (ao a p) (r.take 0)=ao a p from rfl,Ob hpa,show((0:Nat):Int)=0 from rfl,findAll] at h;rw[h];cases r.all fun x=>mi a x p <;> rfl
theorem UW (fu:Nat) (op:cy) (a m x:List Int) (p:Nat) (h1:op.At.length=1) (hp:ao op.At 0=p) (hpa:p<a.length) (hl:m.length=a.length) (hx:x.length=a.length) (hm:∀i,i≠p→ao m i=ao a i) (ha:a.length≤4000000)
  (hr:-8000000000000000000≤ao m p∧ao m p≤8000000000000000000) (hr2:0≤ao x p∧ao x p≤4096) (hf:4000000<fu):
  aP (F.iB fu op x) fu (0,m)=some (if mi a x p then Ex.bJ (m.set p (ao m p+ao x p)) else Ex.ret (Sum.inr (Ex.ret ([],6)))):=by
 have i0:=aC (aY (l:=op.At) (show 0<op.At.length by omega));rw[show((0:Nat):Int)=0 from rfl,hp] at i0;have h:=gO (body:=F.iB fu op x) a.length (fun k=>((k:Int),if p<k then m.set p (ao m p+ao x p) else m)) (fun k=>if Fy a x p k then some (Ex.ret (Sum.inr (Ex.ret ([],6))):Ex (List Int) ((Int×List Int)⊕Ex (List Int) (List Int×Int))) else none) (Ex.bJ (m.set p (ao m p+ao x p)))
  (fun k hk _=>by
   have hw:=aT hk (by omega);have hz:=aY (l:=x) (show k<x.length by omega);simp only[F.iB,dec_lt hz,cond_true,i0,aa];unfold Fy
   by_cases e:k=p
   ·subst e;have hy:=aY (l:=m) (show k<m.length by omega);have w:IntKind.i64.wrap (ao m k+ao x k)=ao m k+ao x k:=i64 (by omega) (by omega);simp only[beq_self_eq_true,cond_true,if_neg (show ¬k<k by omega),aC hy,aC hz,aa,w,bd,hw,bO,if_pos (show k<k+1 by omega),bne_self_eq_false,Bool.false_and,bF,if_false]
   ·have hb:((k:Int)==(p:Int))=false:=by simp;omega
    have hb2:((k:Int) !=(p:Int))=true:=by simp;omega
    have e2:(if p<k+1 then m.set p (ao m p+ao x p) else m)=(if p<k then m.set p (ao m p+ao x p) else m):=by
     by_cases h:p<k
     ·rw[if_pos h,if_pos (by omega)]
     ·rw[if_neg h,if_neg (by omega)]
    have hy:(if p<k then m.set p (ao m p+ao x p) else m)[k]?=some (ao a k):=by
     rw[←hm k e];split
     ·rw[List.getElem?_set_ne (by omega)];exact aY (by omega)
     ·exact aY (by omega)
    rw[hb,hb2,e2];simp only[cond_false,aC hy,aC hz,aa,qu];cases ao x k !=ao a k
    ·simp only[cond_false,bd,aa,hw,bF,if_false]
    ·rfl)
  (fun _=>by rw[←hx];simp only[F.iB,bw,cond_false];rw[if_pos (by omega)]) fu (by omega)
 rw[show((0:Nat):Int)=0 from rfl,if_neg (show ¬p<0 by omega)] at h;rw[h,gP];unfold mi;rw[ed hx];cases (List.range a.length).any (Fy a x p) <;> rfl
theorem NQ (fu:Nat) (op:cy) (a:List Int) (r:List (List Int)) (ha:a.length≤4000000) (hr:r.length≤4000000) (hd:∀x∈a::r,∀y∈x,0≤y∧y≤4096) (hf:4000000<fu):F.lc fu op (a::r)=some (vn op.At (a::r)):=by
 unfold F.lc vn;rw[Pc];simp only[aa];cases hj:AV op.At (a::r) with
 | false=>rfl
 | true=>
  obtain⟨h1,p,hp,hpa⟩:=Nv hj;have ia:idx (a::r) 0=some a:=aC (i:=0) rfl;have hra:=vN (d:=a) (hd a ar) p;simp only[fj,cond_false,ia,aa,List.headD_cons,List.tail_cons,if_true,hp,bO];rw[cQ (by simp only[jE];omega) (by simp only[jE];omega),ey (by simp only[bL];omega)];simp only[aa,jD];have hrp:∀k,∀x∈r.take k,0≤ao x p∧ao x p≤4096:=fun k x hx=>vN (hd x (ap _ (fA hx))) p;have h:=nL (body:=F.jK fu op (a::r)) r (fun k=>((k:Int),a.set p (kM p (ao a p) (r.take k)))) (fun x=>if mi a x p then none else some (Ex.ret ([],6))) (Ex.bJ (a.set p (kM p (ao a p) r)))
   (fun k x hx=>by
    have hw:=aT (bP hx) (by omega);have hlm:(a.set p (kM p (ao a p) (r.take k))).length=a.length:=fP;simp only[F.jK,yN,dec_lt hx,cond_true,aC hx,aa,hw];rw[hlm]
    by_cases hxl:x.length=a.length
    ·have s1:=Ed p (r.take k) (ao a p) (hrp k);have s2:=vN (d:=x) (hd x (ap _ (aj hx))) p;have hlt:=pE hx;have:=bP hx;have em:ao (a.set p (kM p (ao a p) (r.take k))) p=kM p (ao a p) (r.take k):=Rd hpa;have hm:=UW fu op a (a.set p (kM p (ao a p) (r.take k))) x p h1 hp hpa hlm hxl (fun i hi=>Pd hi) ha (by rw[em];omega) s2 hf;rw[bne_false (by omega),cond_false,hm];cases hfj:mi a x p with
     | false=>rfl
     | true=>simp only[if_true,bd,List.set_set,take_succ hx,Ee,em]
    ·rw[bne_true (by omega),cond_true];have:mi a x p=false:=by unfold mi;rw[cB hxl];rfl
     rw[this];rfl)
   (by simp only[F.jK,yN,bw,cond_false,bK]) fu (by omega)
  rw[show kM p (ao a p) (r.take 0)=ao a p from rfl,Ob hpa,show((0:Nat):Int)=0 from rfl,findAll] at h;rw[h];cases r.all fun x=>mi a x p <;> rfl
end Go.DN.Pl
