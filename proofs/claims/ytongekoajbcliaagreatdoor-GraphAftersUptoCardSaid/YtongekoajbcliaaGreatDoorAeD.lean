/-
  Arrays: the plain law: kind by kind.
-/
import Derived.Test.YtongekoajbcliaaGreatDoorAeC
set_option linter.all false
set_option maxRecDepth 20000
namespace Go.DN.Pl
open Go.AM Go.PL
theorem lc {a:List Int}(h:(cv a).2=0):a.length≤6∧∀x∈a,0≤x∧x≤4096:=⟨(fI h).1,(fI h).2.1⟩
theorem oz {α:Type}(a:α) (r:List α):idx (a::r) 0=some a:=aC (i:=0) rfl
theorem II {α:Type}(a b:α) (r:List α):idx (a::b::r) 1=some b:=aC (i:=1) rfl
def sameAs (a:List Int) (l:List (List Int)):List Int×Int:=if l.all fun x=>decide (x=a) then(a,0) else([],6)
def RS (fu:Nat) (op:cq) (args:List (List Int)) (r:List Int×Int):Prop:=F.fo fu op args=some (wM r)∧F.dD fu op args=some r∧r.1.length≤4000000
theorem GR {α:Type}(l:List α) (k:Nat):dZ l 0 (k:Int)=l.take k:=by
 unfold dZ;simp
theorem JI (a:List Int):(dn a).length=a.length:=by unfold dn;split <;> simp[la]
section
variable (fu:Nat) (op:cq) (ho:wB op) (hf:4000000<fu)
include ho hf
theorem Zm (h:op.Kind=2) (args:List (List Int)) (hfit:F.gE fu op args=some 0):RS fu op args (op.av,0):=by
 have:=ho.1;refine⟨?_,?_,cL this (by omega)⟩
 ·simp only[F.fo,hfit,aa,h,show((0:Int) !=0)=false from rfl,Int.reduceBEq,cond_false,cond_true,j6 fu op.av (by omega),aY];exact p5 fu op.av 0 (by omega) hf
 ·simp only[F.dD,h,Int.reduceBEq,cond_true]
theorem Zj (h:op.Kind=3∨op.Kind=4∨op.Kind=5∨op.Kind=6∨op.Kind=7∨op.Kind=8) (a:List Int) (r:List (List Int)) (ha:a.length≤6) (hr:∀x∈r,x.length≤6) (hrl:r.length≤1048576) (hfit:F.gE fu op (a::r)=some 0):RS fu op (a::r) (sameAs a r):=by
 have e2:(op.Kind==2)=false:=by simp;omega
 have eg:(op.Kind==3||(op.Kind==4||(op.Kind==5||(op.Kind==6||(op.Kind==7||op.Kind==8)))))=true:=by
  simp;omega
 have hl:=oa (body:=F.rm fu (a::r)) r (fun k=>(k:Int)) (fun x=>if decide (x=a) then none else some (Ex.ret (Ex.ret (Ex.ret ([],6))))) (Ex.bL ())
  (fun k x hx=>by
   have hw:=aP (bO hx) (by omega);have hxl:=hr x (ak hx);simp only[F.rm,zk,dec_lt hx,cond_true,aC hx,oz,aa,hw,Ft fu x a (by omega) hf];cases decide (x=a) <;> rfl)
  (by simp only[F.rm,zk,bq,cond_false]) fu (by omega)
 have hl2:=oa (body:=F.lq fu (a::r)) (a::r) (fun k=>(k:Int)) (fun x=>if decide (x=a) then none else some (Ex.ret ([],6))) (Ex.bL ())
  (fun k x hx=>by
   have hw:=aP (bO hx) (by simp only[bQ];omega);have hxl:x.length≤6:=by
    rcases bh.1 (ak hx) with e | e
    ·rw[e];exact ha
    ·exact hr x e
   simp only[F.lq,dec_lt hx,cond_true,aC hx,oz,aa,hw,iB fu x a (by omega) hf];cases decide (x=a) <;> rfl)
  (by simp only[F.lq,bq,cond_false]) fu (by simp only[bQ];omega)
 rw[findAll,show((0:Nat):Int)=0 from rfl] at hl hl2;rw[show((a::r).all fun x=>decide (x=a))=(r.all fun x=>decide (x=a)) by simp] at hl2;unfold sameAs;refine⟨?_,?_,?_⟩
 ·simp only[F.fo,hfit,aa,e2,rT,eg,show((0:Int) !=0)=false from rfl,cond_false,cond_true,ep (show(0:Int)≤1∧(1:Int)≤((a::r).length:Int) by simp only[bQ];omega),hl,oz,j6 fu a (by omega)];cases r.all fun x=>decide (x=a) with
  | true=>exact p5 fu a 0 (by omega) hf
  | false=>rfl
 ·simp only[F.dD,e2,rT,eg,aa,cond_true,cond_false,hl2,oz];cases r.all fun x=>decide (x=a) <;> rfl
 ·split
  ·exact cL ha (by omega)
  ·simp
def Ia (op:cq) (a:List Int):List Int×Int:=if ol op.At a.length then(eY a op.At a.length,0) else([],6)
theorem aat (h:op.Kind=10) (a:List Int) (r:List (List Int)) (ha:a.length≤6) (hfit:F.gE fu op (a::r)=some 0):RS fu op (a::r) (Ia op a):=by
 obtain⟨_,o1,_⟩:=ho;have hk:=lE a op.At a.length;have hlen:(Ia op a).1.length≤4000000:=by unfold Ia;split <;> simp <;> omega
 refine⟨?_,?_,hlen⟩
 ·simp only[F.fo,hfit,aa,h,show((0:Int) !=0)=false from rfl,Int.reduceBEq,rT,cJ,cond_false,cond_true,oz,Sg fu op.At a (by omega) (by omega) hf,aY];exact p5 fu (Ia op a).1 (Ia op a).2 hlen hf
 ·simp only[F.dD,h,Int.reduceBEq,rT,cJ,cond_false,cond_true,oz,aa,zZ fu op.At a.length (by omega) hf,IM fu a op.At (by omega) (by omega) hf,yE fu a op.At (by omega) hf];unfold Ia;cases ol op.At a.length <;> rfl
theorem aav (h:op.Kind=14) (a:List Int) (r:List (List Int)) (ha:(cv a).2=0) (hfit:F.gE fu op (a::r)=some 0):RS fu op (a::r) (z8 op a):=by
 obtain⟨hl,hr⟩:=lc ha;have hlen:(z8 op a).1.length≤4000000:=by
  unfold z8;split
  ·simp
  ·split
   ·simp
   ·simp only[E1];omega
 refine⟨?_,?_,hlen⟩
 ·simp only[F.fo,hfit,aa,h,show((0:Int) !=0)=false from rfl,Int.reduceBEq,rT,cJ,cond_false,cond_true,oz,SU fu op a (by omega) hr hf,aY];exact p5 fu (z8 op a).1 (z8 op a).2 hlen hf
 ·simp only[F.dD,h,Int.reduceBEq,rT,cJ,cond_false,cond_true,oz,aa,QG fu op a (by omega) hr hf]
theorem aaw (h:op.Kind=16) (a b:List Int) (r:List (List Int)) (ha:a.length≤6) (hb:b.length≤6) (hfit:F.gE fu op (a::b::r)=some 0):RS fu op (a::b::r) (pb op a b):=by
 have hlen:(pb op a b).1.length≤4000000:=by
  unfold pb;split
  ·simp
  ·have k1:=lE a (op.At++op.Lo) a.length;have k2:=lE b (op.Step++op.Hi) b.length;have:=ho.2.2.1;simp only[V0,aK,gn];omega
 obtain⟨p,hp,hp2⟩:=XF fu op a b ho (by omega) (by omega) hf;refine⟨?_,?_,hlen⟩
 ·simp only[F.fo,hfit,aa,h,show((0:Int) !=0)=false from rfl,Int.reduceBEq,rT,cJ,cond_false,cond_true,oz,II,hp,aY]
  by_cases he:(pb op a b).2=0
  ·obtain⟨hd,_⟩:=hp2 he;rw[show((pb op a b).2==0)=true by simp[he],cond_true,hd];exact p5 fu (pb op a b).1 (pb op a b).2 hlen hf
  ·rw[show((pb op a b).2==0)=false by simp[he],cond_false];have:=p5 fu [] (pb op a b).2 (by simp) hf;unfold wM at this⊢;simp only[if_pos he] at this⊢;exact this
 ·simp only[F.dD,h,Int.reduceBEq,rT,cJ,cond_false,cond_true,oz,II,aa,Rp fu op a b ho (by omega) (by omega) hf]
theorem Zk (h:op.Kind=17) (a:List Int) (r:List (List Int)) (ha:∀x∈a::r,(cv x).2=0) (hrl:r.length≤1048576) (hfit:F.gE fu op (a::r)=some 0):RS fu op (a::r) (vL op.At (a::r)):=by
 have hl:=(lc (ha a au)).1;have hlen:(vL op.At (a::r)).1.length≤4000000:=by
  unfold vL;split
  ·split
   ·simp only[fX,List.headD_cons];omega
   ·simp
  ·simp
 refine⟨?_,?_,hlen⟩
 ·simp only[F.fo,hfit,aa,h,show((0:Int) !=0)=false from rfl,Int.reduceBEq,rT,cJ,cond_false,cond_true,Tn fu op.At a r (by omega) (by omega) (fun x hx=>(lc (ha x hx)).2) hf,aY];exact p5 fu (vL op.At (a::r)).1 (vL op.At (a::r)).2 hlen hf
 ·simp only[F.dD,h,Int.reduceBEq,rT,cJ,cond_false,cond_true,aa,Ou fu op a r (by omega) (by omega) (fun x hx=>(lc (ha x hx)).2) hf]
def Gf (a b:List Int):List Int×Int:=if (a.length:Int)==0 then([],6) else(b++a.drop 1,0)
theorem ZY (x y:List Int) (hx:x.length≤4000000) (hy:y.length≤4000000):Go.Proofs.YtongekoajbcliaaGreatDoor.F.di fu [x,y]=some (x++y):=by
 have f2:[x,y].flatten=x++y:=by simp
 rw[uU fu _ (by simp) (by rw[f2,aK];omega) (by omega),f2]
theorem Zi (h : op.Kind = 18) (a b : List Int) (r : List (List Int)) (ha : a.length ≤ 6) (hb : b.length ≤ 6) (hfit : F.gE fu op (a :: b :: r) = some 0) : RS fu op (a :: b :: r) (Gf a b) := by
  have hlen : (Gf a b).1.length ≤ 4000000 := by
    unfold Gf
    split
    · simp
    · simp only [aK, bY]; omega
  have e1 : dZ a 1 (a.length : Int) = a.drop 1 := sD a 1
  refine ⟨?_, ?_, hlen⟩
  · simp only [F.fo, hfit, aa, h, show ((0 : Int) != 0) = false from rfl, Int.reduceBEq, rT, cJ, cond_false, cond_true, oz, II, aY]
    unfold Gf
    cases e : ((a.length : Int) == 0) with
    | true => rfl
    | false =>
      have : (1 : Int) ≤ (a.length : Int) := by simp at e; have : a.length ≠ 0 := by simpa using e
                                                omega
      simp only [cond_false, ep (show (0 : Int) ≤ 1 ∧ (1 : Int) ≤ (a.length : Int) by omega), aa, e1, ZY fu op ho hf b (a.drop 1) (by omega) (by rw [bY]; omega)]
      exact p5 fu (b ++ a.drop 1) 0 (by rw [aK, bY]; omega) hf
  · simp only [F.dD, h, Int.reduceBEq, rT, cJ, cond_false, cond_true, oz, II, aa]
    unfold Gf
    cases e : ((a.length : Int) == 0) with
    | true => rfl
    | false =>
      have : (1 : Int) ≤ (a.length : Int) := by simp at e; have : a.length ≠ 0 := by simpa using e
                                                omega
      simp only [cond_false, ep (show (0 : Int) ≤ 1 ∧ (1 : Int) ≤ (a.length : Int) by omega), aa, e1, wh fu b (a.drop 1) (by omega) (by rw [bY]; omega)]
      rfl
def xc (op:cq) (a b:List Int):Bool:=((op.av.length:Int) !=1)||(decide ((a.length:Int)<(b.length:Int))||!(decide (a.take b.length=b)))
def Mc (op:cq) (a b:List Int):List Int×Int:=if xc op a b then([],6) else(op.av++a.drop b.length,0)
theorem aau (h:op.Kind=19) (a b:List Int) (r:List (List Int)) (ha:a.length≤6) (hb:b.length≤6) (hfit:F.gE fu op (a::b::r)=some 0):RS fu op (a::b::r) (Mc op a b):=by
 have o1:=ho.1;have hlen:(Mc op a b).1.length≤4000000:=by
  unfold Mc;split
  ·simp
  ·simp only[aK,bY];omega
 have eqa:(cond ((op.av.length:Int) !=1) (some true) (cond (decide ((a.length:Int)<(b.length:Int))) (some true) ((ba ((0:Int)≤(b.length:Int)∧(b.length:Int)≤(a.length:Int))).bind fun _=>some (!(decide (a.take b.length=b))))))=some (xc op a b):=by
  unfold xc;cases (op.av.length:Int) !=1 with
  | true=>rfl
  | false=>
   simp only[cond_false,gm]
   by_cases hlt:(a.length:Int)<(b.length:Int)
   ·rw[en hlt];rfl
   ·rw[cG hlt,cond_false,ep (by omega)];rfl
 have hge:xc op a b=false→(b.length:Int)≤(a.length:Int):=fun hb=>by
  unfold xc at hb;rw[bj,bj,decide_eq_false_iff_not] at hb;omega
 refine⟨?_,?_,hlen⟩
 ·simp only[F.fo,hfit,aa,h,show((0:Int) !=0)=false from rfl,Int.reduceBEq,rT,cJ,cond_false,cond_true,oz,II,aY,GR,Ft fu (a.take b.length) b (by rw[bA];omega) hf,eqa];unfold Mc;cases hbp:xc op a b with
  | true=>rfl
  | false=>
   have:=hge hbp;simp only[cond_false,ep (show(0:Int)≤(b.length:Int)∧(b.length:Int)≤(a.length:Int) by omega),aa,sD,ZY fu op ho hf op.av (a.drop b.length) (by omega) (by rw[bY];omega)];exact p5 fu (op.av++a.drop b.length) 0 (by rw[aK,bY];omega) hf
 ·simp only[F.dD,h,Int.reduceBEq,rT,cJ,cond_false,cond_true,oz,II,aa,GR,iB fu (a.take b.length) b (by rw[bA];omega) hf,eqa];unfold Mc;cases hbp:xc op a b with
  | true=>rfl
  | false=>
   have:=hge hbp;simp only[cond_false,ep (show(0:Int)≤(b.length:Int)∧(b.length:Int)≤(a.length:Int) by omega),aa,sD,wh fu op.av (a.drop b.length) (by omega) (by rw[bY];omega)];rfl
def ov (op:cq) (a:List Int):aM×Int:=
 bif op.Kind==9 then vY ⟨0,a,dn a⟩ op.av op.At else bif op.Kind==11 then Dw ⟨0,a,dn a⟩ op.At else bif op.Kind==12 then sP a op.av else
 bif op.Kind==13 then I8 ⟨0,a,dn a⟩ op.Lo op.Hi op.Step else DU ⟨0,a,dn a⟩ op.At
theorem look_ok (a:List Int) (ha:(cv a).2=0):F.vU fu op a=some (ov op a):=by
 obtain⟨hl,hr⟩:=lc ha;obtain⟨o0,o1,o2,o3,o4⟩:=ho;have hs:(dn a).length≤4000000:=by rw[JI];omega
 have hw:yW a=(⟨0,a,dn a⟩,0):=if_pos ha;unfold ov;simp only[F.vU,Uw fu a (by omega) hf,hw,aa,show((0:Int) !=0)=false from rfl,cond_false,Sn fu ⟨0,a,dn a⟩ op.av op.At (show a.length≤_ by omega) hs (by omega) (by omega) hf,
  Xl fu ⟨0,a,dn a⟩ op.At (show a.length≤_ by omega) hs (by omega) hf,SG fu a op.av ha (by omega) hf,ZV fu ⟨0,a,dn a⟩ op.Lo op.Hi op.Step (show a.length≤_ by omega) hs hf,X8 fu ⟨0,a,dn a⟩ op.At (show a.length≤_ by omega) hs (by omega) hf,cs]
theorem G2 (h:op.Kind=9∨op.Kind=11∨op.Kind=13∨op.Kind=15) (a:List Int) (r:List (List Int)) (ha:(cv a).2=0) (hfit:F.gE fu op (a::r)=some 0):RS fu op (a::r) ((ov op a).1.av,(ov op a).2):=by
 obtain⟨hl,hr⟩:=lc ha;have hlk:=look_ok fu op ho hf a ha;obtain⟨o0,o1,o2,o3,o4⟩:=ho;have hs:(dn a).length≤4000000:=by rw[JI];omega
 have hw:yW a=(⟨0,a,dn a⟩,0):=if_pos ha;have hdn:∀v:aM,v.av.length≤4000000→(vO v).1.av.length≤4000000:=fun v hv=>by unfold vO;split <;> simp[j0] <;> omega
 have hlen:(ov op a).1.av.length≤4000000:=by
  unfold ov;rcases h with h | h | h | h <;> simp only[h,Int.reduceBEq,cond_true,cond_false]
  ·unfold vY;repeat' split
   all_goals simp[j0]
   omega
  ·unfold Dw;repeat' split
   all_goals simp[j0,gn]
   omega
  ·unfold I8;repeat' split
   all_goals first | (apply hdn;show(p9 _ _ _ _).length≤_;rw[tV];show a.length≤_;omega) | simp[j0]
  ·unfold DU;repeat' split
   all_goals first | (apply hdn;show a.length≤_;omega) | simp[j0]
 refine⟨?_,?_,hlen⟩
 ·have hfin:=p5 fu (ov op a).1.av (ov op a).2 hlen hf;rcases h with h | h | h | h <;>
  ·simp only[F.fo,hfit,aa,h,show((0:Int) !=0)=false from rfl,Int.reduceBEq,rT,cJ,cond_false,cond_true,oz,hlk,aY];exact hfin
 ·unfold ov;rcases h with h | h | h | h <;>
  ·simp only[F.dD,F.oG,h,Int.reduceBEq,rT,cJ,cond_false,cond_true,oz,aa,R2 fu a (by omega) hf,hw,show((0:Int) !=0)=false from rfl,
    Qi fu ⟨0,a,dn a⟩ op.av op.At (show a.length≤_ by omega) hs (by omega) (by omega) hf,UC fu ⟨0,a,dn a⟩ op.At (show a.length≤_ by omega) hs (by omega) hf,Yk fu ⟨0,a,dn a⟩ op.Lo op.Hi op.Step (show a.length≤_ by omega) hs hf,VT fu ⟨0,a,dn a⟩ op.At (show a.length≤_ by omega) hs (by omega) hf]
theorem Zl (h:op.Kind=12) (a:List Int) (r:List (List Int)) (ha:(cv a).2=0) (hfit:F.gE fu op (a::r)=some 0):RS fu op (a::r) ((sP a op.av).1.av,(sP a op.av).2):=by
 obtain⟨hl,hr⟩:=lc ha;have hlk:=look_ok fu op ho hf a ha;obtain⟨o0,o1,o2,o3,o4⟩:=ho;have e:ov op a=sP a op.av:=by unfold ov;simp only[h,Int.reduceBEq,cond_true,cond_false]
 rw[e] at hlk;have hlen:(sP a op.av).1.av.length≤4000000:=by
  unfold sP;repeat' split
  all_goals simp[j0,Le]
  omega
 refine⟨?_,?_,hlen⟩
 ·have hfin:=p5 fu (sP a op.av).1.av (sP a op.av).2 hlen hf;simp only[F.fo,hfit,aa,h,show((0:Int) !=0)=false from rfl,Int.reduceBEq,rT,cJ,cond_false,cond_true,oz,hlk,aY];exact hfin
 ·simp only[F.dD,h,Int.reduceBEq,rT,cJ,cond_false,cond_true,oz,aa,ld fu op.av (by omega) hf,ld fu a (by omega) hf];unfold sP
  by_cases hz:(cv op.av).2=0
  ·rw[if_neg (by omega),bne_false hz,cond_false]
   by_cases hs:(cv a).1=(cv op.av).1
   ·rw[if_neg (by omega),bne_false hs,cond_false];rfl
   ·rw[if_pos hs,bne_true hs,cond_true];rfl
  ·rw[if_pos hz,bne_true hz,cond_true];rfl
end
end Go.DN.Pl
