/-
  Arrays: the plain law: kind by kind.
-/
import Derived.Test.YtongekoajbcliaaGreatDoorAeC
set_option linter.unusedSectionVars false
set_option linter.unusedSimpArgs false
set_option linter.unusedVariables false
set_option maxRecDepth 20000
namespace Go.DN.Pl
open Go.AM Go.PL
theorem k4 {a:List Int}(h:(cn a).2=0):a.length≤6∧∀x∈a,0≤x∧x≤4096:=⟨(fC h).1,(fC h).2.1⟩
theorem ob {α:Type}(a:α) (r:List α):idx (a::r) 0=some a:=aC (i:=0) rfl
theorem H6 {α:Type}(a b:α) (r:List α):idx (a::b::r) 1=some b:=aC (i:=1) rfl
def sameAs (a:List Int) (l:List (List Int)):List Int×Int:=if l.all fun x=>decide (x=a) then(a,0) else([],6)
def RS (fu:Nat) (op:cy) (args:List (List Int)) (r:List Int×Int):Prop:=F.fe fu op args=some (wo r)∧F.dz fu op args=some r∧r.1.length≤4000000
theorem Gf {α:Type}(l:List α) (k:Nat):eG l 0 (k:Int)=l.take k:=by
 unfold eG;simp
theorem Ja (a:List Int):(dc a).length=a.length:=by unfold dc;split <;> simp[kY]
section
variable (fu:Nat) (op:cy) (ho:vZ op) (hf:4000000<fu)
include ho hf
theorem YE (h:op.Kind=2) (args:List (List Int)) (hfit:F.gv fu op args=some 0):RS fu op args (op.au,0):=by
 have:=ho.1;refine⟨?_,?_,cK this (by omega)⟩
 ·simp only[F.fe,hfit,aa,h,show((0:Int) !=0)=false from rfl,Int.reduceBEq,cond_false,cond_true,kP fu op.au (by omega),bd];exact pM fu op.au 0 (by omega) hf
 ·simp only[F.dz,h,Int.reduceBEq,cond_true]
theorem YB (h:op.Kind=3∨op.Kind=4∨op.Kind=5∨op.Kind=6∨op.Kind=7∨op.Kind=8) (a:List Int) (r:List (List Int)) (ha:a.length≤6) (hr:∀x∈r,x.length≤6) (hrl:r.length≤1048576) (hfit:F.gv fu op (a::r)=some 0):RS fu op (a::r) (sameAs a r):=by
 have e2:(op.Kind==2)=false:=by simp;omega
 have eg:(op.Kind==3||(op.Kind==4||(op.Kind==5||(op.Kind==6||(op.Kind==7||op.Kind==8)))))=true:=by
  simp;omega
 have hl:=nL (body:=F.qT fu (a::r)) r (fun k=>(k:Int)) (fun x=>if decide (x=a) then none else some (Ex.ret (Ex.ret (Ex.ret ([],6))))) (Ex.bJ ())
  (fun k x hx=>by
   have hw:=aT (bP hx) (by omega);have hxl:=hr x (aj hx);simp only[F.qT,yN,dec_lt hx,cond_true,aC hx,ob,aa,hw,MP fu x a (by omega) hf];cases decide (x=a) <;> rfl)
  (by simp only[F.qT,yN,bw,cond_false]) fu (by omega)
 have hl2:=nL (body:=F.lb fu (a::r)) (a::r) (fun k=>(k:Int)) (fun x=>if decide (x=a) then none else some (Ex.ret ([],6))) (Ex.bJ ())
  (fun k x hx=>by
   have hw:=aT (bP hx) (by simp only[bL];omega);have hxl:x.length≤6:=by
    rcases bf.1 (aj hx) with e | e
    ·rw[e];exact ha
    ·exact hr x e
   simp only[F.lb,dec_lt hx,cond_true,aC hx,ob,aa,hw,iI fu x a (by omega) hf];cases decide (x=a) <;> rfl)
  (by simp only[F.lb,bw,cond_false]) fu (by simp only[bL];omega)
 rw[findAll,show((0:Nat):Int)=0 from rfl] at hl hl2;rw[show((a::r).all fun x=>decide (x=a))=(r.all fun x=>decide (x=a)) by simp] at hl2;unfold sameAs;refine⟨?_,?_,?_⟩
 ·simp only[F.fe,hfit,aa,e2,rF,eg,show((0:Int) !=0)=false from rfl,cond_false,cond_true,ey (show(0:Int)≤1∧(1:Int)≤((a::r).length:Int) by simp only[bL];omega),hl,ob,kP fu a (by omega)];cases r.all fun x=>decide (x=a) with
  | true=>exact pM fu a 0 (by omega) hf
  | false=>rfl
 ·simp only[F.dz,e2,rF,eg,aa,cond_true,cond_false,hl2,ob];cases r.all fun x=>decide (x=a) <;> rfl
 ·split
  ·exact cK ha (by omega)
  ·simp
def HD (op:cy) (a:List Int):List Int×Int:=if nS op.At a.length then(eT a op.At a.length,0) else([],6)
theorem ZP (h:op.Kind=10) (a:List Int) (r:List (List Int)) (ha:a.length≤6) (hfit:F.gv fu op (a::r)=some 0):RS fu op (a::r) (HD op a):=by
 obtain⟨_,o1,_⟩:=ho;have hk:=lm a op.At a.length;have hlen:(HD op a).1.length≤4000000:=by unfold HD;split <;> simp <;> omega
 refine⟨?_,?_,hlen⟩
 ·simp only[F.fe,hfit,aa,h,show((0:Int) !=0)=false from rfl,Int.reduceBEq,rF,cF,cond_false,cond_true,ob,RB fu op.At a (by omega) (by omega) hf,bd];exact pM fu (HD op a).1 (HD op a).2 hlen hf
 ·simp only[F.dz,h,Int.reduceBEq,rF,cF,cond_false,cond_true,ob,aa,zA fu op.At a.length (by omega) hf,Ia fu a op.At (by omega) (by omega) hf,yd fu a op.At (by omega) hf];unfold HD;cases nS op.At a.length <;> rfl
theorem ZR (h:op.Kind=14) (a:List Int) (r:List (List Int)) (ha:(cn a).2=0) (hfit:F.gv fu op (a::r)=some 0):RS fu op (a::r) (zD op a):=by
 obtain⟨hl,hr⟩:=k4 ha;have hlen:(zD op a).1.length≤4000000:=by
  unfold zD;split
  ·simp
  ·split
   ·simp
   ·simp only[Ew];omega
 refine⟨?_,?_,hlen⟩
 ·simp only[F.fe,hfit,aa,h,show((0:Int) !=0)=false from rfl,Int.reduceBEq,rF,cF,cond_false,cond_true,ob,Se fu op a (by omega) hr hf,bd];exact pM fu (zD op a).1 (zD op a).2 hlen hf
 ·simp only[F.dz,h,Int.reduceBEq,rF,cF,cond_false,cond_true,ob,aa,P0 fu op a (by omega) hr hf]
theorem ZS (h:op.Kind=16) (a b:List Int) (r:List (List Int)) (ha:a.length≤6) (hb:b.length≤6) (hfit:F.gv fu op (a::b::r)=some 0):RS fu op (a::b::r) (oO op a b):=by
 have hlen:(oO op a b).1.length≤4000000:=by
  unfold oO;split
  ·simp
  ·have k1:=lm a (op.At++op.Lo) a.length;have k2:=lm b (op.Step++op.Hi) b.length;have:=ho.2.2.1;simp only[Vm,aI,fX];omega
 obtain⟨p,hp,hp2⟩:=W2 fu op a b ho (by omega) (by omega) hf;refine⟨?_,?_,hlen⟩
 ·simp only[F.fe,hfit,aa,h,show((0:Int) !=0)=false from rfl,Int.reduceBEq,rF,cF,cond_false,cond_true,ob,H6,hp,bd]
  by_cases he:(oO op a b).2=0
  ·obtain⟨hd,_⟩:=hp2 he;rw[show((oO op a b).2==0)=true by simp[he],cond_true,hd];exact pM fu (oO op a b).1 (oO op a b).2 hlen hf
  ·rw[show((oO op a b).2==0)=false by simp[he],cond_false];have:=pM fu [] (oO op a b).2 (by simp) hf;unfold wo at this⊢;simp only[if_pos he] at this⊢;exact this
 ·simp only[F.dz,h,Int.reduceBEq,rF,cF,cond_false,cond_true,ob,H6,aa,QO fu op a b ho (by omega) (by omega) hf]
theorem YC (h:op.Kind=17) (a:List Int) (r:List (List Int)) (ha:∀x∈a::r,(cn x).2=0) (hrl:r.length≤1048576) (hfit:F.gv fu op (a::r)=some 0):RS fu op (a::r) (vn op.At (a::r)):=by
 have hl:=(k4 (ha a ar)).1;have hlen:(vn op.At (a::r)).1.length≤4000000:=by
  unfold vn;split
  ·split
   ·simp only[fP,List.headD_cons];omega
   ·simp
  ·simp
 refine⟨?_,?_,hlen⟩
 ·simp only[F.fe,hfit,aa,h,show((0:Int) !=0)=false from rfl,Int.reduceBEq,rF,cF,cond_false,cond_true,SH fu op.At a r (by omega) (by omega) (fun x hx=>(k4 (ha x hx)).2) hf,bd];exact pM fu (vn op.At (a::r)).1 (vn op.At (a::r)).2 hlen hf
 ·simp only[F.dz,h,Int.reduceBEq,rF,cF,cond_false,cond_true,aa,NQ fu op a r (by omega) (by omega) (fun x hx=>(k4 (ha x hx)).2) hf]
def FM (a b:List Int):List Int×Int:=if (a.length:Int)==0 then([],6) else(b++a.drop 1,0)
theorem Zi (x y:List Int) (hx:x.length≤4000000) (hy:y.length≤4000000):Go.Proofs.YtongekoajbcliaaGreatDoor.F.c7 fu [x,y]=some (x++y):=by
 have f2:[x,y].flatten=x++y:=by simp
 rw[uD fu _ (by simp) (by rw[f2,aI];omega) (by omega),f2]
theorem YA (h : op.Kind = 18) (a b : List Int) (r : List (List Int)) (ha : a.length ≤ 6) (hb : b.length ≤ 6) (hfit : F.gv fu op (a :: b :: r) = some 0) : RS fu op (a :: b :: r) (FM a b) := by
  have hlen : (FM a b).1.length ≤ 4000000 := by
    unfold FM
    split
    · simp
    · simp only [aI, cf]; omega
  have e1 : eG a 1 (a.length : Int) = a.drop 1 := sg a 1
  refine ⟨?_, ?_, hlen⟩
  · simp only [F.fe, hfit, aa, h, show ((0 : Int) != 0) = false from rfl, Int.reduceBEq, rF, cF, cond_false, cond_true, ob, H6, bd]
    unfold FM
    cases e : ((a.length : Int) == 0) with
    | true => rfl
    | false =>
      have : (1 : Int) ≤ (a.length : Int) := by simp at e; have : a.length ≠ 0 := by simpa using e
                                                omega
      simp only [cond_false, ey (show (0 : Int) ≤ 1 ∧ (1 : Int) ≤ (a.length : Int) by omega), aa, e1, Zi fu op ho hf b (a.drop 1) (by omega) (by rw [cf]; omega)]
      exact pM fu (b ++ a.drop 1) 0 (by rw [aI, cf]; omega) hf
  · simp only [F.dz, h, Int.reduceBEq, rF, cF, cond_false, cond_true, ob, H6, aa]
    unfold FM
    cases e : ((a.length : Int) == 0) with
    | true => rfl
    | false =>
      have : (1 : Int) ≤ (a.length : Int) := by simp at e; have : a.length ≠ 0 := by simpa using e
                                                omega
      simp only [cond_false, ey (show (0 : Int) ≤ 1 ∧ (1 : Int) ≤ (a.length : Int) by omega), aa, e1, vM fu b (a.drop 1) (by omega) (by rw [cf]; omega)]
      rfl
def wK (op:cy) (a b:List Int):Bool:=((op.au.length:Int) !=1)||(decide ((a.length:Int)<(b.length:Int))||!(decide (a.take b.length=b)))
def LF (op:cy) (a b:List Int):List Int×Int:=if wK op a b then([],6) else(op.au++a.drop b.length,0)
theorem ZQ (h:op.Kind=19) (a b:List Int) (r:List (List Int)) (ha:a.length≤6) (hb:b.length≤6) (hfit:F.gv fu op (a::b::r)=some 0):RS fu op (a::b::r) (LF op a b):=by
 have o1:=ho.1;have hlen:(LF op a b).1.length≤4000000:=by
  unfold LF;split
  ·simp
  ·simp only[aI,cf];omega
 have eqa:(cond ((op.au.length:Int) !=1) (some true) (cond (decide ((a.length:Int)<(b.length:Int))) (some true) ((bj ((0:Int)≤(b.length:Int)∧(b.length:Int)≤(a.length:Int))).bind fun _=>some (!(decide (a.take b.length=b))))))=some (wK op a b):=by
  unfold wK;cases (op.au.length:Int) !=1 with
  | true=>rfl
  | false=>
   simp only[cond_false,fW]
   by_cases hlt:(a.length:Int)<(b.length:Int)
   ·rw[ed hlt];rfl
   ·rw[cB hlt,cond_false,ey (by omega)];rfl
 have hge:wK op a b=false→(b.length:Int)≤(a.length:Int):=fun hb=>by
  unfold wK at hb;rw[bi,bi,decide_eq_false_iff_not] at hb;omega
 refine⟨?_,?_,hlen⟩
 ·simp only[F.fe,hfit,aa,h,show((0:Int) !=0)=false from rfl,Int.reduceBEq,rF,cF,cond_false,cond_true,ob,H6,bd,Gf,MP fu (a.take b.length) b (by rw[br];omega) hf,eqa];unfold LF;cases hbp:wK op a b with
  | true=>rfl
  | false=>
   have:=hge hbp;simp only[cond_false,ey (show(0:Int)≤(b.length:Int)∧(b.length:Int)≤(a.length:Int) by omega),aa,sg,Zi fu op ho hf op.au (a.drop b.length) (by omega) (by rw[cf];omega)];exact pM fu (op.au++a.drop b.length) 0 (by rw[aI,cf];omega) hf
 ·simp only[F.dz,h,Int.reduceBEq,rF,cF,cond_false,cond_true,ob,H6,aa,Gf,iI fu (a.take b.length) b (by rw[br];omega) hf,eqa];unfold LF;cases hbp:wK op a b with
  | true=>rfl
  | false=>
   have:=hge hbp;simp only[cond_false,ey (show(0:Int)≤(b.length:Int)∧(b.length:Int)≤(a.length:Int) by omega),aa,sg,vM fu op.au (a.drop b.length) (by omega) (by rw[cf];omega)];rfl
def nZ (op:cy) (a:List Int):aK×Int:=
 bif op.Kind==9 then vG ⟨0,a,dc a⟩ op.au op.At else bif op.Kind==11 then CW ⟨0,a,dc a⟩ op.At else bif op.Kind==12 then sy a op.au else
 bif op.Kind==13 then IA ⟨0,a,dc a⟩ op.Lo op.Hi op.Step else Dm ⟨0,a,dc a⟩ op.At
theorem look_ok (a:List Int) (ha:(cn a).2=0):F.vC fu op a=some (nZ op a):=by
 obtain⟨hl,hr⟩:=k4 ha;obtain⟨o0,o1,o2,o3,o4⟩:=ho;have hs:(dc a).length≤4000000:=by rw[Ja];omega
 have hw:yz a=(⟨0,a,dc a⟩,0):=if_pos ha;unfold nZ;simp only[F.vC,TN fu a (by omega) hf,hw,aa,show((0:Int) !=0)=false from rfl,cond_false,RH fu ⟨0,a,dc a⟩ op.au op.At (show a.length≤_ by omega) hs (by omega) (by omega) hf,
  WE fu ⟨0,a,dc a⟩ op.At (show a.length≤_ by omega) hs (by omega) hf,R0 fu a op.au ha (by omega) hf,Zf fu ⟨0,a,dc a⟩ op.Lo op.Hi op.Step (show a.length≤_ by omega) hs hf,Xv fu ⟨0,a,dc a⟩ op.At (show a.length≤_ by omega) hs (by omega) hf,cs]
theorem Gp (h:op.Kind=9∨op.Kind=11∨op.Kind=13∨op.Kind=15) (a:List Int) (r:List (List Int)) (ha:(cn a).2=0) (hfit:F.gv fu op (a::r)=some 0):RS fu op (a::r) ((nZ op a).1.au,(nZ op a).2):=by
 obtain⟨hl,hr⟩:=k4 ha;have hlk:=look_ok fu op ho hf a ha;obtain⟨o0,o1,o2,o3,o4⟩:=ho;have hs:(dc a).length≤4000000:=by rw[Ja];omega
 have hw:yz a=(⟨0,a,dc a⟩,0):=if_pos ha;have hdn:∀v:aK,v.au.length≤4000000→(vt v).1.au.length≤4000000:=fun v hv=>by unfold vt;split <;> simp[jS] <;> omega
 have hlen:(nZ op a).1.au.length≤4000000:=by
  unfold nZ;rcases h with h | h | h | h <;> simp only[h,Int.reduceBEq,cond_true,cond_false]
  ·unfold vG;repeat' split
   all_goals simp[jS]
   omega
  ·unfold CW;repeat' split
   all_goals simp[jS,fX]
   omega
  ·unfold IA;repeat' split
   all_goals first | (apply hdn;show(pQ _ _ _ _).length≤_;rw[tD];show a.length≤_;omega) | simp[jS]
  ·unfold Dm;repeat' split
   all_goals first | (apply hdn;show a.length≤_;omega) | simp[jS]
 refine⟨?_,?_,hlen⟩
 ·have hfin:=pM fu (nZ op a).1.au (nZ op a).2 hlen hf;rcases h with h | h | h | h <;>
  ·simp only[F.fe,hfit,aa,h,show((0:Int) !=0)=false from rfl,Int.reduceBEq,rF,cF,cond_false,cond_true,ob,hlk,bd];exact hfin
 ·unfold nZ;rcases h with h | h | h | h <;>
  ·simp only[F.dz,F.oo,h,Int.reduceBEq,rF,cF,cond_false,cond_true,ob,aa,Rn fu a (by omega) hf,hw,show((0:Int) !=0)=false from rfl,
    PC fu ⟨0,a,dc a⟩ op.au op.At (show a.length≤_ by omega) hs (by omega) (by omega) hf,TU fu ⟨0,a,dc a⟩ op.At (show a.length≤_ by omega) hs (by omega) hf,XH fu ⟨0,a,dc a⟩ op.Lo op.Hi op.Step (show a.length≤_ by omega) hs hf,Vf fu ⟨0,a,dc a⟩ op.At (show a.length≤_ by omega) hs (by omega) hf]
theorem YD (h:op.Kind=12) (a:List Int) (r:List (List Int)) (ha:(cn a).2=0) (hfit:F.gv fu op (a::r)=some 0):RS fu op (a::r) ((sy a op.au).1.au,(sy a op.au).2):=by
 obtain⟨hl,hr⟩:=k4 ha;have hlk:=look_ok fu op ho hf a ha;obtain⟨o0,o1,o2,o3,o4⟩:=ho;have e:nZ op a=sy a op.au:=by unfold nZ;simp only[h,Int.reduceBEq,cond_true,cond_false]
 rw[e] at hlk;have hlen:(sy a op.au).1.au.length≤4000000:=by
  unfold sy;repeat' split
  all_goals simp[jS,KI]
  omega
 refine⟨?_,?_,hlen⟩
 ·have hfin:=pM fu (sy a op.au).1.au (sy a op.au).2 hlen hf;simp only[F.fe,hfit,aa,h,show((0:Int) !=0)=false from rfl,Int.reduceBEq,rF,cF,cond_false,cond_true,ob,hlk,bd];exact hfin
 ·simp only[F.dz,h,Int.reduceBEq,rF,cF,cond_false,cond_true,ob,aa,k5 fu op.au (by omega) hf,k5 fu a (by omega) hf];unfold sy
  by_cases hz:(cn op.au).2=0
  ·rw[if_neg (by omega),bne_false hz,cond_false]
   by_cases hs:(cn a).1=(cn op.au).1
   ·rw[if_neg (by omega),bne_false hs,cond_false];rfl
   ·rw[if_pos hs,bne_true hs,cond_true];rfl
  ·rw[if_pos hz,bne_true hz,cond_true];rfl
end
end Go.DN.Pl
