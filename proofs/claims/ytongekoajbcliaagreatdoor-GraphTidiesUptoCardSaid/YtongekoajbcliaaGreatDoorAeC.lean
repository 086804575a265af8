/-
  Arrays: the plain law: what an operation makes.
-/
import Derived.Test.YtongekoajbcliaaGreatDoorAeB
set_option linter.unusedSimpArgs false
set_option linter.unusedVariables false
set_option maxRecDepth 20000
namespace Go.DN.Pl
open Go.AM Go.PL
theorem rF (a b:Bool):cond a (some a) (some b)=some (a||b):=by cases a <;> rfl
theorem cs {α:Type}(a:Bool) (x y:α):cond a (some x) (some y)=some (cond a x y):=by cases a <;> rfl
theorem aaF (a b:Bool):cond a a b=(a||b):=by cases a <;> rfl
def eF (k:Int):Int:=
 bif k==2 then 0 else bif (k==9||(k==10||(k==11||(k==12||(k==13||(k==14||k==15)))))) then 1 else
 bif (k==3||(k==4||(k==5||(k==6||(k==7||(k==16||(k==18||k==19))))))) then 2 else bif k==8 then 3 else bif k==17 then -1 else -2
theorem Xi (fu:Nat) (k:Int):F.vB fu k=some (eF k):=by
 simp only[F.vB,rF,aa,cs,aaF];rfl
def kR (k:Int) (n:Nat):Int:=if eF k=-2 then 1 else if (eF k≥0∧eF k≠n)∨(eF k=-1∧n=0) then 2 else 0
theorem kinds (k:Int):(k=2∨k=3∨k=4∨k=5∨k=6∨k=7∨k=8∨k=9∨k=10)∨(k=11∨k=12∨k=13∨k=14∨k=15∨k=16∨k=17∨k=18∨k=19)∨(k<2∨k>19):=by omega
theorem En (fu:Nat) (op:cy) (n:Nat):F.nq fu op (n:Int)=some (kR op.Kind n):=by
 have one:∀(c:Int) (m:Nat),eF c=(m:Int)→kR c n=if (n:Int) !=(m:Int) then 2 else 0:=fun c m h=>by
  unfold kR;rw[h,if_neg (by omega)]
  by_cases e:n=m
  ·subst e;rw[if_neg (by omega)];simp
  ·rw[if_pos (by omega)];simp;omega
 have two:kR 17 n=if (n:Int)==0 then 2 else 0:=by
  unfold kR;rw[show eF 17=-1 from rfl,if_neg (by omega)]
  by_cases e:n=0
  ·subst e;rfl
  ·rw[if_neg (by omega)];simp;omega
 have e0:∀n:Int,(cond (n !=0) (some (Ex.ret 2:Ex Unit Int)) (some (.bJ ())))=some (bif n !=0 then .ret 2 else .bJ ()):=fun n=>cs _ _ _;simp only[F.nq,rF,aa];rcases kinds op.Kind with h | h | h
 ·rcases h with h | h | h | h | h | h | h | h | h
  ·rw[h,one 2 0 rfl];cases hb:((n:Int) !=((0:Nat):Int)) <;> simp only[show((0:Nat):Int)=0 from rfl] at hb <;> simp only[hb,beq_self_eq_true,cond_true,cond_false,bd] <;> rfl
  all_goals
   first
   | rw[h,one _ 2 rfl];cases hb:((n:Int) !=((2:Nat):Int)) <;> simp only[show((2:Nat):Int)=2 from rfl] at hb <;> simp[hb,bd]
   | rw[h,one _ 3 rfl];cases hb:((n:Int) !=((3:Nat):Int)) <;> simp only[show((3:Nat):Int)=3 from rfl] at hb <;> simp[hb,bd]
   | rw[h,one _ 1 rfl];cases hb:((n:Int) !=((1:Nat):Int)) <;> simp only[show((1:Nat):Int)=1 from rfl] at hb <;> simp[hb,bd]
 ·rcases h with h | h | h | h | h | h | h | h | h
  all_goals
   first
   | rw[h,one _ 2 rfl];cases hb:((n:Int) !=((2:Nat):Int)) <;> simp only[show((2:Nat):Int)=2 from rfl] at hb <;> simp[hb,bd]
   | rw[h,one _ 1 rfl];cases hb:((n:Int) !=((1:Nat):Int)) <;> simp only[show((1:Nat):Int)=1 from rfl] at hb <;> simp[hb,bd]
   | rw[h,two];cases hb:((n:Int)==0) <;> simp[hb,bd]
 ·have ne:∀c:Int,2≤c→c≤19→(op.Kind==c)=false:=fun c h1 h2=>by simp;omega
  have hm:eF op.Kind=-2:=by
   unfold eF;simp only[ne 2 (by omega) (by omega),ne 3 (by omega) (by omega),ne 4 (by omega) (by omega),ne 5 (by omega) (by omega),ne 6 (by omega) (by omega),ne 7 (by omega) (by omega),ne 8 (by omega) (by omega),ne 9 (by omega) (by omega),ne 10 (by omega) (by omega),ne 11 (by omega) (by omega),ne 12 (by omega) (by omega),ne 13 (by omega) (by omega),ne 14 (by omega) (by omega),ne 15 (by omega) (by omega),ne 16 (by omega) (by omega),ne 17 (by omega) (by omega),ne 18 (by omega) (by omega),ne 19 (by omega) (by omega),cF,cond_false]
  unfold kR;rw[if_pos hm];simp only[ne 2 (by omega) (by omega),ne 3 (by omega) (by omega),ne 4 (by omega) (by omega),ne 5 (by omega) (by omega),ne 6 (by omega) (by omega),ne 7 (by omega) (by omega),ne 8 (by omega) (by omega),ne 9 (by omega) (by omega),ne 10 (by omega) (by omega),ne 11 (by omega) (by omega),ne 12 (by omega) (by omega),ne 13 (by omega) (by omega),ne 14 (by omega) (by omega),ne 15 (by omega) (by omega),ne 16 (by omega) (by omega),ne 17 (by omega) (by omega),ne 18 (by omega) (by omega),ne 19 (by omega) (by omega),cF,cond_false,bd]
def rT (a:List Int):Int:=(cn a).2
def yJ (args:List (List Int)):Prop:=args.length≤1048576∧∀a∈args,a.length≤1048576
theorem Ib (fu:Nat) (op:cy) (args:List (List Int)) (ha:yJ args) (hf:4000000<fu):F.gv fu op args=some (if kR op.Kind args.length≠0 then kR op.Kind args.length else jN rT args):=by
 obtain⟨a1,a2⟩:=ha;unfold F.gv kR;simp only[Xi,aa];have hl:=nL (body:=F.qS fu args) args (fun k=>(k:Int)) (fun a=>if rT a=0 then none else some (Ex.ret (rT a):Ex Unit Int)) (Ex.bJ ())
  (fun k x hx=>by
   have hw:=aT (bP hx) (by omega);simp only[F.qS,dec_lt hx,cond_true,aC hx,aa,hw,rq fu x (by have:=a2 x (aj hx);omega) hf];unfold rT
   by_cases h:(cn x).2=0
   ·rw[bne_false h,if_pos h];rfl
   ·rw[bne_true h,if_neg h];rfl)
  (by simp only[F.qS,bw,cond_false]) fu (by omega)
 rw[show((0:Nat):Int)=0 from rfl] at hl;have hl2:(args.findSome? fun a=>if rT a=0 then none else some (Ex.ret (rT a):Ex Unit Int))=(tu (jN rT args)).map Ex.ret:=by
  rw[←D0];clear hl a1 a2
  induction args with
  | nil=>rfl
  | cons x r ih=>
   rw[dT,dT]
   by_cases h:rT x=0
   ·rw[if_pos h,h,uy];exact ih
   ·rw[if_neg h,pN h];rfl
 rw[hl2] at hl
 by_cases e1:eF op.Kind=-2
 ·rw[e1];rfl
 ·rw[show(eF op.Kind==-2)=false by simp[e1],if_neg e1,cond_false];have nn:∀{p:Prop}[Decidable p],¬p→(some false:Option Bool)=some (decide p):=fun h=>by rw[cB h]
  have yy:∀{p:Prop}[Decidable p],p→(some true:Option Bool)=some (decide p):=fun h=>by rw[ed h]
  have eb:(cond (decide (eF op.Kind≥0)) (cond (eF op.Kind !=(args.length:Int)) (some true) (cond (eF op.Kind==(-1)) (some ((args.length:Int)==0)) (some false))) (cond (eF op.Kind==(-1)) (some ((args.length:Int)==0)) (some false)))=
   some (decide ((eF op.Kind≥0∧eF op.Kind≠args.length)∨(eF op.Kind=-1∧args.length=0))):=by
   by_cases h0:eF op.Kind≥0
   ·rw[ed h0,cond_true]
    by_cases h1:eF op.Kind=args.length
    ·rw[bne_false h1,cond_false,show(eF op.Kind==-1)=false by simp;omega,cond_false];exact nn (by omega)
    ·rw[bne_true h1,cond_true];exact yy (.inl ⟨h0,h1⟩)
   ·rw[cB h0,cond_false]
    by_cases h1:eF op.Kind=-1
    ·rw[h1,show((-1:Int)==-1)=true from rfl,cond_true];congr 1;rw[mn];simp
    ·rw[show(eF op.Kind==-1)=false by simp[h1],cond_false];exact nn (by omega)
  rw[eb];simp only[aa]
  by_cases hc:(eF op.Kind≥0∧eF op.Kind≠args.length)∨(eF op.Kind=-1∧args.length=0)
  ·rw[ed hc,if_pos hc];rfl
  ·rw[cB hc,if_neg hc,cond_false,hl]
   by_cases h:jN rT args=0
   ·rw[h];rfl
   ·rw[pN h];rfl
def wo (r:List Int×Int):List Int×Int:=if r.2≠0 then([],r.2) else if (cn r.1).2≠0 then([],(cn r.1).2) else(r.1,0)
theorem Vi (r:List Int×Int):(wo r).1.length≤6:=by
 unfold wo;split
 ·simp
 ·split
  ·simp
  ·rename_i h1 h2;exact(fC (d:=r.1) (by omega)).1
theorem pM (fu:Nat) (d:List Int) (e:Int) (hd:d.length≤4000000) (hf:4000000<fu):
  (cond (e !=0) (some (([]:List Int),e)) ((F.jF fu d).bind fun ((r60,r61):Int×Int)=>cond (r61 !=0) (some (([]:List Int),r61)) (some (d,0))))=some (wo (d,e)):=by
 unfold wo
 by_cases h:e=0
 ·rw[if_neg (by simpa using h),bne_false h,cond_false,rq fu d hd hf];simp only[aa]
  by_cases h2:(cn d).2=0
  ·rw[bne_false h2,if_neg (by omega)];rfl
  ·rw[bne_true h2,if_pos h2];rfl
 ·rw[if_pos h,bne_true h];rfl
theorem VA (fu:Nat) (op:cy) (args:List (List Int)) (ha:yJ args) (h0:kR op.Kind args.length=0) (h1:jN rT args=0) (r:List Int×Int) (hr:F.dz fu op args=some r) (hd:r.1.length≤4000000) (hf:4000000<fu):
  F.ig fu op args=some (wo r):=by
 unfold F.ig;rw[En,h0];simp only[aa];have hz:=xX h1;have hl:=fw (body:=F.gI fu args) args (fun k=>(k:Int)) (Ex.bJ ():Ex Unit (List Int×Int))
  (fun k x hx=>by
   have hw:=aT (bP hx) (by have:=ha.1;omega);have hx0:(cn x).2=0:=hz x (aj hx);simp only[F.gI,dec_lt hx,cond_true,aC hx,aa,hw,k5 fu x (by have:=ha.2 x (aj hx);omega) hf,bne_false hx0,cond_false])
  (by simp only[F.gI,bw,cond_false]) fu (by have:=ha.1;omega)
 rw[show((0:Nat):Int)=0 from rfl] at hl;rw[show((0:Int) !=0)=false from rfl,cond_false,hl];simp only[bd,hr,aa];obtain⟨d,e⟩:=r;unfold wo
 by_cases h:e=0
 ·simp only[h,bne_false rfl,cond_false,k5 fu d hd hf,aa];rw[if_neg (by simp)]
  by_cases h2:(cn d).2=0
  ·rw[bne_false h2,if_neg (by omega)];rfl
  ·rw[bne_true h2,if_pos h2];rfl
 ·simp only[bne_true h,cond_true];rw[if_pos h]
end Go.DN.Pl
