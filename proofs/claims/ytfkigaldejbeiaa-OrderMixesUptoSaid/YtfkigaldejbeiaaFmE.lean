/-
  Orders: the plain law of OrderFinds: order.search.
-/
import Derived.Test.YtfkigaldejbeiaaFmD
set_option linter.unusedSectionVars false
set_option linter.unusedSimpArgs false
set_option linter.unusedVariables false
namespace Go.DN.So
open Go.AM Go.DN
def gQ (n:aO) (a b:bD):Bool:=match pK n a,pK n b with
 | some p,some r=>(decide (p=r)&&!(oc n a&&oc n b))||(decide (p∈n4 n b)||decide (r∈n4 n a))
 | _,_=>false
def oN (n:aO) (bad:bD→bD→Bool):List bD→List bD→Option (bD×bD)
 | _,[]=>none
 | done,q::r=>match done.find? (fun a=>gQ n a q&&bad a q) with
  | some a=>some (a,q)
  | none=>oN n bad (done++[q]) r
theorem JB {α:Type}{P:α→Bool}:∀{l:List α}{i:Nat}{x:α},l[i]?=some x→P x=true→(∀(j:Nat) (y:α),j<i→l[j]?=some y→P y=false)→l.find? P=some x
 | [],i,x,h,_,_=>by simp at h
 | y::l,0,x,h,hp,_=>by simp at h;subst h;rw[oy,hp]
 | y::l,i+1,x,h,hp,hn=>by
  rw[oy,hn 0 y (by omega) rfl]
  exact JB (l:=l) (i:=i) (by simpa using h) hp fun j z hj hz=>hn (j+1) z (by omega) (by simpa using hz)
theorem zq (p:Int→Bool):∀(ks:List Int) (f:Int),(∀k∈ks,0≤k)→(f=-1∨0≤f)→
  ((ks.foldl (eH p) f=f)∨(ks.foldl (eH p) f∈ks∧p (ks.foldl (eH p) f)=true))∧(0≤f→ks.foldl (eH p) f≤f∧0≤ks.foldl (eH p) f)∧∀k∈ks,p k=true→0≤ks.foldl (eH p) f∧ks.foldl (eH p) f≤k
 | [],f,_,hf=>⟨.inl rfl,fun h=>⟨Int.le_refl _,h⟩,fun k hk=>by cases hk⟩
 | k::r,f,hk,hf=>by
  have h0:=hk k av
  rw[jz]
  by_cases hs:(f<0∨k<f)∧p k=true
  ·have e:eH p f k=k:=if_pos hs
   rw[e]
   obtain⟨i1,i2,i3⟩:=zq p r k (fun x hx=>hk x (ao _ hx)) (.inr h0)
   obtain⟨j1,j2⟩:=i2 h0
   refine⟨.inr ?_,fun h=>⟨by rcases hs.1 with h1 | h1 <;> omega,j2⟩,fun x hx hp=>?_⟩
   ·rcases i1 with i1 | ⟨i1,i1'⟩
    ·rw[i1];exact⟨av,hs.2⟩
    ·exact⟨ao _ i1,i1'⟩
   ·rcases aX.1 hx with rfl | hx
    ·exact⟨j2,j1⟩
    ·exact i3 x hx hp
  ·have e:eH p f k=f:=if_neg hs
   rw[e]
   obtain⟨i1,i2,i3⟩:=zq p r f (fun x hx=>hk x (ao _ hx)) hf
   refine⟨i1.imp id fun h=>⟨ao _ h.1,h.2⟩,i2,fun x hx hp=>?_⟩
   rcases aX.1 hx with rfl | hx
   ·have hff:¬(f<0∨x<f):=fun h=>hs ⟨h,hp⟩
    obtain⟨j1,j2⟩:=i2 (by omega)
    exact⟨j2,by omega⟩
   ·exact i3 x hx hp
structure JR (n:aO) (done:List af) (d:bC):Prop where
 wm:WM d
 tM:d.n≤12*done.length
 len:∀a b j,(ct d a b j).length≤4*done.length
 mem:∀a b j k,k∈ct d a b j↔∃(i:Nat) (s:af),k=(i:Int)∧done[i]?=some s∧uq n j (a,b) s.aR
theorem Nc {n:aO}{done:List af}{d:bC}(h:JR n done d) (q:bD) (k:Int):k∈sW n d q↔∃(i:Nat) (s:af),k=(i:Int)∧done[i]?=some s∧gQ n s.aR q=true:=by
 unfold sW
 cases hq:pK n q with
 | none=>
  refine⟨fun h=>by simp at h,fun ⟨i,s,_,_,h⟩=>?_⟩
  unfold gQ at h
  rw[hq] at h
  split at h
  ·rename_i e;cases e
  ·cases h
 | some r=>
  obtain⟨r1,r2⟩:=r
  have hcl:∀s:bD,gQ n s q=true↔uq n 0 (r1,r2) s∨uq n 2 (r1,r2) s∨(oc n q=false∧uq n 1 (r1,r2) s)∨∃c∈n4 n q,uq n 0 c s∨uq n 1 c s:=by
   intro s
   unfold gQ uq
   rw[hq]
   cases hs:pK n s with
   | none=>simp
   | some p=>
    simp only[dC,aj,decide_eq_true_eq,a6,Bool.and_eq_false_iff,fO,lz,true_and]
    constructor
    ·rintro(⟨rfl,h | h⟩ | h | h)
     ·exact .inl ⟨rfl,h⟩
     ·cases ha:oc n s with
      | true=>exact .inr (.inr (.inl ⟨h,rfl,rfl⟩))
      | false=>exact .inl ⟨rfl,rfl⟩
     ·refine .inr (.inr (.inr ⟨p,h,?_⟩))
      cases ha:oc n s with
      | true=>exact .inr ⟨rfl,rfl⟩
      | false=>exact .inl ⟨rfl,rfl⟩
     ·exact .inr (.inl h)
    ·rintro(⟨rfl,h⟩ | h | ⟨h,rfl,h2⟩ | ⟨c,hc,⟨rfl,_⟩ | ⟨rfl,_⟩⟩)
     ·exact .inl ⟨rfl,.inl h⟩
     ·exact .inr (.inr h)
     ·exact .inl ⟨rfl,.inr h⟩
     ·exact .inr (.inl hc)
     ·exact .inr (.inl hc)
  simp only[cV,zZ,hZ,h.mem]
  constructor
  ·rintro(((⟨i,s,e1,e2,e3⟩ | ⟨i,s,e1,e2,e3⟩) | hx) | ⟨c,hc,(⟨i,s,e1,e2,e3⟩ | ⟨i,s,e1,e2,e3⟩)⟩)
   ·exact⟨i,s,e1,e2,(hcl _).2 (.inl e3)⟩
   ·exact⟨i,s,e1,e2,(hcl _).2 (.inr (.inl e3))⟩
   ·cases ha:oc n q with
    | true=>rw[ha] at hx;cases hx
    | false=>
     rw[ha] at hx
     obtain⟨i,s,e1,e2,e3⟩:=(h.mem _ _ _ _).1 hx
     exact⟨i,s,e1,e2,(hcl _).2 (.inr (.inr (.inl ⟨ha,e3⟩)))⟩
   ·exact⟨i,s,e1,e2,(hcl _).2 (.inr (.inr (.inr ⟨c,hc,.inl e3⟩)))⟩
   ·exact⟨i,s,e1,e2,(hcl _).2 (.inr (.inr (.inr ⟨c,hc,.inr e3⟩)))⟩
  ·rintro⟨i,s,e1,e2,e3⟩
   rcases(hcl _).1 e3 with e3 | e3 | ⟨ha,e3⟩ | ⟨c,hc,e3 | e3⟩
   ·exact .inl (.inl (.inl ⟨i,s,e1,e2,e3⟩))
   ·exact .inl (.inl (.inr ⟨i,s,e1,e2,e3⟩))
   ·refine .inl (.inr ?_)
    rw[ha]
    exact(h.mem _ _ _ _).2 ⟨i,s,e1,e2,e3⟩
   ·exact .inr ⟨c,hc,.inl ⟨i,s,e1,e2,e3⟩⟩
   ·exact .inr ⟨c,hc,.inr ⟨i,s,e1,e2,e3⟩⟩
theorem JR.nil (n:aO):JR n [] ⟨0,[],none⟩ where
 wm:={len:=(fun e he=>by cases he),inj:=(fun i i' j j' x e e' h=>by simp at h),lt:=(fun e he=>by cases he),nil:=(fun e he=>by cases he),pd:=rfl}
 tM:=az _
 len:=fun a b j=>az _
 mem:=fun a b j k=>⟨(fun h=>by cases h),fun ⟨i,s,_,h,_⟩=>by simp at h⟩
theorem Ak {bd:af→af→Option Bool}(fu:Nat) (hf:100000<fu){n:aO}{times:List (List aT)}{o:List af}(ho:o.length≤1024) (hnum:IE o) (hg:∀s∈o,xQ n times s.aR){bad:bD→bD→Bool}(hbd:∀a∈o,∀b∈o,bd a b=some (bad a.aR b.aR)) (m8:Bool) (m9:Int) (m10:List Int) (m11:Int) (m12:List Int):
  ∀(todo done:List af) (d:bC) (aJ:Nat),o=done++todo→todo.length<aJ→JR n done d→
   ∃d',aB (Gn.rI bd fu n o) aJ ((done.length:Int),d,o,m8,m9,m10,m11,m12)=some (match oN n bad (done.map (·.aR)) (todo.map (·.aR)) with
    | some (a,b)=>.ret ((⟨true,a,b⟩:gz),0)
    | none=>.dS (d',o,m8,m9,m10,m11,m12))
 | [],done,d,aJ,he,hm,hs=>by
  obtain⟨g,rfl⟩:∃g,aJ=g+1:=⟨aJ-1,by omega⟩
  rw[b9] at he
  subst he
  refine⟨d,?_⟩
  simp only[aB,Gn.rI,fg,cond_false]
  rfl
 | b::todo,done,d,aJ,he,hm,hs=>by
  obtain⟨g,rfl⟩:∃g,aJ=g+1:=⟨aJ-1,by omega⟩
  have hb:o[done.length]?=some b:=by rw[he];simp
  have hdl:done.length<o.length:=eU hb
  have hbm:b∈o:=ar hb
  have hw:=du hdl (by omega)
  have hdone:∀(i:Nat) (s:af),done[i]?=some s→o[i]?=some s:=fun i s hi=>by rw[he];exact nr hi
  obtain⟨s,rows,h1,h2,h3,h4,h5,h6,h7⟩:=(hg b hbm).ex
  generalize hp:(fun k:Int=>match o[k.toNat]? with | some a=>bad a.aR b.aR | none=>false)=p
  have hpk:∀(i:Nat) (a:af),o[i]?=some a→p (i:Int)=bad a.aR b.aR:=fun i a hi=>by
   rw[←hp]
   show(match o[((i:Nat):Int).toNat]? with | some a=>bad a.aR b.aR | none=>false)=_
   rw[bh,hi]
  have hseen:∀x c j,Seen bd b p o (ct d x c j):=fun x c j k hk=>by
   obtain⟨i,a,rfl,e2,_⟩:=(hs.mem x c j k).1 hk
   have e3:=hdone i a e2
   exact⟨a,bJ e3,by rw[hpk i a e3];exact hbd a (ar e3) b hbm⟩
  obtain⟨d',q1,q2,q3,q4,q5⟩:=NN (bd:=bd) fu hf (n:=n) (b:=b) (s:=s) h1 (hg b hbm).pos h3 h4 h5 (L:=o) (p:=p) hs.wm (by have:=hs.tM;omega) (fun x c j=>by have:=hs.len x c j;omega) hseen
  have hSay:JR n (done++[b]) d':=by
   refine⟨q2,by have:=hs.tM;rw[ak,cQ];omega,fun x c j=>by have:=q4 x c j;have:=hs.len x c j;rw[ak,cQ];omega,fun x c j k=>?_⟩
   rw[q5,hs.mem,hnum _ b hb]
   constructor
   ·rintro(⟨i,s',e1,e2,e3⟩ | ⟨e1,e2⟩)
    ·exact⟨i,s',e1,nr e2,e3⟩
    ·exact⟨done.length,b,e1,by simp,e2⟩
   ·rintro⟨i,s',e1,e2,e3⟩
    rcases Dr e2 with e2 | ⟨rfl,rfl⟩
    ·exact .inl ⟨i,s',e1,e2,e3⟩
    ·exact .inr ⟨e1,e3⟩
  have hcm:=Nc hs b.aR
  obtain⟨i1,i2,i3⟩:=zq p (sW n d b.aR) (-1) (fun k hk=>by obtain⟨i,_,rfl,_⟩:=(hcm k).1 hk;omega) (.inl rfl)
  generalize (sW n d b.aR).foldl (eH p) (-1)=R at q1 i1 i2 i3
  have eta:(⟨⟨b.aR.Stmt,b.aR.At⟩,b.number,b.time⟩:af)=b:=rfl
  have hfp:∀(i:Nat) (a:af),done[i]?=some a→(gQ n a.aR b.aR&&bad a.aR b.aR)=true→(i:Int)∈sW n d b.aR∧p (i:Int)=true:=fun i a hi h=>by
   simp only[aj] at h
   exact⟨(hcm _).2 ⟨i,a,rfl,hi,h.1⟩,by rw[hpk i a (hdone i a hi)];exact h.2⟩
  simp only[aB,Gn.rI,dec_lt hb,cond_true,bJ hb,ae,eta,q1]
  rcases i1 with i1 | ⟨i1,i1'⟩
  ·subst i1
   have hno:(done.map (·.aR)).find? (fun a=>gQ n a b.aR&&bad a b.aR)=none:=by
    rw[List.find?_eq_none]
    intro q hq h
    obtain⟨a,ha,rfl⟩:=iX.1 hq
    obtain⟨i,hi⟩:=rQ ha
    obtain⟨m1,m2⟩:=hfp i a hi h
    have:=(i3 _ m1 m2).1
    omega
   obtain⟨d'',g1⟩:=Ak fu hf ho hnum hg hbd m8 m9 m10 m11 m12 todo (done++[b]) d' g (by rw[he];simp) (by simp at hm;omega) hSay
   refine⟨d'',?_⟩
   have dn:decide ((-1:Int)≥0)=false:=by decide
   rw[ak,cQ] at g1
   simp only[dn,cond_false,hw]
   rw[g1]
   simp only[aI,oN,hno,kx,ix]
  ·obtain⟨i,a,rfl,e2,e3⟩:=(hcm R).1 i1
   have hao:=hdone i a e2
   have hfd:(done.map (·.aR)).find? (fun a=>gQ n a b.aR&&bad a b.aR)=some a.aR:=by
    refine JB (i:=i) (by rw[ay,e2];rfl) (by rw[e3,←hpk i a hao,i1'];rfl) fun j y hj hy=>?_
    rw[ay] at hy
    obtain⟨a',hy2,rfl⟩:=au.1 hy
    cases hc:(gQ n a'.aR b.aR&&bad a'.aR b.aR) with
    | false=>rfl
    | true=>
     obtain⟨m1,m2⟩:=hfp j a' hy2 hc
     have:=(i3 _ m1 m2).2
     omega
   refine⟨d',?_⟩
   have dn:decide ((i:Int)≥0)=true:=by simp
   simp only[dn,cond_true,bJ hao,ae,aI,oN,hfd]
end Go.DN.So
