/-
  Orders: the plain law of OrderFinds: order.search.
-/
import Derived.Test.YtfkigaldejbeiaaFmD
set_option linter.unusedSectionVars false
set_option linter.unusedSimpArgs false
set_option linter.unusedVariables false
namespace Go.DN.So
open Go.AM Go.DN
def gN (n:aP) (a b:bE):Bool:=match pA n a,pA n b with
 | some p,some r=>(decide (p=r)&&!(nZ n a&&nZ n b))||(decide (p∈nV n b)||decide (r∈nV n a))
 | _,_=>false
def pP (n:aP) (bad:bE→bE→Bool):List bE→List bE→Option (bE×bE)
 | _,[]=>none
 | done,q::r=>match done.find? (fun a=>gN n a q&&bad a q) with
  | some a=>some (a,q)
  | none=>pP n bad (done++[q]) r
theorem I9 {α:Type}{P:α→Bool}:∀{l:List α}{i:Nat}{x:α},l[i]?=some x→P x=true→(∀(j:Nat) (y:α),j<i→l[j]?=some y→P y=false)→l.find? P=some x
 | [],i,x,h,_,_=>by simp at h
 | y::l,0,x,h,hp,_=>by simp at h;subst h;rw[ot,hp]
 | y::l,i+1,x,h,hp,hn=>by
  rw[ot,hn 0 y (by omega) rfl]
  exact I9 (l:=l) (i:=i) (by simpa using h) hp fun j z hj hz=>hn (j+1) z (by omega) (by simpa using hz)
theorem yY (p:Int→Bool):∀(ks:List Int) (f:Int),(∀k∈ks,0≤k)→(f=-1∨0≤f)→
  ((ks.foldl (eG p) f=f)∨(ks.foldl (eG p) f∈ks∧p (ks.foldl (eG p) f)=true))∧(0≤f→ks.foldl (eG p) f≤f∧0≤ks.foldl (eG p) f)∧∀k∈ks,p k=true→0≤ks.foldl (eG p) f∧ks.foldl (eG p) f≤k
 | [],f,_,hf=>⟨.inl rfl,fun h=>⟨Int.le_refl _,h⟩,fun k hk=>by cases hk⟩
 | k::r,f,hk,hf=>by
  have h0:=hk k av
  rw[jx]
  by_cases hs:(f<0∨k<f)∧p k=true
  ·have e:eG p f k=k:=if_pos hs
   rw[e]
   obtain⟨i1,i2,i3⟩:=yY p r k (fun x hx=>hk x (ao _ hx)) (.inr h0)
   obtain⟨j1,j2⟩:=i2 h0
   refine⟨.inr ?_,fun h=>⟨by rcases hs.1 with h1 | h1 <;> omega,j2⟩,fun x hx hp=>?_⟩
   ·rcases i1 with i1 | ⟨i1,i1'⟩
    ·rw[i1];exact⟨av,hs.2⟩
    ·exact⟨ao _ i1,i1'⟩
   ·rcases aX.1 hx with rfl | hx
    ·exact⟨j2,j1⟩
    ·exact i3 x hx hp
  ·have e:eG p f k=f:=if_neg hs
   rw[e]
   obtain⟨i1,i2,i3⟩:=yY p r f (fun x hx=>hk x (ao _ hx)) hf
   refine⟨i1.imp id fun h=>⟨ao _ h.1,h.2⟩,i2,fun x hx hp=>?_⟩
   rcases aX.1 hx with rfl | hx
   ·have hff:¬(f<0∨x<f):=fun h=>hs ⟨h,hp⟩
    obtain⟨j1,j2⟩:=i2 (by omega)
    exact⟨j2,by omega⟩
   ·exact i3 x hx hp
structure Jo (n:aP) (done:List ae) (d:bC):Prop where
 wm:WM d
 tn:d.n≤12*done.length
 len:∀a b j,(cr d a b j).length≤4*done.length
 mem:∀a b j k,k∈cr d a b j↔∃(i:Nat) (s:ae),k=(i:Int)∧done[i]?=some s∧tY n j (a,b) s.aQ
theorem ML {n:aP}{done:List ae}{d:bC}(h:Jo n done d) (q:bE) (k:Int):k∈sF n d q↔∃(i:Nat) (s:ae),k=(i:Int)∧done[i]?=some s∧gN n s.aQ q=true:=by
 unfold sF
 cases hq:pA n q with
 | none=>
  refine⟨fun h=>by simp at h,fun ⟨i,s,_,_,h⟩=>?_⟩
  unfold gN at h
  rw[hq] at h
  split at h
  ·rename_i e;cases e
  ·cases h
 | some r=>
  obtain⟨r1,r2⟩:=r
  have hcl:∀s:bE,gN n s q=true↔tY n 0 (r1,r2) s∨tY n 2 (r1,r2) s∨(nZ n q=false∧tY n 1 (r1,r2) s)∨∃c∈nV n q,tY n 0 c s∨tY n 1 c s:=by
   intro s
   unfold gN tY
   rw[hq]
   cases hs:pA n s with
   | none=>simp
   | some p=>
    simp only[dC,ai,decide_eq_true_eq,a6,Bool.and_eq_false_iff,fM,lu,true_and]
    constructor
    ·rintro(⟨rfl,h | h⟩ | h | h)
     ·exact .inl ⟨rfl,h⟩
     ·cases ha:nZ n s with
      | true=>exact .inr (.inr (.inl ⟨h,rfl,rfl⟩))
      | false=>exact .inl ⟨rfl,rfl⟩
     ·refine .inr (.inr (.inr ⟨p,h,?_⟩))
      cases ha:nZ n s with
      | true=>exact .inr ⟨rfl,rfl⟩
      | false=>exact .inl ⟨rfl,rfl⟩
     ·exact .inr (.inl h)
    ·rintro(⟨rfl,h⟩ | h | ⟨h,rfl,h2⟩ | ⟨c,hc,⟨rfl,_⟩ | ⟨rfl,_⟩⟩)
     ·exact .inl ⟨rfl,.inl h⟩
     ·exact .inr (.inr h)
     ·exact .inl ⟨rfl,.inr h⟩
     ·exact .inr (.inl hc)
     ·exact .inr (.inl hc)
  simp only[cU,zG,g7,h.mem]
  constructor
  ·rintro(((⟨i,s,e1,e2,e3⟩ | ⟨i,s,e1,e2,e3⟩) | hx) | ⟨c,hc,(⟨i,s,e1,e2,e3⟩ | ⟨i,s,e1,e2,e3⟩)⟩)
   ·exact⟨i,s,e1,e2,(hcl _).2 (.inl e3)⟩
   ·exact⟨i,s,e1,e2,(hcl _).2 (.inr (.inl e3))⟩
   ·cases ha:nZ n q with
    | true=>rw[ha] at hx;cases hx
    | false=>
     rw[ha] at hx
     obtain⟨i,s,e1,e2,e3⟩:=(h.mem _ _ _ _).1 hx
     exact⟨i,s,e1,e2,(hcl _).2 (.inr (.inr (.inl ⟨ha,e3⟩)))⟩
   ·exact⟨i,s,e1,e2,(hcl _).2 (.inr (.inr (.inr ⟨c,hc,.inl e3⟩)))⟩
   ·exact⟨i,s,e1,e2,(hcl _).2 (.inr (.inr (.inr ⟨c,hc,.inr e3⟩)))⟩
  ·rintro⟨i,s,e1,e2,e3⟩
   rcases(hcl _).1 e3 with e3 | e3 | ⟨ha,e3⟩ | ⟨c,hc,e3 | e3⟩
   ·exact .inl (.inl (.inl ⟨i,s,e1,e2,e3⟩))
   ·exact .inl (.inl (.inr ⟨i,s,e1,e2,e3⟩))
   ·refine .inl (.inr ?_)
    rw[ha]
    exact(h.mem _ _ _ _).2 ⟨i,s,e1,e2,e3⟩
   ·exact .inr ⟨c,hc,.inl ⟨i,s,e1,e2,e3⟩⟩
   ·exact .inr ⟨c,hc,.inr ⟨i,s,e1,e2,e3⟩⟩
theorem Jo.nil (n:aP):Jo n [] ⟨0,[],none⟩ where
 wm:={len:=(fun e he=>by cases he),inj:=(fun i i' j j' x e e' h=>by simp at h),lt:=(fun e he=>by cases he),nil:=(fun e he=>by cases he),pd:=rfl}
 tn:=az _
 len:=fun a b j=>az _
 mem:=fun a b j k=>⟨(fun h=>by cases h),fun ⟨i,s,_,h,_⟩=>by simp at h⟩
theorem zU {bd:ae→ae→Option Bool}(fu:Nat) (hf:100000<fu){n:aP}{times:List (List aS)}{o:List ae}(ho:o.length≤1024) (hnum:H7 o) (hg:∀s∈o,xA n times s.aQ){bad:bE→bE→Bool}(hbd:∀a∈o,∀b∈o,bd a b=some (bad a.aQ b.aQ)) (m8:Bool) (m9:Int) (m10:List Int) (m11:Int) (m12:List Int):
  ∀(todo done:List ae) (d:bC) (aI:Nat),o=done++todo→todo.length<aI→Jo n done d→
   ∃d',aB (Gn.ru bd fu n o) aI ((done.length:Int),d,o,m8,m9,m10,m11,m12)=some (match pP n bad (done.map (·.aQ)) (todo.map (·.aQ)) with
    | some (a,b)=>.ret ((⟨true,a,b⟩:iR),0)
    | none=>.dS (d',o,m8,m9,m10,m11,m12))
 | [],done,d,aI,he,hm,hs=>by
  obtain⟨g,rfl⟩:∃g,aI=g+1:=⟨aI-1,by omega⟩
  rw[b9] at he
  subst he
  refine⟨d,?_⟩
  simp only[aB,Gn.ru,ff,cond_false]
  rfl
 | b::todo,done,d,aI,he,hm,hs=>by
  obtain⟨g,rfl⟩:∃g,aI=g+1:=⟨aI-1,by omega⟩
  have hb:o[done.length]?=some b:=by rw[he];simp
  have hdl:done.length<o.length:=eT hb
  have hbm:b∈o:=ar hb
  have hw:=du hdl (by omega)
  have hdone:∀(i:Nat) (s:ae),done[i]?=some s→o[i]?=some s:=fun i s hi=>by rw[he];exact nk hi
  obtain⟨s,rows,h1,h2,h3,h4,h5,h6,h7⟩:=(hg b hbm).ex
  generalize hp:(fun k:Int=>match o[k.toNat]? with | some a=>bad a.aQ b.aQ | none=>false)=p
  have hpk:∀(i:Nat) (a:ae),o[i]?=some a→p (i:Int)=bad a.aQ b.aQ:=fun i a hi=>by
   rw[←hp]
   show(match o[((i:Nat):Int).toNat]? with | some a=>bad a.aQ b.aQ | none=>false)=_
   rw[bh,hi]
  have hseen:∀x c j,Seen bd b p o (cr d x c j):=fun x c j k hk=>by
   obtain⟨i,a,rfl,e2,_⟩:=(hs.mem x c j k).1 hk
   have e3:=hdone i a e2
   exact⟨a,bJ e3,by rw[hpk i a e3];exact hbd a (ar e3) b hbm⟩
  obtain⟨d',q1,q2,q3,q4,q5⟩:=Nl (bd:=bd) fu hf (n:=n) (b:=b) (s:=s) h1 (hg b hbm).pos h3 h4 h5 (L:=o) (p:=p) hs.wm (by have:=hs.tn;omega) (fun x c j=>by have:=hs.len x c j;omega) hseen
  have hSay:Jo n (done++[b]) d':=by
   refine⟨q2,by have:=hs.tn;rw[aj,cQ];omega,fun x c j=>by have:=q4 x c j;have:=hs.len x c j;rw[aj,cQ];omega,fun x c j k=>?_⟩
   rw[q5,hs.mem,hnum _ b hb]
   constructor
   ·rintro(⟨i,s',e1,e2,e3⟩ | ⟨e1,e2⟩)
    ·exact⟨i,s',e1,nk e2,e3⟩
    ·exact⟨done.length,b,e1,by simp,e2⟩
   ·rintro⟨i,s',e1,e2,e3⟩
    rcases CY e2 with e2 | ⟨rfl,rfl⟩
    ·exact .inl ⟨i,s',e1,e2,e3⟩
    ·exact .inr ⟨e1,e3⟩
  have hcm:=ML hs b.aQ
  obtain⟨i1,i2,i3⟩:=yY p (sF n d b.aQ) (-1) (fun k hk=>by obtain⟨i,_,rfl,_⟩:=(hcm k).1 hk;omega) (.inl rfl)
  generalize (sF n d b.aQ).foldl (eG p) (-1)=R at q1 i1 i2 i3
  have eta:(⟨⟨b.aQ.Stmt,b.aQ.At⟩,b.number,b.time⟩:ae)=b:=rfl
  have hfp:∀(i:Nat) (a:ae),done[i]?=some a→(gN n a.aQ b.aQ&&bad a.aQ b.aQ)=true→(i:Int)∈sF n d b.aQ∧p (i:Int)=true:=fun i a hi h=>by
   simp only[ai] at h
   exact⟨(hcm _).2 ⟨i,a,rfl,hi,h.1⟩,by rw[hpk i a (hdone i a hi)];exact h.2⟩
  simp only[aB,Gn.ru,dec_lt hb,cond_true,bJ hb,ab,eta,q1]
  rcases i1 with i1 | ⟨i1,i1'⟩
  ·subst i1
   have hno:(done.map (·.aQ)).find? (fun a=>gN n a b.aQ&&bad a b.aQ)=none:=by
    rw[List.find?_eq_none]
    intro q hq h
    obtain⟨a,ha,rfl⟩:=iV.1 hq
    obtain⟨i,hi⟩:=rF ha
    obtain⟨m1,m2⟩:=hfp i a hi h
    have:=(i3 _ m1 m2).1
    omega
   obtain⟨d'',g1⟩:=zU fu hf ho hnum hg hbd m8 m9 m10 m11 m12 todo (done++[b]) d' g (by rw[he];simp) (by simp at hm;omega) hSay
   refine⟨d'',?_⟩
   have dn:decide ((-1:Int)≥0)=false:=by decide
   rw[aj,cQ] at g1
   simp only[dn,cond_false,hw]
   rw[g1]
   simp only[aH,pP,hno,kv,ir]
  ·obtain⟨i,a,rfl,e2,e3⟩:=(hcm R).1 i1
   have hao:=hdone i a e2
   have hfd:(done.map (·.aQ)).find? (fun a=>gN n a b.aQ&&bad a b.aQ)=some a.aQ:=by
    refine I9 (i:=i) (by rw[ay,e2];rfl) (by rw[e3,←hpk i a hao,i1'];rfl) fun j y hj hy=>?_
    rw[ay] at hy
    obtain⟨a',hy2,rfl⟩:=au.1 hy
    cases hc:(gN n a'.aQ b.aQ&&bad a'.aQ b.aQ) with
    | false=>rfl
    | true=>
     obtain⟨m1,m2⟩:=hfp j a' hy2 hc
     have:=(i3 _ m1 m2).2
     omega
   refine⟨d',?_⟩
   have dn:decide ((i:Int)≥0)=true:=by simp
   simp only[dn,cond_true,bJ hao,ab,aH,pP,hfd]
end Go.DN.So
