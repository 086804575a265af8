/-
  Orders: the plain law of OrderFinds: order.search.
-/
import Derived.Test.YtfkigaldejbeiaaFmD
set_option linter.unusedSimpArgs false
set_option linter.unusedVariables false
namespace Go.DN.So
open Go.AM Go.DN
def gw (n:aM) (a b:bE):Bool:=match pS n a,pS n b with
 | some p,some r=>(decide (p=r)&&!(oq n a&&oq n b))||(decide (p∈og n b)||decide (r∈og n a))
 | _,_=>false
def oi (n:aM) (bad:bE→bE→Bool):List bE→List bE→Option (bE×bE)
 | _,[]=>none
 | done,q::r=>match done.find? (fun a=>gw n a q&&bad a q) with
  | some a=>some (a,q)
  | none=>oi n bad (done++[q]) r
theorem J1 {α:Type}{P:α→Bool}:∀{l:List α}{i:Nat}{x:α},l[i]?=some x→P x=true→(∀(j:Nat) (y:α),j<i→l[j]?=some y→P y=false)→l.find? P=some x
 | [],i,x,h,_,_=>by simp at h
 | y::l,0,x,h,hp,_=>by simp at h;subst h;rw[oG,hp]
 | y::l,i+1,x,h,hp,hn=>by
  rw[oG,hn 0 y (by omega) rfl]
  exact J1 (l:=l) (i:=i) (by simpa using h) hp fun j z hj hz=>hn (j+1) z (by omega) (by simpa using hz)
theorem zL (p:Int→Bool):∀(ks:List Int) (f:Int),(∀k∈ks,0≤k)→(f=-1∨0≤f)→
  ((ks.foldl (eK p) f=f)∨(ks.foldl (eK p) f∈ks∧p (ks.foldl (eK p) f)=true))∧(0≤f→ks.foldl (eK p) f≤f∧0≤ks.foldl (eK p) f)∧∀k∈ks,p k=true→0≤ks.foldl (eK p) f∧ks.foldl (eK p) f≤k
 | [],f,_,hf=>⟨.inl rfl,fun h=>⟨Int.le_refl _,h⟩,fun k hk=>by cases hk⟩
 | k::r,f,hk,hf=>by
  have h0:=hk k au
  rw[jD]
  by_cases hs:(f<0∨k<f)∧p k=true
  ·have e:eK p f k=k:=if_pos hs
   rw[e]
   obtain⟨i1,i2,i3⟩:=zL p r k (fun x hx=>hk x (ao _ hx)) (.inr h0)
   obtain⟨j1,j2⟩:=i2 h0
   refine⟨.inr ?_,fun h=>⟨by rcases hs.1 with h1 | h1 <;> omega,j2⟩,fun x hx hp=>?_⟩
   ·rcases i1 with i1 | ⟨i1,i1'⟩
    ·rw[i1];exact⟨au,hs.2⟩
    ·exact⟨ao _ i1,i1'⟩
   ·rcases aZ.1 hx with rfl | hx
    ·exact⟨j2,j1⟩
    ·exact i3 x hx hp
  ·have e:eK p f k=f:=if_neg hs
   rw[e]
   obtain⟨i1,i2,i3⟩:=zL p r f (fun x hx=>hk x (ao _ hx)) hf
   refine⟨i1.imp id fun h=>⟨ao _ h.1,h.2⟩,i2,fun x hx hp=>?_⟩
   rcases aZ.1 hx with rfl | hx
   ·have hff:¬(f<0∨x<f):=fun h=>hs ⟨h,hp⟩
    obtain⟨j1,j2⟩:=i2 (by omega)
    exact⟨j2,by omega⟩
   ·exact i3 x hx hp
structure Ko (n:aM) (done:List af) (d:bH):Prop where
 wm:WM d
 tW:d.n≤12*done.length
 len:∀a b j,(cv d a b j).length≤4*done.length
 mem:∀a b j k,k∈cv d a b j↔∃(i:Nat) (s:af),k=(i:Int)∧done[i]?=some s∧uC n j (a,b) s.aS
theorem ND {n:aM}{done:List af}{d:bH}(h:Ko n done d) (q:bE) (k:Int):k∈td n d q↔∃(i:Nat) (s:af),k=(i:Int)∧done[i]?=some s∧gw n s.aS q=true:=by
 unfold td
 cases hq:pS n q with
 | none=>
  refine⟨fun h=>by simp at h,fun ⟨i,s,_,_,h⟩=>?_⟩
  unfold gw at h
  rw[hq] at h
  split at h
  ·rename_i e;cases e
  ·cases h
 | some r=>
  obtain⟨r1,r2⟩:=r
  have hcl:∀s:bE,gw n s q=true↔uC n 0 (r1,r2) s∨uC n 2 (r1,r2) s∨(oq n q=false∧uC n 1 (r1,r2) s)∨∃c∈og n q,uC n 0 c s∨uC n 1 c s:=by
   intro s
   unfold gw uC
   rw[hq]
   cases hs:pS n s with
   | none=>simp
   | some p=>
    simp only[dG,aj,decide_eq_true_eq,a8,Bool.and_eq_false_iff,fQ,lF,true_and]
    constructor
    ·rintro(⟨rfl,h | h⟩ | h | h)
     ·exact .inl ⟨rfl,h⟩
     ·cases ha:oq n s with
      | true=>exact .inr (.inr (.inl ⟨h,rfl,rfl⟩))
      | false=>exact .inl ⟨rfl,rfl⟩
     ·refine .inr (.inr (.inr ⟨p,h,?_⟩))
      cases ha:oq n s with
      | true=>exact .inr ⟨rfl,rfl⟩
      | false=>exact .inl ⟨rfl,rfl⟩
     ·exact .inr (.inl h)
    ·rintro(⟨rfl,h⟩ | h | ⟨h,rfl,h2⟩ | ⟨c,hc,⟨rfl,_⟩ | ⟨rfl,_⟩⟩)
     ·exact .inl ⟨rfl,.inl h⟩
     ·exact .inr (.inr h)
     ·exact .inl ⟨rfl,.inr h⟩
     ·exact .inr (.inl hc)
     ·exact .inr (.inl hc)
  simp only[cP,Ar,ib,h.mem]
  constructor
  ·rintro(((⟨i,s,e1,e2,e3⟩ | ⟨i,s,e1,e2,e3⟩) | hx) | ⟨c,hc,(⟨i,s,e1,e2,e3⟩ | ⟨i,s,e1,e2,e3⟩)⟩)
   ·exact⟨i,s,e1,e2,(hcl _).2 (.inl e3)⟩
   ·exact⟨i,s,e1,e2,(hcl _).2 (.inr (.inl e3))⟩
   ·cases ha:oq n q with
    | true=>rw[ha] at hx;cases hx
    | false=>
     rw[ha] at hx
     obtain⟨i,s,e1,e2,e3⟩:=(h.mem _ _ _ _).1 hx
     exact⟨i,s,e1,e2,(hcl _).2 (.inr (.inr (.inl ⟨ha,e3⟩)))⟩
   ·exact⟨i,s,e1,e2,(hcl _).2 (.inr (.inr (.inr ⟨c,hc,.inl e3⟩)))⟩
   ·exact⟨i,s,e1,e2,(hcl _).2 (.inr (.inr (.inr ⟨c,hc,.inr e3⟩)))⟩
  ·rintro⟨i,s,e1,e2,e3⟩
   rcases(hcl _).1 e3 with e3 | e3 | ⟨ha,e3⟩ | ⟨c,hc,e3 | e3⟩
   ·exact .inl (.inl (.inl ⟨i,s,e1,e2,e3⟩))
   ·exact .inl (.inl (.inr ⟨i,s,e1,e2,e3⟩))
   ·refine .inl (.inr ?_)
    rw[ha]
    exact(h.mem _ _ _ _).2 ⟨i,s,e1,e2,e3⟩
   ·exact .inr ⟨c,hc,.inl ⟨i,s,e1,e2,e3⟩⟩
   ·exact .inr ⟨c,hc,.inr ⟨i,s,e1,e2,e3⟩⟩
theorem Ko.nil (n:aM):Ko n [] ⟨0,[],none⟩ where
 wm:={len:=(fun e he=>by cases he),inj:=(fun i i' j j' x e e' h=>by simp at h),lt:=(fun e he=>by cases he),nil:=(fun e he=>by cases he),pd:=rfl}
 tW:=az _
 len:=fun a b j=>az _
 mem:=fun a b j k=>⟨(fun h=>by cases h),fun ⟨i,s,_,h,_⟩=>by simp at h⟩
theorem AG {bd:af→af→Option Bool}(fu:Nat) (hf:100000<fu){n:aM}{times:List (List aO)}{o:List af}(ho:o.length≤1024) (hnum:I0 o) (hg:∀s∈o,yg n times s.aS){bad:bE→bE→Bool}(hbd:∀a∈o,∀b∈o,bd a b=some (bad a.aS b.aS)) (m8:Bool) (m9:Int) (m10:List Int) (m11:Int) (m12:List Int):
  ∀(todo done:List af) (d:bH) (aK:Nat),o=done++todo→todo.length<aK→Ko n done d→
   ∃d',aB (Gn.rR bd fu n o) aK ((done.length:Int),d,o,m8,m9,m10,m11,m12)=some (match oi n bad (done.map (·.aS)) (todo.map (·.aS)) with
    | some (a,b)=>.ret ((⟨true,a,b⟩:gC),0)
    | none=>.dW (d',o,m8,m9,m10,m11,m12))
 | [],done,d,aK,he,hm,hs=>by
  obtain⟨g,rfl⟩:∃g,aK=g+1:=⟨aK-1,by omega⟩
  rw[cc] at he
  subst he
  refine⟨d,?_⟩
  simp only[aB,Gn.rR,eF,cond_false]
  rfl
 | b::todo,done,d,aK,he,hm,hs=>by
  obtain⟨g,rfl⟩:∃g,aK=g+1:=⟨aK-1,by omega⟩
  have hb:o[done.length]?=some b:=by rw[he];simp
  have hdl:done.length<o.length:=ep hb
  have hbm:b∈o:=ar hb
  have hw:=dh hdl (by omega)
  have hdone:∀(i:Nat) (s:af),done[i]?=some s→o[i]?=some s:=fun i s hi=>by rw[he];exact nw hi
  obtain⟨s,rows,h1,h2,h3,h4,h5,h6,h7⟩:=(hg b hbm).ex
  generalize hp:(fun k:Int=>match o[k.toNat]? with | some a=>bad a.aS b.aS | none=>false)=p
  have hpk:∀(i:Nat) (a:af),o[i]?=some a→p (i:Int)=bad a.aS b.aS:=fun i a hi=>by
   rw[←hp]
   show(match o[((i:Nat):Int).toNat]? with | some a=>bad a.aS b.aS | none=>false)=_
   rw[bc,hi]
  have hseen:∀x c j,Seen bd b p o (cv d x c j):=fun x c j k hk=>by
   obtain⟨i,a,rfl,e2,_⟩:=(hs.mem x c j k).1 hk
   have e3:=hdone i a e2
   exact⟨a,bM e3,by rw[hpk i a e3];exact hbd a (ar e3) b hbm⟩
  obtain⟨d',q1,q2,q3,q4,q5⟩:=Oi (bd:=bd) fu hf (n:=n) (b:=b) (s:=s) h1 (hg b hbm).pos h3 h4 h5 (L:=o) (p:=p) hs.wm (by have:=hs.tW;omega) (fun x c j=>by have:=hs.len x c j;omega) hseen
  have hSay:Ko n (done++[b]) d':=by
   refine⟨q2,by have:=hs.tW;rw[ak,cS];omega,fun x c j=>by have:=q4 x c j;have:=hs.len x c j;rw[ak,cS];omega,fun x c j k=>?_⟩
   rw[q5,hs.mem,hnum _ b hb]
   constructor
   ·rintro(⟨i,s',e1,e2,e3⟩ | ⟨e1,e2⟩)
    ·exact⟨i,s',e1,nw e2,e3⟩
    ·exact⟨done.length,b,e1,by simp,e2⟩
   ·rintro⟨i,s',e1,e2,e3⟩
    rcases DI e2 with e2 | ⟨rfl,rfl⟩
    ·exact .inl ⟨i,s',e1,e2,e3⟩
    ·exact .inr ⟨e1,e3⟩
  have hcm:=ND hs b.aS
  obtain⟨i1,i2,i3⟩:=zL p (td n d b.aS) (-1) (fun k hk=>by obtain⟨i,_,rfl,_⟩:=(hcm k).1 hk;omega) (.inl rfl)
  generalize (td n d b.aS).foldl (eK p) (-1)=R at q1 i1 i2 i3
  have eta:(⟨⟨b.aS.Stmt,b.aS.At⟩,b.number,b.time⟩:af)=b:=rfl
  have hfp:∀(i:Nat) (a:af),done[i]?=some a→(gw n a.aS b.aS&&bad a.aS b.aS)=true→(i:Int)∈td n d b.aS∧p (i:Int)=true:=fun i a hi h=>by
   simp only[aj] at h
   exact⟨(hcm _).2 ⟨i,a,rfl,hi,h.1⟩,by rw[hpk i a (hdone i a hi)];exact h.2⟩
  simp only[aB,Gn.rR,dec_lt hb,cond_true,bM hb,ae,eta,q1]
  rcases i1 with i1 | ⟨i1,i1'⟩
  ·subst i1
   have hno:(done.map (·.aS)).find? (fun a=>gw n a b.aS&&bad a b.aS)=none:=by
    rw[List.find?_eq_none]
    intro q hq h
    obtain⟨a,ha,rfl⟩:=gS.1 hq
    obtain⟨i,hi⟩:=sa ha
    obtain⟨m1,m2⟩:=hfp i a hi h
    have:=(i3 _ m1 m2).1
    omega
   obtain⟨d'',g1⟩:=AG fu hf ho hnum hg hbd m8 m9 m10 m11 m12 todo (done++[b]) d' g (by rw[he];simp) (by simp at hm;omega) hSay
   refine⟨d'',?_⟩
   have dn:decide ((-1:Int)≥0)=false:=by decide
   rw[ak,cS] at g1
   simp only[dn,cond_false,hw]
   rw[g1]
   simp only[aJ,oi,hno,jC,iB]
  ·obtain⟨i,a,rfl,e2,e3⟩:=(hcm R).1 i1
   have hao:=hdone i a e2
   have hfd:(done.map (·.aS)).find? (fun a=>gw n a b.aS&&bad a b.aS)=some a.aS:=by
    refine J1 (i:=i) (by rw[ay,e2];rfl) (by rw[e3,←hpk i a hao,i1'];rfl) fun j y hj hy=>?_
    rw[ay] at hy
    obtain⟨a',hy2,rfl⟩:=av.1 hy
    cases hc:(gw n a'.aS b.aS&&bad a'.aS b.aS) with
    | false=>rfl
    | true=>
     obtain⟨m1,m2⟩:=hfp j a' hy2 hc
     have:=(i3 _ m1 m2).2
     omega
   refine⟨d',?_⟩
   have dn:decide ((i:Int)≥0)=true:=by simp
   simp only[dn,cond_true,bM hao,ae,aJ,oi,hfd]
end Go.DN.So
