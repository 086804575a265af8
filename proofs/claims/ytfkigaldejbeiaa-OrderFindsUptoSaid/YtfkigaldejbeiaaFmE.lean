/-
  Orders: the plain law of OrderFinds: order.search.
-/
import Derived.Test.YtfkigaldejbeiaaFmD
set_option linter.unusedSectionVars false
set_option linter.unusedSimpArgs false
set_option linter.unusedVariables false
namespace Go.DN.So
open Go.AM Go.DN
def clashQ (n:SNest) (a b:SSpot):Bool:=match ownQ n a,ownQ n b with
 | some p,some r=>(decide (p=r)&&!(addQ n a&&addQ n b))||(decide (p∈getQ n b)||decide (r∈getQ n a))
 | _,_=>false
def fndQ (n:SNest) (bad:SSpot→SSpot→Bool):List SSpot→List SSpot→Option (SSpot×SSpot)
 | _,[]=>none
 | done,q::r=>match done.find? (fun a=>clashQ n a q&&bad a q) with
  | some a=>some (a,q)
  | none=>fndQ n bad (done++[q]) r
theorem find_at {α:Type}{P:α→Bool}:∀{l:List α}{i:Nat}{x:α},l[i]?=some x→P x=true→(∀(j:Nat) (y:α),j<i→l[j]?=some y→P y=false)→l.find? P=some x
 | [],i,x,h,_,_=>by simp at h
 | y::l,0,x,h,hp,_=>by simp at h;subst h;rw[List.find?_cons,hp]
 | y::l,i+1,x,h,hp,hn=>by
  rw[List.find?_cons,hn 0 y (by omega) rfl]
  exact find_at (l:=l) (i:=i) (by simpa using h) hp fun j z hj hz=>hn (j+1) z (by omega) (by simpa using hz)
theorem best_spec (p:Int→Bool):∀(ks:List Int) (f:Int),(∀k∈ks,0≤k)→(f=-1∨0≤f)→
  ((ks.foldl (stepB p) f=f)∨(ks.foldl (stepB p) f∈ks∧p (ks.foldl (stepB p) f)=true))∧(0≤f→ks.foldl (stepB p) f≤f∧0≤ks.foldl (stepB p) f)∧∀k∈ks,p k=true→0≤ks.foldl (stepB p) f∧ks.foldl (stepB p) f≤k
 | [],f,_,hf=>⟨.inl rfl,fun h=>⟨Int.le_refl _,h⟩,fun k hk=>by cases hk⟩
 | k::r,f,hk,hf=>by
  have h0:=hk k List.mem_cons_self
  rw[List.foldl_cons]
  by_cases hs:(f<0∨k<f)∧p k=true
  ·have e:stepB p f k=k:=if_pos hs
   rw[e]
   obtain⟨i1,i2,i3⟩:=best_spec p r k (fun x hx=>hk x (List.mem_cons_of_mem _ hx)) (.inr h0)
   obtain⟨j1,j2⟩:=i2 h0
   refine⟨.inr ?_,fun h=>⟨by rcases hs.1 with h1 | h1 <;> omega,j2⟩,fun x hx hp=>?_⟩
   ·rcases i1 with i1 | ⟨i1,i1'⟩
    ·rw[i1];exact⟨List.mem_cons_self,hs.2⟩
    ·exact⟨List.mem_cons_of_mem _ i1,i1'⟩
   ·rcases List.mem_cons.1 hx with rfl | hx
    ·exact⟨j2,j1⟩
    ·exact i3 x hx hp
  ·have e:stepB p f k=f:=if_neg hs
   rw[e]
   obtain⟨i1,i2,i3⟩:=best_spec p r f (fun x hx=>hk x (List.mem_cons_of_mem _ hx)) hf
   refine⟨i1.imp id fun h=>⟨List.mem_cons_of_mem _ h.1,h.2⟩,i2,fun x hx hp=>?_⟩
   rcases List.mem_cons.1 hx with rfl | hx
   ·have hff:¬(f<0∨x<f):=fun h=>hs ⟨h,hp⟩
    obtain⟨j1,j2⟩:=i2 (by omega)
    exact⟨j2,by omega⟩
   ·exact i3 x hx hp
structure Say (n:SNest) (done:List Sspot) (d:MDat):Prop where
 wm:WM d
 lim:d.n≤12*done.length
 len:∀a b j,(rowsM d a b j).length≤4*done.length
 mem:∀a b j k,k∈rowsM d a b j↔∃(i:Nat) (s:Sspot),k=(i:Int)∧done[i]?=some s∧RelQ n j (a,b) s.Spot
theorem candB_mem {n:SNest}{done:List Sspot}{d:MDat}(h:Say n done d) (q:SSpot) (k:Int):k∈candB n d q↔∃(i:Nat) (s:Sspot),k=(i:Int)∧done[i]?=some s∧clashQ n s.Spot q=true:=by
 unfold candB
 cases hq:ownQ n q with
 | none=>
  refine⟨fun h=>by simp at h,fun ⟨i,s,_,_,h⟩=>?_⟩
  unfold clashQ at h
  rw[hq] at h
  split at h
  ·rename_i e;cases e
  ·cases h
 | some r=>
  obtain⟨r1,r2⟩:=r
  have hcl:∀s:SSpot,clashQ n s q=true↔RelQ n 0 (r1,r2) s∨RelQ n 2 (r1,r2) s∨(addQ n q=false∧RelQ n 1 (r1,r2) s)∨∃c∈getQ n q,RelQ n 0 c s∨RelQ n 1 c s:=by
   intro s
   unfold clashQ RelQ
   rw[hq]
   cases hs:ownQ n s with
   | none=>simp
   | some p=>
    simp only[Bool.or_eq_true,Bool.and_eq_true,decide_eq_true_eq,Bool.not_eq_true',Bool.and_eq_false_iff,Option.some.injEq,Option.isSome_some,true_and]
    constructor
    ·rintro(⟨rfl,h | h⟩ | h | h)
     ·exact .inl ⟨rfl,h⟩
     ·cases ha:addQ n s with
      | true=>exact .inr (.inr (.inl ⟨h,rfl,rfl⟩))
      | false=>exact .inl ⟨rfl,rfl⟩
     ·refine .inr (.inr (.inr ⟨p,h,?_⟩))
      cases ha:addQ n s with
      | true=>exact .inr ⟨rfl,rfl⟩
      | false=>exact .inl ⟨rfl,rfl⟩
     ·exact .inr (.inl h)
    ·rintro(⟨rfl,h⟩ | h | ⟨h,rfl,h2⟩ | ⟨c,hc,⟨rfl,_⟩ | ⟨rfl,_⟩⟩)
     ·exact .inl ⟨rfl,.inl h⟩
     ·exact .inr (.inr h)
     ·exact .inl ⟨rfl,.inr h⟩
     ·exact .inr (.inl hc)
     ·exact .inr (.inl hc)
  simp only[List.mem_append,candG,List.mem_flatMap,h.mem]
  constructor
  ·rintro(((⟨i,s,e1,e2,e3⟩ | ⟨i,s,e1,e2,e3⟩) | hx) | ⟨c,hc,(⟨i,s,e1,e2,e3⟩ | ⟨i,s,e1,e2,e3⟩)⟩)
   ·exact⟨i,s,e1,e2,(hcl _).2 (.inl e3)⟩
   ·exact⟨i,s,e1,e2,(hcl _).2 (.inr (.inl e3))⟩
   ·cases ha:addQ n q with
    | true=>rw[ha] at hx;cases hx
    | false=>
     rw[ha] at hx
     obtain⟨i,s,e1,e2,e3⟩:=(h.mem _ _ _ _).1 hx
     exact⟨i,s,e1,e2,(hcl _).2 (.inr (.inr (.inl ⟨ha,e3⟩)))⟩
   ·exact⟨i,s,e1,e2,(hcl _).2 (.inr (.inr (.inr ⟨c,hc,.inl e3⟩)))⟩
   ·exact⟨i,s,e1,e2,(hcl _).2 (.inr (.inr (.inr ⟨c,hc,.inr e3⟩)))⟩
  ·rintro⟨i,s,e1,e2,e3⟩
   rcases(hcl _).1 e3 with e3 | e3 | ⟨ha,e3⟩ | ⟨c,hc,e3 | e3⟩
   ·exact .inl (.inl (.inl ⟨i,s,e1,e2,e3⟩))
   ·exact .inl (.inl (.inr ⟨i,s,e1,e2,e3⟩))
   ·refine .inl (.inr ?_)
    rw[ha]
    exact(h.mem _ _ _ _).2 ⟨i,s,e1,e2,e3⟩
   ·exact .inr ⟨c,hc,.inl ⟨i,s,e1,e2,e3⟩⟩
   ·exact .inr ⟨c,hc,.inr ⟨i,s,e1,e2,e3⟩⟩
theorem Say.nil (n:SNest):Say n [] ⟨0,[],none⟩ where
 wm:={len:=(fun e he=>by cases he),inj:=(fun i i' j j' x e e' h=>by simp at h),lt:=(fun e he=>by cases he),nil:=(fun e he=>by cases he),pd:=rfl}
 lim:=Nat.le_refl _
 len:=fun a b j=>Nat.le_refl _
 mem:=fun a b j k=>⟨(fun h=>by cases h),fun ⟨i,s,_,h,_⟩=>by simp at h⟩
theorem search_loop {bd:Sspot→Sspot→Option Bool}(fu:Nat) (hf:100000<fu){n:SNest}{times:List (List SRow)}{o:List Sspot}(ho:o.length≤1024) (hnum:Num o) (hg:∀s∈o,GoodQ n times s.Spot){bad:SSpot→SSpot→Bool}(hbd:∀a∈o,∀b∈o,bd a b=some (bad a.Spot b.Spot)) (m8:Bool) (m9:Int) (m10:List Int) (m11:Int) (m12:List Int):
  ∀(todo done:List Sspot) (d:MDat) (fuel:Nat),o=done++todo→todo.length<fuel→Say n done d→
   ∃d',loopF (Gn.search_l1 bd fu n o) fuel ((done.length:Int),d,o,m8,m9,m10,m11,m12)=some (match fndQ n bad (done.map (·.Spot)) (todo.map (·.Spot)) with
    | some (a,b)=>.ret ((⟨true,a,b⟩:SFound),0)
    | none=>.brk (d',o,m8,m9,m10,m11,m12))
 | [],done,d,fuel,he,hm,hs=>by
  obtain⟨g,rfl⟩:∃g,fuel=g+1:=⟨fuel-1,by omega⟩
  rw[List.append_nil] at he
  subst he
  refine⟨d,?_⟩
  simp only[loopF,Gn.search_l1,dec_end,cond_false]
  rfl
 | b::todo,done,d,fuel,he,hm,hs=>by
  obtain⟨g,rfl⟩:∃g,fuel=g+1:=⟨fuel-1,by omega⟩
  have hb:o[done.length]?=some b:=by rw[he];simp
  have hdl:done.length<o.length:=get_lt hb
  have hbm:b∈o:=List.mem_of_getElem? hb
  have hw:=wrap_succ hdl (by omega)
  have hdone:∀(i:Nat) (s:Sspot),done[i]?=some s→o[i]?=some s:=fun i s hi=>by rw[he];exact app_at hi
  obtain⟨s,rows,h1,h2,h3,h4,h5,h6,h7⟩:=(hg b hbm).ex
  generalize hp:(fun k:Int=>match o[k.toNat]? with | some a=>bad a.Spot b.Spot | none=>false)=p
  have hpk:∀(i:Nat) (a:Sspot),o[i]?=some a→p (i:Int)=bad a.Spot b.Spot:=fun i a hi=>by
   rw[←hp]
   show(match o[((i:Nat):Int).toNat]? with | some a=>bad a.Spot b.Spot | none=>false)=_
   rw[Int.toNat_natCast,hi]
  have hseen:∀x c j,Seen bd b p o (rowsM d x c j):=fun x c j k hk=>by
   obtain⟨i,a,rfl,e2,_⟩:=(hs.mem x c j k).1 hk
   have e3:=hdone i a e2
   exact⟨a,idx_nat e3,by rw[hpk i a e3];exact hbd a (List.mem_of_getElem? e3) b hbm⟩
  obtain⟨d',q1,q2,q3,q4,q5⟩:=pairs_ok (bd:=bd) fu hf (n:=n) (b:=b) (s:=s) h1 (hg b hbm).pos h3 h4 h5 (L:=o) (p:=p) hs.wm (by have:=hs.lim;omega) (fun x c j=>by have:=hs.len x c j;omega) hseen
  have hSay:Say n (done++[b]) d':=by
   refine⟨q2,by have:=hs.lim;rw[List.length_append,List.length_singleton];omega,fun x c j=>by have:=q4 x c j;have:=hs.len x c j;rw[List.length_append,List.length_singleton];omega,fun x c j k=>?_⟩
   rw[q5,hs.mem,hnum _ b hb]
   constructor
   ·rintro(⟨i,s',e1,e2,e3⟩ | ⟨e1,e2⟩)
    ·exact⟨i,s',e1,app_at e2,e3⟩
    ·exact⟨done.length,b,e1,by simp,e2⟩
   ·rintro⟨i,s',e1,e2,e3⟩
    rcases snoc_at e2 with e2 | ⟨rfl,rfl⟩
    ·exact .inl ⟨i,s',e1,e2,e3⟩
    ·exact .inr ⟨e1,e3⟩
  have hcm:=candB_mem hs b.Spot
  obtain⟨i1,i2,i3⟩:=best_spec p (candB n d b.Spot) (-1) (fun k hk=>by obtain⟨i,_,rfl,_⟩:=(hcm k).1 hk;omega) (.inl rfl)
  generalize (candB n d b.Spot).foldl (stepB p) (-1)=R at q1 i1 i2 i3
  have eta:(⟨⟨b.Spot.Stmt,b.Spot.At⟩,b.number,b.time⟩:Sspot)=b:=rfl
  have hfp:∀(i:Nat) (a:Sspot),done[i]?=some a→(clashQ n a.Spot b.Spot&&bad a.Spot b.Spot)=true→(i:Int)∈candB n d b.Spot∧p (i:Int)=true:=fun i a hi h=>by
   simp only[Bool.and_eq_true] at h
   exact⟨(hcm _).2 ⟨i,a,rfl,hi,h.1⟩,by rw[hpk i a (hdone i a hi)];exact h.2⟩
  simp only[loopF,Gn.search_l1,dec_lt hb,cond_true,idx_nat hb,Option.bind_some,eta,q1]
  rcases i1 with i1 | ⟨i1,i1'⟩
  ·subst i1
   have hno:(done.map (·.Spot)).find? (fun a=>clashQ n a b.Spot&&bad a b.Spot)=none:=by
    rw[List.find?_eq_none]
    intro q hq h
    obtain⟨a,ha,rfl⟩:=List.mem_map.1 hq
    obtain⟨i,hi⟩:=mem_at ha
    obtain⟨m1,m2⟩:=hfp i a hi h
    have:=(i3 _ m1 m2).1
    omega
   obtain⟨d'',g1⟩:=search_loop fu hf ho hnum hg hbd m8 m9 m10 m11 m12 todo (done++[b]) d' g (by rw[he];simp) (by simp at hm;omega) hSay
   refine⟨d'',?_⟩
   have dn:decide ((-1:Int)≥0)=false:=by decide
   rw[List.length_append,List.length_singleton] at g1
   simp only[dn,cond_false,hw]
   rw[g1]
   simp only[List.map_cons,fndQ,hno,List.map_append,List.map_nil]
  ·obtain⟨i,a,rfl,e2,e3⟩:=(hcm R).1 i1
   have hao:=hdone i a e2
   have hfd:(done.map (·.Spot)).find? (fun a=>clashQ n a b.Spot&&bad a b.Spot)=some a.Spot:=by
    refine find_at (i:=i) (by rw[List.getElem?_map,e2];rfl) (by rw[e3,←hpk i a hao,i1'];rfl) fun j y hj hy=>?_
    rw[List.getElem?_map] at hy
    obtain⟨a',hy2,rfl⟩:=Option.map_eq_some_iff.1 hy
    cases hc:(clashQ n a'.Spot b.Spot&&bad a'.Spot b.Spot) with
    | false=>rfl
    | true=>
     obtain⟨m1,m2⟩:=hfp j a' hy2 hc
     have:=(i3 _ m1 m2).2
     omega
   refine⟨d',?_⟩
   have dn:decide ((i:Int)≥0)=true:=by simp
   simp only[dn,cond_true,idx_nat hao,Option.bind_some,List.map_cons,fndQ,hfd]
end Go.DN.So
