/-
  Nest: the plain law: one statement at one point.
-/
import Derived.Test.YtfkigaldejbeiaaOvC
set_option linter.unusedSectionVars false
set_option linter.unusedSimpArgs false
set_option linter.unusedVariables false
namespace Go.DN
open Go.AM
theorem rowW_zero {r:SRow}{v:Int}(h:rowW r v=0):(r.Coef.length:Int)=v∧(-1048576≤r.Const∧r.Const≤1048576)∧∀c∈r.Coef,-1048576≤c∧c≤1048576:=by
 unfold rowW at h
 split at h
 ·cases h
 ·rename_i hl
  split at h
  ·cases h
  ·rename_i hb
   simp only[Bool.or_eq_true,not_or,Bool.not_eq_true] at hb
   exact⟨by omega,badC_ran hb.1,fun c hc=>badC_ran (by have:=List.any_eq_false.1 hb.2 c hc;simpa using this)⟩
theorem Good.with {p:SPoints}(g:Good p){r:SRow}(h:rowW r p.Box.length=0):Good ⟨p.Box,[r]⟩:=by
 obtain⟨h1,h2,h3⟩:=rowW_zero h
 exact⟨g.len,g.box,g.prod,by simp,fun q hq=>by simp at hq;subst hq;exact⟨by simp only;omega,h2,h3⟩⟩
structure GoodA (n:SNest) (p:SPoints) (a:SAccess):Prop where
 lo:0≤a.Array
 hi:a.Array<n.Sizes.length
 row:rowW a.At p.Box.length=0
def Fits (n:SNest) (m:List (List Int)):Prop:=m.map (fun r=>(List.length r:Int))=n.Sizes
def rowM (m:List (List Int)) (a:SAccess):List Int:=m.getD a.Array.toNat []
def inM (m:List (List Int)) (a:SAccess) (x:List Int):Prop:=0≤atV a.At x∧atV a.At x<(rowM m a).length
instance (m:List (List Int)) (a:SAccess) (x:List Int):Decidable (inM m a x):=inferInstanceAs (Decidable (_∧_))
def getM (m:List (List Int)) (a:SAccess) (x:List Int):Int:=if inM m a x then(rowM m a).getD (atV a.At x).toNat 0 else 0
theorem Fits.len {n:SNest}{m:List (List Int)}(h:Fits n m):m.length=n.Sizes.length:=by
 have:=congrArg List.length h
 simpa using this
theorem Fits.get {n:SNest}{m:List (List Int)}(h:Fits n m){p:SPoints}{a:SAccess}(ga:GoodA n p a):m[a.Array.toNat]?=some (rowM m a)∧idx n.Sizes a.Array=some ((rowM m a).length:Int):=by
 have hl:=h.len
 have h0:=ga.lo
 have h1:=ga.hi
 have hlt:a.Array.toNat<m.length:=by omega
 have e1:m[a.Array.toNat]?=some (rowM m a):=by
  unfold rowM
  rw[List.getD_eq_getElem?_getD,List.getElem?_eq_getElem hlt];rfl
 refine⟨e1,?_⟩
 unfold idx
 rw[if_pos h0]
 have h:m.map (fun r=>(List.length r:Int))=n.Sizes:=h
 rw[←h,List.getElem?_map,e1];rfl
theorem setL_self {α:Type}{l:List α}{i:Nat}{x:α}(h:l[i]?=some x):l.set i x=l:=by
 apply List.ext_getElem?
 intro j
 rw[List.getElem?_set]
 split
 ·rename_i e
  subst e
  split
  ·exact h.symm
  ·rename_i hn
   rw[List.getElem?_eq_none (by omega)] at h;cases h
 ·rfl
theorem Fits.set {n:SNest}{m:List (List Int)}(h:Fits n m){p:SPoints}{a:SAccess}(ga:GoodA n p a) (j:Nat) (v:Int):Fits n (m.set a.Array.toNat ((rowM m a).set j v)):=by
 have h':m.map (fun r=>(List.length r:Int))=n.Sizes:=h
 show List.map _ _=_
 rw[List.map_set,List.length_set,h']
 obtain⟨_,h2⟩:=h.get ga
 unfold idx at h2
 rw[if_pos ga.lo] at h2
 exact setL_self h2
theorem place_ok (fu:Nat){n:SNest}{p:SPoints}(g:Good p){a:SAccess}(ga:GoodA n p a){x:List Int}(hx:Ran x) (hl:x.length=p.Box.length){m:List (List Int)}(hm:Fits n m) (hf:10<fu):
  F.nest_Memory_Place fu a x m=some (if inM m a x then(false,a.Array,atV a.At x,m) else(true,0,0,m)):=by
 obtain⟨e1,_⟩:=hm.get ga
 have e0:=at_ok fu (g.with ga.row) (r:=a.At) (by simp) hx hl hf
 have c0:=chk_pos (p:=(0:Int)≤a.Array∧a.Array<(m.length:Int)) ⟨ga.lo,by have:=ga.hi;have:=hm.len;omega⟩
 have et:((a.Array.toNat:Nat):Int)=a.Array:=by have:=ga.lo;omega
 unfold F.nest_Memory_Place
 simp only[e0,Option.bind_some,c0,e1]
 by_cases h0:atV a.At x<0
 ·have hn:¬inM m a x:=fun h=>by have:=h.1;omega
  have d:decide (atV a.At x<0)=true:=by simpa using h0
  simp only[d,cond_true,Option.bind_some,if_neg hn]
 ·have d:decide (atV a.At x<0)=false:=by simpa using h0
  simp only[d,cond_false,Option.bind_some]
  by_cases h1:atV a.At x<(rowM m a).length
  ·have hn:inM m a x:=⟨by omega,h1⟩
   have d:decide (atV a.At x≥((List.length (rowM m a):Nat):Int))=false:=by simp;omega
   have c1:=chk_pos (p:=(0:Int)≤atV a.At x∧atV a.At x<((List.length (rowM m a):Nat):Int)) ⟨by omega,h1⟩
   have e2:(((atV a.At x).toNat:Nat):Int)=atV a.At x:=by omega
   simp only[d,cond_false,c1,Option.bind_some,if_pos hn,et,e2]
  ·have hn:¬inM m a x:=fun h=>h1 h.2
   have d:decide (atV a.At x≥((List.length (rowM m a):Nat):Int))=true:=by simp;omega
   simp only[d,cond_true,if_neg hn]
theorem get_ok (fu:Nat){n:SNest}{p:SPoints}(g:Good p){a:SAccess}(ga:GoodA n p a){x:List Int}(hx:Ran x) (hl:x.length=p.Box.length){m:List (List Int)}(hm:Fits n m) (hf:10<fu):
  F.nest_Memory_get fu a x m=some (getM m a x,m):=by
 obtain⟨e1,_⟩:=hm.get ga
 unfold F.nest_Memory_get
 rw[place_ok fu g ga hx hl hm hf,Option.bind_some]
 unfold getM
 by_cases hn:inM m a x
 ·simp only[if_pos hn]
  have c1:∀[Decidable True],chk True=some ():=chk_pos trivial
  have e2:(rowM m a)[(atV a.At x).toNat]?=some ((rowM m a).getD (atV a.At x).toNat 0):=getD_of (by have:=hn.1;have:=hn.2;omega)
  simp only[Nat.beq_refl,cond_true,Bool.not_false,c1,Option.bind_some,e1,e2]
 ·simp only[if_neg hn,Nat.beq_refl,cond_true,Bool.not_true,cond_false]
def getsW (d:Int):Int:=if d=1 then 0 else if d=2∨d=9 then 1 else if d=3∨d=4∨d=5∨d=6∨d=7∨d=10 then 2 else if d=8 then 3 else -1
structure GoodS (n:SNest) (s:SStmt):Prop where
 bad:wrongP s.Over=0
 over:Good s.Over
 gets:getsW s.Do=s.Get.length
 put:GoodA n s.Over s.Put
 get:∀a∈s.Get,GoodA n s.Over a
def numV (s:SStmt) (v:List Int) (was:Int):Int:=
 if s.Do=1 then s.Value else if s.Do=2 then v.getD 0 0 else if s.Do=3 then IntKind.i64.wrap (v.getD 0 0+v.getD 1 0) else if s.Do=4 then IntKind.i64.wrap (v.getD 0 0-v.getD 1 0)
 else if s.Do=5 then IntKind.i64.wrap (v.getD 0 0*v.getD 1 0) else if s.Do=6 then(if v.getD 1 0>v.getD 0 0 then v.getD 1 0 else v.getD 0 0) else if s.Do=7 then(if v.getD 0 0<v.getD 1 0 then 1 else 0)
 else if s.Do=8 then(if v.getD 0 0≠0 then v.getD 1 0 else v.getD 2 0) else if s.Do=9 then IntKind.i64.wrap (was+v.getD 0 0) else IntKind.i64.wrap (was+IntKind.i64.wrap (v.getD 0 0*v.getD 1 0))
def doM (s:SStmt) (x:List Int) (m:List (List Int)):List (List Int):=
 if inM m s.Put x then m.set s.Put.Array.toNat ((rowM m s.Put).set (atV s.Put.At x).toNat (numV s (s.Get.map fun a=>getM m a x) ((rowM m s.Put).getD (atV s.Put.At x).toNat 0))) else m
theorem doM_fits {n:SNest}{s:SStmt}(g:GoodS n s) (x:List Int){m:List (List Int)}(hm:Fits n m):Fits n (doM s x m):=by
 unfold doM
 split
 ·exact hm.set g.put _ _
 ·exact hm
theorem vals_ok (fu:Nat){n:SNest}{s:SStmt}(g:GoodS n s){x:List Int}(hx:Ran x) (hl:x.length=s.Over.Box.length){m:List (List Int)}(hm:Fits n m) (hf:20<fu):
  loopF (F.nest_Memory_Do_l1 fu s x) fu (0,m,[0,0,0])=some (m,(s.Get.map fun a=>getM m a x)++List.replicate (3-s.Get.length) 0):=by
 have h3:s.Get.length≤3:=by
  have:=g.gets
  unfold getsW at this
  split at this
  ·omega
  ·split at this
   ·omega
   ·split at this
    ·omega
    ·split at this <;> omega
 have hget:∀a∈s.Get,F.nest_Memory_get fu a x m=some (getM m a x,m):=fun a ha=>get_ok fu g.over (g.get a ha) hx hl hm (by omega)
 have hbl:Nat.beq (List.length m) (List.length m)=true:=Nat.beq_refl _
 have w0:IntKind.i64.wrap 1=1:=by decide
 have w1:IntKind.i64.wrap 2=2:=by decide
 have w2:IntKind.i64.wrap 3=3:=by decide
 have key:∀f,loopF (F.nest_Memory_Do_l1 fu s x) (f+5) (0,m,[0,0,0])=some (m,(s.Get.map fun a=>getM m a x)++List.replicate (3-s.Get.length) 0):=by
  intro f
  generalize hG:s.Get=G at h3 hget
  match G,h3 with
  | [],_=>simp[loopF,F.nest_Memory_Do_l1,hG,List.replicate]
  | [a],_=>
   have ha:=hget a (by simp)
   simp[loopF,F.nest_Memory_Do_l1,hG,idx,ha,hbl,w0,List.replicate]
  | [a,b],_=>
   have ha:=hget a (by simp)
   have hb:=hget b (by simp)
   simp[loopF,F.nest_Memory_Do_l1,hG,idx,ha,hb,hbl,w0,w1,List.replicate]
  | [a,b,c],_=>
   have ha:=hget a (by simp)
   have hb:=hget b (by simp)
   have hc:=hget c (by simp)
   simp[loopF,F.nest_Memory_Do_l1,hG,idx,ha,hb,hc,hbl,w0,w1,w2]
  | _::_::_::_::_,h=>simp at h
 have:=key (fu-5)
 rwa[show fu-5+5=fu by omega] at this
theorem getsW_cases {d:Int}{k:Nat}(h:getsW d=k):(d=1∧k=0)∨(d=2∧k=1)∨(d=9∧k=1)∨(d=3∧k=2)∨(d=4∧k=2)∨(d=5∧k=2)∨(d=6∧k=2)∨(d=7∧k=2)∨(d=10∧k=2)∨(d=8∧k=3):=by
 unfold getsW at h
 split at h
 ·omega
 ·split at h
  ·omega
  ·split at h
   ·omega
   ·split at h <;> omega
theorem nestDo_ok (fu:Nat){n:SNest}{s:SStmt}(g:GoodS n s){x:List Int}(hx:Ran x) (hl:x.length=s.Over.Box.length){m:List (List Int)}(hm:Fits n m) (hf:20<fu):
  F.nest_Memory_Do fu s x m=some (doM s x m):=by
 obtain⟨e1,_⟩:=hm.get g.put
 have hrep:List.replicate (Int.toNat 3) (0:Int)=[0,0,0]:=rfl
 unfold F.nest_Memory_Do doM
 rw[chk_pos]
 rotate_left
 ·omega
 rw[Option.bind_some,hrep,vals_ok fu g hx hl hm hf,Option.bind_some]
 dsimp only
 rw[place_ok fu g.over g.put hx hl hm (by omega),Option.bind_some]
 have c1:∀[Decidable True],chk True=some ():=chk_pos trivial
 by_cases hn:inM m s.Put x
 ·have hj:(atV s.Put.At x).toNat<(rowM m s.Put).length:=by have:=hn.1;have:=hn.2;omega
  have c2:=chk_pos hj
  have e2:(rowM m s.Put)[(atV s.Put.At x).toNat]?=some ((rowM m s.Put).getD (atV s.Put.At x).toNat 0):=getD_of hj
  have hi:s.Put.Array.toNat<m.length:=(List.getElem?_eq_some_iff.1 e1).1
  simp only[if_pos hn,Nat.beq_refl,cond_true,cond_false]
  generalize hV:s.Get.map (fun a=>getM m a x)=V
  have hVl:V.length=s.Get.length:=by rw[←hV,List.length_map]
  generalize (rowM m s.Put).getD (atV s.Put.At x).toNat 0=was at e2⊢
  generalize atV s.Put.At x=w at *
  rcases getsW_cases g.gets with h | h | h | h | h | h | h | h | h | h <;> obtain⟨hd,hk⟩:=h <;> rw[hk] at hVl
  ·obtain rfl:=List.eq_nil_of_length_eq_zero hVl
   simp[hd,c1,e1,c2,numV]
  ·match V,hVl with
   | [a],_=>simp[hd,c1,e1,e2,c2,numV,idx]
  ·match V,hVl with
   | [a],_=>simp[hd,c1,e1,e2,c2,numV,idx]
  ·match V,hVl with
   | [a,b],_=>simp[hd,c1,e1,e2,c2,numV,idx]
  ·match V,hVl with
   | [a,b],_=>simp[hd,c1,e1,e2,c2,numV,idx]
  ·match V,hVl with
   | [a,b],_=>simp[hd,c1,e1,e2,c2,numV,idx]
  ·match V,hVl with
   | [a,b],_=>simp[hd,c1,e1,e2,c2,numV,idx]
  ·match V,hVl with
   | [a,b],_=>
    have c3:∀v:Int,chk (w.toNat<((rowM m s.Put).set w.toNat v).length)=some ():=fun v=>chk_pos (by rw[List.length_set];exact hj)
    have e3:∀v:Int,(m.set s.Put.Array.toNat ((rowM m s.Put).set w.toNat v))[s.Put.Array.toNat]?=some ((rowM m s.Put).set w.toNat v):=fun v=>List.getElem?_set_self hi
    by_cases hab:a<b
    ·simp[hd,c1,e1,c2,numV,idx,hab,e3,hj,chk_pos]
    ·simp[hd,c1,e1,c2,numV,idx,hab]
  ·match V,hVl with
   | [a,b],_=>simp[hd,c1,e1,e2,c2,numV,idx]
  ·match V,hVl with
   | [a,b,c],_=>
    have e3:∀v:Int,(m.set s.Put.Array.toNat ((rowM m s.Put).set w.toNat v))[s.Put.Array.toNat]?=some ((rowM m s.Put).set w.toNat v):=fun v=>List.getElem?_set_self hi
    by_cases hab:a=0
    ·simp[hd,c1,e1,c2,numV,idx,hab]
    ·have hb:(a !=0)=true:=by simpa using hab
     simp[hd,c1,e1,c2,numV,idx,hab,hb,e3,hj,chk_pos]
 ·simp only[if_neg hn,Nat.beq_refl,cond_true]
theorem where_ok (fu:Nat){n:SNest}{p:SPoints}(g:Good p){a:SAccess}(ga:GoodA n p a){x:List Int}(hx:Ran x) (hl:x.length=p.Box.length){m:List (List Int)}(hm:Fits n m) (hf:10<fu):
  F.adjointref10_Where fu n a x=some (if inM m a x then atV a.At x else -1):=by
 obtain⟨_,e1⟩:=hm.get ga
 have e0:=refAt_ok fu (g.with ga.row) (r:=a.At) (by simp) hx hl hf
 unfold F.adjointref10_Where
 simp only[e0,Option.bind_some,e1]
 by_cases h0:atV a.At x<0
 ·have hn:¬inM m a x:=fun h=>by have:=h.1;omega
  have d:decide (atV a.At x<0)=true:=by simpa using h0
  simp only[d,cond_true,Option.bind_some,if_neg hn]
 ·have d:decide (atV a.At x<0)=false:=by simpa using h0
  simp only[d,cond_false,Option.bind_some]
  by_cases h1:atV a.At x<(rowM m a).length
  ·have hn:inM m a x:=⟨by omega,h1⟩
   have d:decide (atV a.At x≥((rowM m a).length:Int))=false:=by simp;omega
   simp only[d,cond_false,if_pos hn]
  ·have hn:¬inM m a x:=fun h=>h1 h.2
   have d:decide (atV a.At x≥((rowM m a).length:Int))=true:=by simp;omega
   simp only[d,cond_true,if_neg hn]
theorem GoodS.le {n:SNest}{s:SStmt}(g:GoodS n s):s.Get.length≤3:=by
 rcases getsW_cases g.gets with h | h | h | h | h | h | h | h | h | h <;> omega
theorem refVals_ok (fu:Nat){n:SNest}{s:SStmt}(g:GoodS n s){x:List Int}(hx:Ran x) (hl:x.length=s.Over.Box.length){m:List (List Int)}(hm:Fits n m) (hf:20<fu):
  loopF (F.adjointref10_Do_l1 fu n s x m) fu (0,[])=some (s.Get.map fun a=>getM m a x):=by
 have h3:=g.le
 have hmap:(s.Get.flatMap fun a=>[getM m a x])=s.Get.map fun a=>getM m a x:=by rw[List.map_eq_flatMap]
 have:=acc_loop (body:=F.adjointref10_Do_l1 fu n s x m) s.Get (fun out i=>(i,out)) (fun a=>[getM m a x]) (fun out=>out) 3 [] (by rw[hmap];simpa using h3)
  (fun k a out ha hout=>by
   have hw:=wrap_succ (get_lt ha) (by omega)
   have ga:=g.get a (List.mem_of_getElem? ha)
   obtain⟨e1,_⟩:=hm.get ga
   have c0:=chk_pos (p:=(0:Int)≤a.Array∧a.Array<(m.length:Int)) ⟨ga.lo,by have:=ga.hi;have:=hm.len;omega⟩
   have hc:∀v:Int,chk (List.length out+List.length [v]≤maxLen∧(List.length out+List.length [v])*8≤140737488355328)=some ():=fun v=>chk_pos (by simp only[List.length_singleton,maxLen] at *;omega)
   simp only[F.adjointref10_Do_l1,dec_lt ha,cond_true,idx_nat ha,Option.bind_some,hw,where_ok fu g.over ga hx hl hm (by omega)]
   unfold getM
   by_cases hn:inM m a x
   ·simp only[if_pos hn]
    have d:decide (atV a.At x<0)=false:=by have:=hn.1;simp;omega
    have c1:=chk_pos (p:=(0:Int)≤atV a.At x∧atV a.At x<((List.length (rowM m a):Nat):Int)) hn
    have e2:(rowM m a)[(atV a.At x).toNat]?=some ((rowM m a).getD (atV a.At x).toNat 0):=getD_of (by have:=hn.1;have:=hn.2;omega)
    simp only[d,cond_false,c0,c1,e1,e2,Option.bind_some,hc]
   ·simp only[if_neg hn]
    have d:decide ((-1:Int)<0)=true:=by decide
    have hc0:chk (List.length out+List.length [(0:Nat)]≤maxLen∧(List.length out+List.length [(0:Nat)])*8≤140737488355328)=some ():=chk_pos (by simp only[List.length_singleton,maxLen] at *;omega)
    simp only[d,cond_true,hc0,Option.bind_some])
  (fun out=>by simp only[F.adjointref10_Do_l1,dec_end,cond_false]) fu (by omega)
 rw[this,List.nil_append,hmap]
theorem number_ok (fu:Nat){n:SNest}{s:SStmt}(g:GoodS n s) (V:List Int) (hV:V.length=s.Get.length) (was:Int):F.adjointref10_Number fu s V was=some (numV s V was):=by
 unfold F.adjointref10_Number
 rcases getsW_cases g.gets with h | h | h | h | h | h | h | h | h | h <;> obtain⟨hd,hk⟩:=h <;> rw[hk] at hV
 ·simp[hd,numV]
 ·match V,hV with
  | [a],_=>simp[hd,numV,idx]
 ·match V,hV with
  | [a],_=>simp[hd,numV,idx]
 ·match V,hV with
  | [a,b],_=>simp[hd,numV,idx]
 ·match V,hV with
  | [a,b],_=>simp[hd,numV,idx]
 ·match V,hV with
  | [a,b],_=>simp[hd,numV,idx]
 ·match V,hV with
  | [a,b],_=>
   rcases Int.lt_trichotomy a b with hab | hab | hab
   ·have:¬a>b:=by omega
    simp[hd,numV,idx,hab,this]
   ·subst hab;simp[hd,numV,idx]
   ·have:¬b>a:=by omega
    simp[hd,numV,idx,hab,this]
 ·match V,hV with
  | [a,b],_=>
   by_cases hab:a<b
   ·simp[hd,numV,idx,hab]
   ·simp[hd,numV,idx,hab]
 ·match V,hV with
  | [a,b],_=>simp[hd,numV,idx]
 ·match V,hV with
  | [a,b,c],_=>
   by_cases hab:a=0
   ·simp[hd,numV,idx,hab]
   ·have hb:(a !=0)=true:=by simpa using hab
    simp[hd,numV,idx,hab,hb]
theorem refDo_ok (fu:Nat){n:SNest}{s:SStmt}(g:GoodS n s){x:List Int}(hx:Ran x) (hl:x.length=s.Over.Box.length){m:List (List Int)}(hm:Fits n m) (hf:20<fu):
  F.adjointref10_Do fu n s x m=some (doM s x m):=by
 obtain⟨e1,_⟩:=hm.get g.put
 have c0:=chk_pos (p:=(0:Int)≤s.Put.Array∧s.Put.Array<(m.length:Int)) ⟨g.put.lo,by have:=g.put.hi;have:=hm.len;omega⟩
 unfold F.adjointref10_Do doM
 rw[where_ok fu g.over g.put hx hl hm (by omega),Option.bind_some]
 by_cases hn:inM m s.Put x
 ·simp only[if_pos hn]
  have d:decide (atV s.Put.At x<0)=false:=by have:=hn.1;simp;omega
  have c1:=chk_pos (p:=(0:Int)≤atV s.Put.At x∧atV s.Put.At x<((List.length (rowM m s.Put):Nat):Int)) hn
  have hj:(atV s.Put.At x).toNat<(rowM m s.Put).length:=by have:=hn.1;have:=hn.2;omega
  have c2:=chk_pos hj
  have e2:(rowM m s.Put)[(atV s.Put.At x).toNat]?=some ((rowM m s.Put).getD (atV s.Put.At x).toNat 0):=getD_of hj
  have hnum:=number_ok fu g (s.Get.map fun a=>getM m a x) (by rw[List.length_map]) ((rowM m s.Put).getD (atV s.Put.At x).toNat 0)
  have hs:(⟨(⟨s.Over.Box,s.Over.Rows⟩:SPoints),s.Do,s.Value,(⟨s.Put.Array,(⟨s.Put.At.Coef,s.Put.At.Const⟩:SRow)⟩:SAccess),s.Get⟩:SStmt)=s:=rfl
  simp only[d,cond_false,refVals_ok fu g hx hl hm hf,Option.bind_some,c0,e1,c1,e2,hs,hnum,c2,amb_self]
 ·simp only[if_neg hn]
  have d:decide ((-1:Int)<0)=true:=by decide
  simp only[d,cond_true]
end Go.DN
