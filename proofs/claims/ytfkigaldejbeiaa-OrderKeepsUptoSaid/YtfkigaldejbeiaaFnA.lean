/-
  Orders: without the document's answer: what a spot does to memory; two that are not in each other's way change places.
-/
import Derived.Test.YtfkigaldejbeiaaFmG
set_option linter.unusedSectionVars false
set_option linter.unusedSimpArgs false
set_option linter.unusedVariables false
namespace Go.DN.So
open Go.AM Go.DN
theorem O3 (n:Int):∃k,IntKind.i64.wrap n=n+18446744073709551616*k:=by
 rw[IntKind.wrap_i64]
 exact⟨-((n+9223372036854775808)/18446744073709551616),by omega⟩
theorem MZ {m n k:Int}(h:m=n+18446744073709551616*k):IntKind.i64.wrap m=IntKind.i64.wrap n:=by
 rw[IntKind.wrap_i64,IntKind.wrap_i64];omega
theorem K6 (x y:Int):IntKind.i64.wrap (IntKind.i64.wrap x+y)=IntKind.i64.wrap (x+y):=by
 obtain⟨k,h⟩:=O3 x
 exact MZ (k:=k) (by rw[h];omega)
def wW (m:List (List Int)) (c:Int×Int):Int:=(m.getD c.1.toNat []).getD c.2.toNat 0
def lC (m:List (List Int)) (c:Int×Int) (v:Int):List (List Int):=m.set c.1.toNat ((m.getD c.1.toNat []).set c.2.toNat v)
structure Jq (n:aP) (c:Int×Int):Prop where
 lo:0≤c.1
 hi:c.1<n.cA.length
 L6:0≤c.2
 lm:c.2<n.cA.getD c.1.toNat 0
theorem zm {n:aP}{p:bp}{a:bF}(ga:qd n p a){x:List Int}{c:Int×Int}(h:jD n a x=some c):Jq n c:=by
 unfold jD at h
 split at h
 ·rename_i h'
  cases h
  exact⟨ga.lo,ga.hi,h'.1,h'.2⟩
 ·cases h
theorem A4 {n:aP}{m:List (List Int)}(h:Fits n m){k:Nat}(hk:k<n.cA.length):m[k]?=some (m.getD k [])∧((m.getD k []).length:Int)=n.cA.getD k 0:=by
 have hl:=h.len
 have h1:m[k]?=some m[k]:=ag (by omega)
 have h2:m.getD k []=m[k]:=by rw[aL,h1];rfl
 have h3:n.cA[k]?=some n.cA[k]:=ag hk
 refine⟨by rw[h2];exact h1,?_⟩
 rw[h2,aL,h3]
 exact(oH hl).1 h k _ _ h1 h3
theorem toNat_ne {a b:Int}(ha:0≤a) (hb:0≤b) (h:a≠b):a.toNat≠b.toNat:=by omega
theorem vj {m:List (List Int)}{k j:Nat}{r:List Int}(hk:k<m.length):(m.set k r).getD j []=if k=j then r else m.getD j []:=by
 rw[aL,aL]
 by_cases h:k=j
 ·subst h;rw[cD hk,if_pos rfl];rfl
 ·rw[eC h,if_neg h]
theorem wT {n:aP}{m:List (List Int)}(hm:Fits n m){c d:Int×Int}(hc:Jq n c) (hd:Jq n d) (h:c≠d) (v:Int):wW (lC m c v) d=wW m d:=by
 have hl:=hm.len
 have hk:c.1.toNat<m.length:=by have:=hc.lo;have:=hc.hi;omega
 unfold wW lC
 rw[vj hk]
 split
 ·rename_i e
  have e1:c.1=d.1:=by have:=hc.lo;have:=hd.lo;omega
  have e2:c.2≠d.2:=fun e2=>h (Prod.ext e1 e2)
  rw[aL,eC (toNat_ne hc.L6 hd.L6 e2),←aL,e]
 ·rfl
theorem Ck {n:aP}{m:List (List Int)}(hm:Fits n m){c:Int×Int}(hc:Jq n c) (v:Int):wW (lC m c v) c=v:=by
 have hl:=hm.len
 have hk:c.1.toNat<m.length:=by have:=hc.lo;have:=hc.hi;omega
 obtain⟨r1,r2⟩:=A4 hm (k:=c.1.toNat) (by have:=hc.lo;have:=hc.hi;omega)
 unfold wW lC
 rw[vj hk,if_pos rfl,aL,cD (by have:=hc.L6;have:=hc.lm;omega)];rfl
theorem BO (m:List (List Int)) (c:Int×Int) (hk:c.1.toNat<m.length) (u v:Int):lC (lC m c u) c v=lC m c v:=by
 unfold lC
 rw[vj hk,if_pos rfl,List.set_set,List.set_set]
theorem set_comm {m:List (List Int)}{c d:Int×Int}(h:c≠d) (c1:0≤c.1) (c2:0≤c.2) (d1:0≤d.1) (d2:0≤d.2) (hk:c.1.toNat<m.length) (hk':d.1.toNat<m.length) (u v:Int):lC (lC m c u) d v=lC (lC m d v) c u:=by
 unfold lC
 rw[vj hk,vj hk']
 by_cases e:c.1.toNat=d.1.toNat
 ·have e1:c.1=d.1:=by omega
  have e2:c.2≠d.2:=fun e2=>h (Prod.ext e1 e2)
  rw[if_pos e,if_pos e.symm,e,List.set_set,List.set_set,List.set_comm _ _ (toNat_ne c2 d2 e2)]
 ·rw[if_neg e,if_neg (fun e'=>e e'.symm),List.set_comm _ _ e]
def u0 (n:aP) (q:bE) (m:List (List Int)) (a:bF):Int:=match jD n a q.At with | some c=>wW m c | none=>0
def iI (n:aP) (q:bE) (m:List (List Int)):List (List Int):=match pi n q with
 | some s=>match jD n s.cf q.At with
  | some c=>lC m c (lI s (s.c9.map (u0 n q m)) (wW m c))
  | none=>m
 | none=>m
theorem I1 {n:aP}{p:bp}{a:bF}(ga:qd n p a){m:List (List Int)}(hm:Fits n m) (x:List Int):jD n a x=if rG m a x then some (a.Array,ei a.At x) else none:=by
 have h1:=(A4 hm (k:=a.Array.toNat) (by have:=ga.lo;have:=ga.hi;omega)).2
 have h2:rG m a x↔0≤ei a.At x∧ei a.At x<n.cA.getD a.Array.toNat 0:=by unfold rG gv;rw[h1]
 unfold jD
 by_cases h:rG m a x
 ·rw[if_pos h,if_pos (h2.1 h)]
 ·rw[if_neg h,if_neg (fun h'=>h (h2.2 h'))]
theorem HF {n:aP}{times:List (List aS)}{q:bE}{s:dh}(hs:pi n q=some s) (gs:iD n s){m:List (List Int)}(hm:Fits n m):uN s q.At m=iI n q m:=by
 unfold iI uN
 rw[hs]
 dsimp only
 rw[I1 gs.put hm]
 have hv:(s.c9.map fun a=>getM m a q.At)=s.c9.map (u0 n q m):=ez fun a ha=>by
  unfold getM u0
  rw[I1 (gs.get a ha) hm]
  split <;> rfl
 rw[hv]
 split <;> rfl
structure qc (n:aP) (q:bE):Prop where
 ex:∃s,pi n q=some s∧iD n s
theorem xA.r {n:aP}{times:List (List aS)}{q:bE}(g:xA n times q):qc n q:=by
 obtain⟨s,rows,h1,_,h3,_⟩:=g.ex
 exact⟨s,h1,h3⟩
theorem Lr {n:aP}{m:List (List Int)}(hm:Fits n m){c:Int×Int}(hc:Jq n c) (v:Int):Fits n (lC m c v):=by
 have hl:=hm.len
 have hk:c.1.toNat<n.cA.length:=by have:=hc.lo;have:=hc.hi;omega
 obtain⟨r1,r2⟩:=A4 hm hk
 unfold lC
 refine(oH (by rw[de];exact hl)).2 fun k r z h1 h2=>?_
 by_cases e:c.1.toNat=k
 ·subst e
  rw[cD (by omega)] at h1
  cases h1
  rw[de]
  exact(oH hl).1 hm _ _ _ r1 h2
 ·rw[eC e] at h1
  exact(oH hl).1 hm k r z h1 h2
theorem rz {n:aP}{q:bE}(g:qc n q){m:List (List Int)}(hm:Fits n m):Fits n (iI n q m):=by
 obtain⟨s,hs,gs⟩:=g.ex
 unfold iI
 rw[hs]
 dsimp only
 cases hp:jD n s.cf q.At with
 | none=>exact hm
 | some c=>exact Lr hm (zm gs.put hp) _
theorem num_add {n:aP}{q:bE}{s:dh}(hs:pi n q=some s) (ha:nZ n q=true) (v:List Int):∃k:Int,∀was,lI s v was=IntKind.i64.wrap (was+k):=by
 unfold nZ at ha
 rw[hs] at ha
 simp only[dC,beq_iff_eq] at ha
 rcases ha with h | h
 ·exact⟨v.getD 0 0,fun was=>by unfold lI;simp[h]⟩
 ·exact⟨IntKind.i64.wrap (v.getD 0 0*v.getD 1 0),fun was=>by unfold lI;simp[h]⟩
theorem DV {n:aP}{q:bE}{s:dh}(hs:pi n q=some s) (gs:iD n s){m:List (List Int)}(hm:Fits n m){c:Int×Int}(hc:Jq n c) (h:c∉nV n q) (v:Int):s.c9.map (u0 n q (lC m c v))=s.c9.map (u0 n q m):=by
 refine ez fun a ha=>?_
 unfold u0
 cases hp:jD n a q.At with
 | none=>rfl
 | some d=>
  have hne:c≠d:=fun e=>h (by
   unfold nV
   rw[hs]
   exact List.mem_filterMap.2 ⟨a,ha,by rw[hp,e]⟩)
  exact wT hm hc (zm (gs.get a ha) hp) hne v
theorem Nc {n:aP}{a b:bE}(ga:qc n a) (gb:qc n b) (h:gN n a b=false){m:List (List Int)}(hm:Fits n m):iI n b (iI n a m)=iI n a (iI n b m):=by
 obtain⟨s,hs,gs⟩:=ga.ex
 obtain⟨t,ht,gt⟩:=gb.ex
 have hao:pA n a=jD n s.cf a.At:=by unfold pA;rw[hs]
 have hbo:pA n b=jD n t.cf b.At:=by unfold pA;rw[ht]
 have ra:∀m,iI n a m=match jD n s.cf a.At with | some c=>lC m c (lI s (s.c9.map (u0 n a m)) (wW m c)) | none=>m:=fun m=>by unfold iI;rw[hs]
 have rb:∀m,iI n b m=match jD n t.cf b.At with | some c=>lC m c (lI t (t.c9.map (u0 n b m)) (wW m c)) | none=>m:=fun m=>by unfold iI;rw[ht]
 unfold gN at h
 rw[hao,hbo] at h
 cases hp:jD n s.cf a.At with
 | none=>
  have:∀m,iI n a m=m:=fun m=>by rw[ra,hp]
  rw[this,this]
 | some c=>
  cases hr:jD n t.cf b.At with
  | none=>
   have:∀m,iI n b m=m:=fun m=>by rw[rb,hr]
   rw[this,this]
  | some d=>
   rw[hp,hr] at h
   simp only[bD,Bool.and_eq_false_iff,decide_eq_false_iff_not,Bool.not_eq_false'] at h
   obtain⟨h1,h2,h3⟩:=h
   have pc:=zm gs.put hp
   have pd:=zm gt.put hr
   have hl:=hm.len
   have kc:c.1.toNat<m.length:=by have:=pc.lo;have:=pc.hi;omega
   have kd:d.1.toNat<m.length:=by have:=pd.lo;have:=pd.hi;omega
   rw[ra m,rb m,hp,hr]
   dsimp only
   rw[rb,ra,hp,hr]
   dsimp only
   rw[DV ht gt hm pc h2,DV hs gs hm pd h3]
   by_cases e:c=d
   ·have hb:=h1.resolve_left (fun h=>h e)
    simp only[ai] at hb
    subst e
    obtain⟨k1,hk1⟩:=num_add hs hb.1 (s.c9.map (u0 n a m))
    obtain⟨k2,hk2⟩:=num_add ht hb.2 (t.c9.map (u0 n b m))
    rw[Ck hm pc,Ck hm pc,BO _ _ kc,BO _ _ kc,hk1,hk2,hk1,hk2,K6,K6]
    congr 2
    omega
   ·rw[wT hm pc pd e,wT hm pd pc (fun e'=>e e'.symm)]
    exact set_comm e pc.lo pc.L6 pd.lo pd.L6 kc kd _ _
end Go.DN.So
