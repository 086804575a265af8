/-
  Orders: without the document's answer: what a spot does to memory; two that are not in each other's way change places.
-/
import Derived.Test.YtfkigaldejbeiaaFmG
set_option linter.unusedSimpArgs false
set_option linter.unusedVariables false
namespace Go.DN.So
open Go.AM Go.DN
theorem PU (n:Int):∃k,IntKind.i64.wrap n=n+18446744073709551616*k:=by
 rw[IntKind.wrap_i64]
 exact⟨-((n+9223372036854775808)/18446744073709551616),by omega⟩
theorem NR {m n k:Int}(h:m=n+18446744073709551616*k):IntKind.i64.wrap m=IntKind.i64.wrap n:=by
 rw[IntKind.wrap_i64,IntKind.wrap_i64];omega
theorem L1 (x y:Int):IntKind.i64.wrap (IntKind.i64.wrap x+y)=IntKind.i64.wrap (x+y):=by
 obtain⟨k,h⟩:=PU x
 exact NR (k:=k) (by rw[h];omega)
def xA (m:List (List Int)) (c:Int×Int):Int:=(m.getD c.1.toNat []).getD c.2.toNat 0
def lJ (m:List (List Int)) (c:Int×Int) (v:Int):List (List Int):=m.set c.1.toNat ((m.getD c.1.toNat []).set c.2.toNat v)
structure Kp (n:aM) (c:Int×Int):Prop where
 lo:0≤c.1
 hi:c.1<n.cC.length
 MZ:0≤c.2
 lC:c.2<n.cC.getD c.1.toNat 0
theorem z9 {n:aM}{p:bu}{a:bK}(ga:qx n p a){x:List Int}{c:Int×Int}(h:jI n a x=some c):Kp n c:=by
 unfold jI at h
 split at h
 ·rename_i h'
  cases h
  exact⟨ga.lo,ga.hi,h'.1,h'.2⟩
 ·cases h
theorem BP {n:aM}{m:List (List Int)}(h:Fits n m){k:Nat}(hk:k<n.cC.length):m[k]?=some (m.getD k [])∧((m.getD k []).length:Int)=n.cC.getD k 0:=by
 have hl:=h.len
 have h1:m[k]?=some m[k]:=ag (by omega)
 have h2:m.getD k []=m[k]:=by rw[aE,h1];rfl
 have h3:n.cC[k]?=some n.cC[k]:=ag hk
 refine⟨by rw[h2];exact h1,?_⟩
 rw[h2,aE,h3]
 exact(oV hl).1 h k _ _ h1 h3
theorem toNat_ne {a b:Int}(ha:0≤a) (hb:0≤b) (h:a≠b):a.toNat≠b.toNat:=by omega
theorem vT {m:List (List Int)}{k j:Nat}{r:List Int}(hk:k<m.length):(m.set k r).getD j []=if k=j then r else m.getD j []:=by
 rw[aE,aE]
 by_cases h:k=j
 ·subst h;rw[cG hk,if_pos rfl];rfl
 ·rw[eG h,if_neg h]
theorem xx {n:aM}{m:List (List Int)}(hm:Fits n m){c d:Int×Int}(hc:Kp n c) (hd:Kp n d) (h:c≠d) (v:Int):xA (lJ m c v) d=xA m d:=by
 have hl:=hm.len
 have hk:c.1.toNat<m.length:=by have:=hc.lo;have:=hc.hi;omega
 unfold xA lJ
 rw[vT hk]
 split
 ·rename_i e
  have e1:c.1=d.1:=by have:=hc.lo;have:=hd.lo;omega
  have e2:c.2≠d.2:=fun e2=>h (Prod.ext e1 e2)
  rw[aE,eG (toNat_ne hc.MZ hd.MZ e2),←aE,e]
 ·rfl
theorem C0 {n:aM}{m:List (List Int)}(hm:Fits n m){c:Int×Int}(hc:Kp n c) (v:Int):xA (lJ m c v) c=v:=by
 have hl:=hm.len
 have hk:c.1.toNat<m.length:=by have:=hc.lo;have:=hc.hi;omega
 obtain⟨r1,r2⟩:=BP hm (k:=c.1.toNat) (by have:=hc.lo;have:=hc.hi;omega)
 unfold xA lJ
 rw[vT hk,if_pos rfl,aE,cG (by have:=hc.MZ;have:=hc.lC;omega)];rfl
theorem Ct (m:List (List Int)) (c:Int×Int) (hk:c.1.toNat<m.length) (u v:Int):lJ (lJ m c u) c v=lJ m c v:=by
 unfold lJ
 rw[vT hk,if_pos rfl,List.set_set,List.set_set]
theorem set_comm {m:List (List Int)}{c d:Int×Int}(h:c≠d) (c1:0≤c.1) (c2:0≤c.2) (d1:0≤d.1) (d2:0≤d.2) (hk:c.1.toNat<m.length) (hk':d.1.toNat<m.length) (u v:Int):lJ (lJ m c u) d v=lJ (lJ m d v) c u:=by
 unfold lJ
 rw[vT hk,vT hk']
 by_cases e:c.1.toNat=d.1.toNat
 ·have e1:c.1=d.1:=by omega
  have e2:c.2≠d.2:=fun e2=>h (Prod.ext e1 e2)
  rw[if_pos e,if_pos e.symm,e,List.set_set,List.set_set,List.set_comm _ _ (toNat_ne c2 d2 e2)]
 ·rw[if_neg e,if_neg (fun e'=>e e'.symm),List.set_comm _ _ e]
def vC (n:aM) (q:bE) (m:List (List Int)) (a:bK):Int:=match jI n a q.At with | some c=>xA m c | none=>0
def iQ (n:aM) (q:bE) (m:List (List Int)):List (List Int):=match pG n q with
 | some s=>match jI n s.cg q.At with
  | some c=>lJ m c (lP s (s.de.map (vC n q m)) (xA m c))
  | none=>m
 | none=>m
theorem JT {n:aM}{p:bu}{a:bK}(ga:qx n p a){m:List (List Int)}(hm:Fits n m) (x:List Int):jI n a x=if sc m a x then some (a.Array,dR a.At x) else none:=by
 have h1:=(BP hm (k:=a.Array.toNat) (by have:=ga.lo;have:=ga.hi;omega)).2
 have h2:sc m a x↔0≤dR a.At x∧dR a.At x<n.cC.getD a.Array.toNat 0:=by unfold sc gD;rw[h1]
 unfold jI
 by_cases h:sc m a x
 ·rw[if_pos h,if_pos (h2.1 h)]
 ·rw[if_neg h,if_neg (fun h'=>h (h2.2 h'))]
theorem Iy {n:aM}{times:List (List aO)}{q:bE}{s:c9}(hs:pG n q=some s) (gs:ix n s){m:List (List Int)}(hm:Fits n m):vj s q.At m=iQ n q m:=by
 unfold iQ vj
 rw[hs]
 dsimp only
 rw[JT gs.put hm]
 have hv:(s.de.map fun a=>getM m a q.At)=s.de.map (vC n q m):=eB fun a ha=>by
  unfold getM vC
  rw[JT (gs.get a ha) hm]
  split <;> rfl
 rw[hv]
 split <;> rfl
structure qw (n:aM) (q:bE):Prop where
 ex:∃s,pG n q=some s∧ix n s
theorem yg.r {n:aM}{times:List (List aO)}{q:bE}(g:yg n times q):qw n q:=by
 obtain⟨s,rows,h1,_,h3,_⟩:=g.ex
 exact⟨s,h1,h3⟩
theorem Ml {n:aM}{m:List (List Int)}(hm:Fits n m){c:Int×Int}(hc:Kp n c) (v:Int):Fits n (lJ m c v):=by
 have hl:=hm.len
 have hk:c.1.toNat<n.cC.length:=by have:=hc.lo;have:=hc.hi;omega
 obtain⟨r1,r2⟩:=BP hm hk
 unfold lJ
 refine(oV (by rw[cW];exact hl)).2 fun k r z h1 h2=>?_
 by_cases e:c.1.toNat=k
 ·subst e
  rw[cG (by omega)] at h1
  cases h1
  rw[cW]
  exact(oV hl).1 hm _ _ _ r1 h2
 ·rw[eG e] at h1
  exact(oV hl).1 hm k r z h1 h2
theorem rT {n:aM}{q:bE}(g:qw n q){m:List (List Int)}(hm:Fits n m):Fits n (iQ n q m):=by
 obtain⟨s,hs,gs⟩:=g.ex
 unfold iQ
 rw[hs]
 dsimp only
 cases hp:jI n s.cg q.At with
 | none=>exact hm
 | some c=>exact Ml hm (z9 gs.put hp) _
theorem num_add {n:aM}{q:bE}{s:c9}(hs:pG n q=some s) (ha:oq n q=true) (v:List Int):∃k:Int,∀was,lP s v was=IntKind.i64.wrap (was+k):=by
 unfold oq at ha
 rw[hs] at ha
 simp only[dG,beq_iff_eq] at ha
 rcases ha with h | h
 ·exact⟨v.getD 0 0,fun was=>by unfold lP;simp[h]⟩
 ·exact⟨IntKind.i64.wrap (v.getD 0 0*v.getD 1 0),fun was=>by unfold lP;simp[h]⟩
theorem EB {n:aM}{q:bE}{s:c9}(hs:pG n q=some s) (gs:ix n s){m:List (List Int)}(hm:Fits n m){c:Int×Int}(hc:Kp n c) (h:c∉og n q) (v:Int):s.de.map (vC n q (lJ m c v))=s.de.map (vC n q m):=by
 refine eB fun a ha=>?_
 unfold vC
 cases hp:jI n a q.At with
 | none=>rfl
 | some d=>
  have hne:c≠d:=fun e=>h (by
   unfold og
   rw[hs]
   exact List.mem_filterMap.2 ⟨a,ha,by rw[hp,e]⟩)
  exact xx hm hc (z9 (gs.get a ha) hp) hne v
theorem N6 {n:aM}{a b:bE}(ga:qw n a) (gb:qw n b) (h:gw n a b=false){m:List (List Int)}(hm:Fits n m):iQ n b (iQ n a m)=iQ n a (iQ n b m):=by
 obtain⟨s,hs,gs⟩:=ga.ex
 obtain⟨t,ht,gt⟩:=gb.ex
 have hao:pS n a=jI n s.cg a.At:=by unfold pS;rw[hs]
 have hbo:pS n b=jI n t.cg b.At:=by unfold pS;rw[ht]
 have ra:∀m,iQ n a m=match jI n s.cg a.At with | some c=>lJ m c (lP s (s.de.map (vC n a m)) (xA m c)) | none=>m:=fun m=>by unfold iQ;rw[hs]
 have rb:∀m,iQ n b m=match jI n t.cg b.At with | some c=>lJ m c (lP t (t.de.map (vC n b m)) (xA m c)) | none=>m:=fun m=>by unfold iQ;rw[ht]
 unfold gw at h
 rw[hao,hbo] at h
 cases hp:jI n s.cg a.At with
 | none=>
  have:∀m,iQ n a m=m:=fun m=>by rw[ra,hp]
  rw[this,this]
 | some c=>
  cases hr:jI n t.cg b.At with
  | none=>
   have:∀m,iQ n b m=m:=fun m=>by rw[rb,hr]
   rw[this,this]
  | some d=>
   rw[hp,hr] at h
   simp only[bI,Bool.and_eq_false_iff,decide_eq_false_iff_not,Bool.not_eq_false'] at h
   obtain⟨h1,h2,h3⟩:=h
   have pc:=z9 gs.put hp
   have pd:=z9 gt.put hr
   have hl:=hm.len
   have kc:c.1.toNat<m.length:=by have:=pc.lo;have:=pc.hi;omega
   have kd:d.1.toNat<m.length:=by have:=pd.lo;have:=pd.hi;omega
   rw[ra m,rb m,hp,hr]
   dsimp only
   rw[rb,ra,hp,hr]
   dsimp only
   rw[EB ht gt hm pc h2,EB hs gs hm pd h3]
   by_cases e:c=d
   ·have hb:=h1.resolve_left (fun h=>h e)
    simp only[aj] at hb
    subst e
    obtain⟨k1,hk1⟩:=num_add hs hb.1 (s.de.map (vC n a m))
    obtain⟨k2,hk2⟩:=num_add ht hb.2 (t.de.map (vC n b m))
    rw[C0 hm pc,C0 hm pc,Ct _ _ kc,Ct _ _ kc,hk1,hk2,hk1,hk2,L1,L1]
    congr 2
    omega
   ·rw[xx hm pc pd e,xx hm pd pc (fun e'=>e e'.symm)]
    exact set_comm e pc.lo pc.MZ pd.lo pd.MZ kc kd _ _
end Go.DN.So
