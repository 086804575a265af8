/-
  Orders: without the document's answer: what a spot does to memory; two that are not in each other's way change places.
-/
import Derived.Test.YtfkigaldejbeiaaFmG
set_option linter.unusedSectionVars false
set_option linter.unusedSimpArgs false
set_option linter.unusedVariables false
namespace Go.DN.So
open Go.AM Go.DN
theorem Pt (n:Int):∃k,IntKind.i64.wrap n=n+18446744073709551616*k:=by
 rw[IntKind.wrap_i64]
 exact⟨-((n+9223372036854775808)/18446744073709551616),by omega⟩
theorem Ns {m n k:Int}(h:m=n+18446744073709551616*k):IntKind.i64.wrap m=IntKind.i64.wrap n:=by
 rw[IntKind.wrap_i64,IntKind.wrap_i64];omega
theorem Lz (x y:Int):IntKind.i64.wrap (IntKind.i64.wrap x+y)=IntKind.i64.wrap (x+y):=by
 obtain⟨k,h⟩:=Pt x
 exact Ns (k:=k) (by rw[h];omega)
def xh (m:List (List Int)) (c:Int×Int):Int:=(m.getD c.1.toNat []).getD c.2.toNat 0
def lE (m:List (List Int)) (c:Int×Int) (v:Int):List (List Int):=m.set c.1.toNat ((m.getD c.1.toNat []).set c.2.toNat v)
structure JT (n:aO) (c:Int×Int):Prop where
 lo:0≤c.1
 hi:c.1<n.cz.length
 Mz:0≤c.2
 lr:c.2<n.cz.getD c.1.toNat 0
theorem zH {n:aO}{p:bp}{a:bF}(ga:qm n p a){x:List Int}{c:Int×Int}(h:jF n a x=some c):JT n c:=by
 unfold jF at h
 split at h
 ·rename_i h'
  cases h
  exact⟨ga.lo,ga.hi,h'.1,h'.2⟩
 ·cases h
theorem Bm {n:aO}{m:List (List Int)}(h:Fits n m){k:Nat}(hk:k<n.cz.length):m[k]?=some (m.getD k [])∧((m.getD k []).length:Int)=n.cz.getD k 0:=by
 have hl:=h.len
 have h1:m[k]?=some m[k]:=ag (by omega)
 have h2:m.getD k []=m[k]:=by rw[aM,h1];rfl
 have h3:n.cz[k]?=some n.cz[k]:=ag hk
 refine⟨by rw[h2];exact h1,?_⟩
 rw[h2,aM,h3]
 exact(oO hl).1 h k _ _ h1 h3
theorem toNat_ne {a b:Int}(ha:0≤a) (hb:0≤b) (h:a≠b):a.toNat≠b.toNat:=by omega
theorem vG {m:List (List Int)}{k j:Nat}{r:List Int}(hk:k<m.length):(m.set k r).getD j []=if k=j then r else m.getD j []:=by
 rw[aM,aM]
 by_cases h:k=j
 ·subst h;rw[cF hk,if_pos rfl];rfl
 ·rw[eD h,if_neg h]
theorem xe {n:aO}{m:List (List Int)}(hm:Fits n m){c d:Int×Int}(hc:JT n c) (hd:JT n d) (h:c≠d) (v:Int):xh (lE m c v) d=xh m d:=by
 have hl:=hm.len
 have hk:c.1.toNat<m.length:=by have:=hc.lo;have:=hc.hi;omega
 unfold xh lE
 rw[vG hk]
 split
 ·rename_i e
  have e1:c.1=d.1:=by have:=hc.lo;have:=hd.lo;omega
  have e2:c.2≠d.2:=fun e2=>h (Prod.ext e1 e2)
  rw[aM,eD (toNat_ne hc.Mz hd.Mz e2),←aM,e]
 ·rfl
theorem CH {n:aO}{m:List (List Int)}(hm:Fits n m){c:Int×Int}(hc:JT n c) (v:Int):xh (lE m c v) c=v:=by
 have hl:=hm.len
 have hk:c.1.toNat<m.length:=by have:=hc.lo;have:=hc.hi;omega
 obtain⟨r1,r2⟩:=Bm hm (k:=c.1.toNat) (by have:=hc.lo;have:=hc.hi;omega)
 unfold xh lE
 rw[vG hk,if_pos rfl,aM,cF (by have:=hc.Mz;have:=hc.lr;omega)];rfl
theorem B9 (m:List (List Int)) (c:Int×Int) (hk:c.1.toNat<m.length) (u v:Int):lE (lE m c u) c v=lE m c v:=by
 unfold lE
 rw[vG hk,if_pos rfl,List.set_set,List.set_set]
theorem set_comm {m:List (List Int)}{c d:Int×Int}(h:c≠d) (c1:0≤c.1) (c2:0≤c.2) (d1:0≤d.1) (d2:0≤d.2) (hk:c.1.toNat<m.length) (hk':d.1.toNat<m.length) (u v:Int):lE (lE m c u) d v=lE (lE m d v) c u:=by
 unfold lE
 rw[vG hk,vG hk']
 by_cases e:c.1.toNat=d.1.toNat
 ·have e1:c.1=d.1:=by omega
  have e2:c.2≠d.2:=fun e2=>h (Prod.ext e1 e2)
  rw[if_pos e,if_pos e.symm,e,List.set_set,List.set_set,List.set_comm _ _ (toNat_ne c2 d2 e2)]
 ·rw[if_neg e,if_neg (fun e'=>e e'.symm),List.set_comm _ _ e]
def vk (n:aO) (q:bD) (m:List (List Int)) (a:bF):Int:=match jF n a q.At with | some c=>xh m c | none=>0
def iM (n:aO) (q:bD) (m:List (List Int)):List (List Int):=match pz n q with
 | some s=>match jF n s.cf q.At with
  | some c=>lE m c (lK s (s.c9.map (vk n q m)) (xh m c))
  | none=>m
 | none=>m
theorem Jt {n:aO}{p:bp}{a:bF}(ga:qm n p a){m:List (List Int)}(hm:Fits n m) (x:List Int):jF n a x=if rR m a x then some (a.Array,ei a.At x) else none:=by
 have h1:=(Bm hm (k:=a.Array.toNat) (by have:=ga.lo;have:=ga.hi;omega)).2
 have h2:rR m a x↔0≤ei a.At x∧ei a.At x<n.cz.getD a.Array.toNat 0:=by unfold rR gA;rw[h1]
 unfold jF
 by_cases h:rR m a x
 ·rw[if_pos h,if_pos (h2.1 h)]
 ·rw[if_neg h,if_neg (fun h'=>h (h2.2 h'))]
theorem Ia {n:aO}{times:List (List aT)}{q:bD}{s:dh}(hs:pz n q=some s) (gs:iH n s){m:List (List Int)}(hm:Fits n m):u4 s q.At m=iM n q m:=by
 unfold iM u4
 rw[hs]
 dsimp only
 rw[Jt gs.put hm]
 have hv:(s.c9.map fun a=>getM m a q.At)=s.c9.map (vk n q m):=eA fun a ha=>by
  unfold getM vk
  rw[Jt (gs.get a ha) hm]
  split <;> rfl
 rw[hv]
 split <;> rfl
structure ql (n:aO) (q:bD):Prop where
 ex:∃s,pz n q=some s∧iH n s
theorem xQ.r {n:aO}{times:List (List aT)}{q:bD}(g:xQ n times q):ql n q:=by
 obtain⟨s,rows,h1,_,h3,_⟩:=g.ex
 exact⟨s,h1,h3⟩
theorem LW {n:aO}{m:List (List Int)}(hm:Fits n m){c:Int×Int}(hc:JT n c) (v:Int):Fits n (lE m c v):=by
 have hl:=hm.len
 have hk:c.1.toNat<n.cz.length:=by have:=hc.lo;have:=hc.hi;omega
 obtain⟨r1,r2⟩:=Bm hm hk
 unfold lE
 refine(oO (by rw[de];exact hl)).2 fun k r z h1 h2=>?_
 by_cases e:c.1.toNat=k
 ·subst e
  rw[cF (by omega)] at h1
  cases h1
  rw[de]
  exact(oO hl).1 hm _ _ _ r1 h2
 ·rw[eD e] at h1
  exact(oO hl).1 hm k r z h1 h2
theorem rK {n:aO}{q:bD}(g:ql n q){m:List (List Int)}(hm:Fits n m):Fits n (iM n q m):=by
 obtain⟨s,hs,gs⟩:=g.ex
 unfold iM
 rw[hs]
 dsimp only
 cases hp:jF n s.cf q.At with
 | none=>exact hm
 | some c=>exact LW hm (zH gs.put hp) _
theorem num_add {n:aO}{q:bD}{s:dh}(hs:pz n q=some s) (ha:oc n q=true) (v:List Int):∃k:Int,∀was,lK s v was=IntKind.i64.wrap (was+k):=by
 unfold oc at ha
 rw[hs] at ha
 simp only[dC,beq_iff_eq] at ha
 rcases ha with h | h
 ·exact⟨v.getD 0 0,fun was=>by unfold lK;simp[h]⟩
 ·exact⟨IntKind.i64.wrap (v.getD 0 0*v.getD 1 0),fun was=>by unfold lK;simp[h]⟩
theorem Ei {n:aO}{q:bD}{s:dh}(hs:pz n q=some s) (gs:iH n s){m:List (List Int)}(hm:Fits n m){c:Int×Int}(hc:JT n c) (h:c∉n4 n q) (v:Int):s.c9.map (vk n q (lE m c v))=s.c9.map (vk n q m):=by
 refine eA fun a ha=>?_
 unfold vk
 cases hp:jF n a q.At with
 | none=>rfl
 | some d=>
  have hne:c≠d:=fun e=>h (by
   unfold n4
   rw[hs]
   exact List.mem_filterMap.2 ⟨a,ha,by rw[hp,e]⟩)
  exact xe hm hc (zH (gs.get a ha) hp) hne v
theorem NF {n:aO}{a b:bD}(ga:ql n a) (gb:ql n b) (h:gQ n a b=false){m:List (List Int)}(hm:Fits n m):iM n b (iM n a m)=iM n a (iM n b m):=by
 obtain⟨s,hs,gs⟩:=ga.ex
 obtain⟨t,ht,gt⟩:=gb.ex
 have hao:pK n a=jF n s.cf a.At:=by unfold pK;rw[hs]
 have hbo:pK n b=jF n t.cf b.At:=by unfold pK;rw[ht]
 have ra:∀m,iM n a m=match jF n s.cf a.At with | some c=>lE m c (lK s (s.c9.map (vk n a m)) (xh m c)) | none=>m:=fun m=>by unfold iM;rw[hs]
 have rb:∀m,iM n b m=match jF n t.cf b.At with | some c=>lE m c (lK t (t.c9.map (vk n b m)) (xh m c)) | none=>m:=fun m=>by unfold iM;rw[ht]
 unfold gQ at h
 rw[hao,hbo] at h
 cases hp:jF n s.cf a.At with
 | none=>
  have:∀m,iM n a m=m:=fun m=>by rw[ra,hp]
  rw[this,this]
 | some c=>
  cases hr:jF n t.cf b.At with
  | none=>
   have:∀m,iM n b m=m:=fun m=>by rw[rb,hr]
   rw[this,this]
  | some d=>
   rw[hp,hr] at h
   simp only[bE,Bool.and_eq_false_iff,decide_eq_false_iff_not,Bool.not_eq_false'] at h
   obtain⟨h1,h2,h3⟩:=h
   have pc:=zH gs.put hp
   have pd:=zH gt.put hr
   have hl:=hm.len
   have kc:c.1.toNat<m.length:=by have:=pc.lo;have:=pc.hi;omega
   have kd:d.1.toNat<m.length:=by have:=pd.lo;have:=pd.hi;omega
   rw[ra m,rb m,hp,hr]
   dsimp only
   rw[rb,ra,hp,hr]
   dsimp only
   rw[Ei ht gt hm pc h2,Ei hs gs hm pd h3]
   by_cases e:c=d
   ·have hb:=h1.resolve_left (fun h=>h e)
    simp only[aj] at hb
    subst e
    obtain⟨k1,hk1⟩:=num_add hs hb.1 (s.c9.map (vk n a m))
    obtain⟨k2,hk2⟩:=num_add ht hb.2 (t.c9.map (vk n b m))
    rw[CH hm pc,CH hm pc,B9 _ _ kc,B9 _ _ kc,hk1,hk2,hk1,hk2,Lz,Lz]
    congr 2
    omega
   ·rw[xe hm pc pd e,xe hm pd pc (fun e'=>e e'.symm)]
    exact set_comm e pc.lo pc.Mz pd.lo pd.Mz kc kd _ _
end Go.DN.So
