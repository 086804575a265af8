/-
  Orders: the plain law of OrderFinds: who is in whose way; the parts of order.wv.
-/
import Derived.Test.YtfkigaldejbeiaaFmB
set_option linter.unusedSectionVars false
set_option linter.unusedSimpArgs false
set_option linter.unusedVariables false
namespace Go.DN.So
open Go.AM Go.DN
def jD (n:aP) (a:bF) (x:List Int):Option (Int×Int):=if 0≤ei a.At x∧ei a.At x<n.cA.getD a.Array.toNat 0 then some (a.Array,ei a.At x) else none
def pi (n:aP) (q:bE):Option dh:=n.cd[q.Stmt.toNat]?
def pA (n:aP) (q:bE):Option (Int×Int):=match pi n q with | some s=>jD n s.cf q.At | none=>none
def nV (n:aP) (q:bE):List (Int×Int):=match pi n q with | some s=>s.c9.filterMap fun g=>jD n g q.At | none=>[]
def nZ (n:aP) (q:bE):Bool:=match pi n q with | some s=>s.Do==9||s.Do==10 | none=>false
theorem Lo {n:aP}{p:bp}{a:bF}(ga:qd n p a):idx n.cA a.Array=some (n.cA.getD a.Array.toNat 0):=by
 obtain⟨k,hk⟩:=kU ga.lo
 have hh:=ga.hi
 rw[hk] at hh⊢
 have:k<n.cA.length:=by omega
 rw[bh,aL,ag this]
 exact bJ (ag this)
theorem EI (fu:Nat){n:aP}{p:bp}(g:Good p){a:bF}(ga:qd n p a){x:List Int}(hx:kl x) (hl:x.length=p.ba.length) (hf:10<fu):
  F.mP fu n a x=some (⟨a.Array,ei a.At x⟩,(jD n a x).isSome):=by
 have e0:=KT fu (g.with ga.row) (r:=a.At) (by simp) hx hl hf
 unfold F.mP jD
 simp only[e0,ab,Lo ga]
 by_cases h0:0≤ei a.At x
 ·rw[PL.dl (show ei a.At x≥0 from h0)]
  simp only[cond_true,ab]
  by_cases h1:ei a.At x<n.cA.getD a.Array.toNat 0
  ·rw[PL.dl h1,if_pos ⟨h0,h1⟩];rfl
  ·rw[PL.cw h1,if_neg (fun h=>h1 h.2)];rfl
 ·rw[PL.cw (show ¬ei a.At x≥0 from h0),if_neg (fun h=>h0 h.1)];rfl
theorem Gk {n:aP}{a:bF}{x:List Int}{c:Int×Int}(h:jD n a x=some c):c=(a.Array,ei a.At x):=by
 unfold jD at h
 split at h
 ·cases h;rfl
 ·cases h
structure za (d d':bC) (m:Nat):Prop where
 wm:WM d'
 n:d'.n≤d.n+m
 rows:∀a b j,cr d' a b j=cr d a b j
theorem za.refl {d:bC}(w:WM d):za d d 0:=⟨w,az _,fun _ _ _=>rfl⟩
theorem za.step {d d' d'':bC}{m:Nat}(h:za d d' m) (s:RU d' d''):za d d'' (m+1):=⟨s.wm,by have:=h.n;have:=s.n;omega,fun a b j=>(s.rows a b j).trans (h.rows a b j)⟩
structure vW (d d':bC) (m:Nat) (x:Int) (R:Int→Int→Nat→Prop):Prop where
 wm:WM d'
 n:d'.n≤d.n+2*m
 len:∀a b j,(cr d' a b j).length≤(cr d a b j).length+m
 mem:∀a b j y,y∈cr d' a b j↔y∈cr d a b j∨(y=x∧R a b j)
theorem vW.refl {d:bC}(w:WM d) (x:Int):vW d d 0 x fun _ _ _=>False:=⟨w,by omega,fun _ _ _=>az _,fun a b j y=>⟨.inl,fun h=>h.elim id fun h=>h.2.elim⟩⟩
theorem vW.comp {d d' d'':bC}{m m':Nat}{x:Int}{R R':Int→Int→Nat→Prop}(h:vW d d' m x R) (h':vW d' d'' m' x R'):vW d d'' (m+m') x fun a b j=>R a b j∨R' a b j:=
 ⟨h'.wm,by have:=h.n;have:=h'.n;omega,fun a b j=>by have:=h.len a b j;have:=h'.len a b j;omega,fun a b j y=>by
  rw[h'.mem,h.mem]
  constructor
  ·rintro((h | ⟨h1,h2⟩) | ⟨h1,h2⟩)
   ·exact .inl h
   ·exact .inr ⟨h1,.inl h2⟩
   ·exact .inr ⟨h1,.inr h2⟩
  ·rintro(h | ⟨h1,h2 | h2⟩)
   ·exact .inl (.inl h)
   ·exact .inl (.inr ⟨h1,h2⟩)
   ·exact .inr ⟨h1,h2⟩⟩
theorem WM.f3 {d:bC}(w:WM d){a b:Int}{e:bP}(h:gz d.es a b=some e){j:Nat}(hj:j<3):∃z,e.f[j]?=some (z,cr d a b j):=by
 obtain⟨hm,_⟩:=oC h
 have:j<e.f.length:=by rw[w.len e hm];exact hj
 have e1:e.f[j]?=some e.f[j]:=ag this
 refine⟨e.f[j].1,?_⟩
 unfold cr
 rw[h]
 simp only[e1]
theorem vW.one (fu:Nat){d:bC}(w:WM d) (hn:d.n≤90000) (hl:∀a b j,(cr d a b j).length≤90000) (c:gV){j:Nat}(hj:j<3) (x:Int):
  ∃(e:bP) (d1 d2 d3:bC) (z:Nat) (l:List Int),F.bY fu c d=some (false,((e.t:Nat):Int),((0:Nat):Int),d1)∧F.bY fu c d1=some (false,((e.t:Nat):Int),((0:Nat):Int),d1)∧il d1.es e.t j=some (z,l)∧pF d1 z l.length x 8=some d2∧jY d2 e.t j d1.n (l.length+1)=some d3∧
   vW d d3 1 x fun a b j'=>(a,b)=(c.array,c.at_)∧j'=j:=by
 obtain⟨e,d1,h1,h2,h3,s⟩:=HX fu w (by omega) c
 obtain⟨z,hz⟩:=s.wm.f3 h3 hj
 obtain⟨hm,_⟩:=oC h3
 have hlen:=hl c.array c.at_ j
 rw[←s.rows] at hlen
 obtain⟨d2,q1,q2⟩:=s.wm.gr (by have:=s.n;omega) hm hz (by omega) x
 refine⟨e,d1,d2,_,z,_,h1,h2,by rw[s.wm.Mr hm];exact hz,q1,q2,s.wm.fR hm hj _ _,?_,fun a b j'=>?_,fun a b j' y=>?_⟩
 ·show d1.n+1≤d.n+2*1
  have:=s.n
  omega
 ·rw[F3 s.wm h3 hz,←s.rows]
  split
  ·rename_i h
   obtain⟨rfl,rfl,rfl⟩:=h
   rw[aj,cQ]
   exact az _
  ·omega
 ·rw[F3 s.wm h3 hz,←s.rows a b j']
  split
  ·rename_i h
   obtain⟨rfl,rfl,rfl⟩:=h
   rw[cU,cB]
   exact or_congr Iff.rfl ⟨fun h=>⟨h,rfl,rfl⟩,fun h=>h.1⟩
  ·rename_i h
   exact⟨.inl,fun h'=>h'.elim id fun h'=>absurd (by obtain⟨_,h1,h2⟩:=h';cases h1;exact⟨rfl,rfl,h2⟩) h⟩
def sE (c:Int×Int):gV:=⟨c.1,c.2⟩
def zG (d:bC) (gs:List (Int×Int)):List Int:=gs.flatMap fun c=>cr d c.1 c.2 0++cr d c.1 c.2 1
theorem uD {bd:ae→ae→Option Bool}(fu:Nat) (hf:100000<fu){n:aP}{s:dh}(gs:iD n s){b:ae}(hx:kl b.aQ.At) (hxl:b.aQ.At.length=s.bI.ba.length){L:List ae}{p:Int→Bool}(puts:Bool)
  {d0:bC}(hn:d0.n≤50000) (hl:∀a c j,(cr d0 a c j).length≤50000) (hs:∀a c j,Seen bd b p L (cr d0 a c j)):
  ∀(m k:Nat) (d:bC) (f:Int) (cs:List gV) (q aI:Nat),k+m=s.c9.length→m<aI→q+m≤10→cs.length+m≤10→za d0 d q→
   ∃d',aB (Gn.mO bd fu n b s puts) aI ((k:Int),d,f,L,b.aQ.Stmt,b.aQ.At,b.number,b.time,cs)=
     some (d',(zG d0 (bif puts then(s.c9.drop k).filterMap fun g=>jD n g b.aQ.At else[])).foldl (eG p) f,L,b.aQ.Stmt,b.aQ.At,b.number,b.time,cs++(bif puts then(s.c9.drop k).filterMap fun g=>jD n g b.aQ.At else[]).map sE)∧za d0 d' (q+m)
 | 0,k,d,f,cs,q,aI,hk,hm,hq,hcs,hS=>by
  obtain⟨g,rfl⟩:∃g,aI=g+1:=⟨aI-1,by omega⟩
  obtain rfl:k=s.c9.length:=by omega
  refine⟨d,?_,hS⟩
  rw[eE (az _)]
  simp only[aB,Gn.mO,ff,cond_false]
  cases puts <;> simp[zG]
 | m+1,k,d,f,cs,q,aI,hk,hm,hq,hcs,hS=>by
  obtain⟨g,rfl⟩:∃g,aI=g+1:=⟨aI-1,by omega⟩
  have hg3:=gs.le
  have hks:k<s.c9.length:=by omega
  have hs0:s.c9[k]?=some s.c9[k]:=ag hks
  have hdrop:s.c9.drop k=s.c9[k]::s.c9.drop (k+1):=bV hks
  generalize s.c9[k]=a at hs0 hdrop
  have hw:=du hks (by omega)
  have hc:=EI fu gs.dz (gs.get a (ar hs0)) hx hxl (by omega)
  rw[hdrop]
  simp only[aB,Gn.mO,dec_lt hs0,cond_true,bJ hs0,ab,hc]
  have skip:(bif puts then(a::s.c9.drop (k+1)).filterMap fun g=>jD n g b.aQ.At else[])=(bif puts then(s.c9.drop (k+1)).filterMap fun g=>jD n g b.aQ.At else[])→
    ∃d',aB (Gn.mO bd fu n b s puts) g (((k+1:Nat):Int),d,f,L,b.aQ.Stmt,b.aQ.At,b.number,b.time,cs)=
     some (d',(zG d0 (bif puts then(a::s.c9.drop (k+1)).filterMap fun g=>jD n g b.aQ.At else[])).foldl (eG p) f,L,b.aQ.Stmt,b.aQ.At,b.number,b.time,cs++(bif puts then(a::s.c9.drop (k+1)).filterMap fun g=>jD n g b.aQ.At else[]).map sE)∧za d0 d' (q+(m+1)):=fun e=>by
   rw[e]
   obtain⟨d',h1,h2⟩:=uD fu hf gs hx hxl puts hn hl hs m (k+1) d f cs q g (by omega) (by omega) (by omega) (by omega) hS
   exact⟨d',h1,h2.wm,by have:=h2.n;omega,h2.rows⟩
  cases hp:jD n a b.aQ.At with
  | none=>
   simp only[Option.isSome_none,cond_false,ab,hw]
   rw[show(a::s.c9.drop (k+1)).filterMap (fun g=>jD n g b.aQ.At)=(s.c9.drop (k+1)).filterMap (fun g=>jD n g b.aQ.At) by rw[List.filterMap_cons,hp]] at skip⊢
   exact skip rfl
  | some c=>
   have hce:=Gk hp
   subst hce
   cases puts with
   | false=>
    simp only[lu,cond_true,cond_false,ab,hw]
    exact skip rfl
   | true=>
    obtain⟨e,d1,h1,h2,h3,st⟩:=HX fu hS.wm (by have:=hS.n;omega) ⟨a.Array,ei a.At b.aQ.At⟩
    have hS1:=hS.step st
    obtain⟨z0,hz0⟩:=st.wm.f3 h3 (j:=0) (by omega)
    obtain⟨z1,hz1⟩:=st.wm.f3 h3 (j:=1) (by omega)
    obtain⟨hm1,_⟩:=oC h3
    have hr:∀j,cr d1 a.Array (ei a.At b.aQ.At) j=cr d0 a.Array (ei a.At b.aQ.At) j:=fun j=>hS1.rows _ _ _
    have c0:∀(i:Nat) (x:Int),(cr d1 a.Array (ei a.At b.aQ.At) 0)[i]?=some x→nA d1.es z0 i=some x:=fun i x hi=>st.wm.cell hm1 hz0 hi
    have c1:∀(i:Nat) (x:Int),(cr d1 a.Array (ei a.At b.aQ.At) 1)[i]?=some x→nA d1.es z1 i=some x:=fun i x hi=>st.wm.cell hm1 hz1 hi
    have f0:il d1.es e.t 0=some (z0,cr d1 a.Array (ei a.At b.aQ.At) 0):=by rw[st.wm.Mr hm1];exact hz0
    have f1:il d1.es e.t 1=some (z1,cr d1 a.Array (ei a.At b.aQ.At) 1):=by rw[st.wm.Mr hm1];exact hz1
    rw[hr] at c0 c1 f0 f1
    have t:=Le (bd:=bd) fu (L:=L) (b1:=b.aQ.Stmt) (b2:=b.aQ.At) (b3:=b.number) (b4:=b.time) (p:=p) (d:=d1) c0 c1 (hs _ _ _) (hs _ _ _) (by have:=hl a.Array (ei a.At b.aQ.At) 0;omega) (by have:=hl a.Array (ei a.At b.aQ.At) 1;omega) hf f
    have ck:bq (cs.length+[(⟨a.Array,ei a.At b.aQ.At⟩:gV)].length≤maxLen∧(cs.length+[(⟨a.Array,ei a.At b.aQ.At⟩:gV)].length)*16≤140737488355328)=some ():=bK (by simp only[cQ,maxLen];omega)
    have cT:bq (false=false)=some ():=bK rfl
    simp only[lu,cond_true,ab,h1,h2,PL.KO,bh,bQ,f0,f1,t,tS,ck,hw]
    obtain⟨d',g1,g2⟩:=uD fu hf gs hx hxl true hn hl hs m (k+1) d1 ((cr d0 a.Array (ei a.At b.aQ.At) 0++cr d0 a.Array (ei a.At b.aQ.At) 1).foldl (eG p) f) (cs++[⟨a.Array,ei a.At b.aQ.At⟩]) (q+1) g (by omega) (by omega) (by omega) (by rw[aj,cQ];omega) hS1
    refine⟨d',?_,g2.wm,by have:=g2.n;omega,g2.rows⟩
    rw[g1]
    simp only[cond_true,List.filterMap_cons,hp,zG,cn,iu,aH,sE,aC,List.singleton_append]
end Go.DN.So
