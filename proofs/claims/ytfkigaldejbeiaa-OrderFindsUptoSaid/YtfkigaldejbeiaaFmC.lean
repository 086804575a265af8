/-
  Orders: the plain law of OrderFinds: who is in whose way; the parts of order.pairs.
-/
import Derived.Test.YtfkigaldejbeiaaFmB
set_option linter.unusedSectionVars false
set_option linter.unusedSimpArgs false
set_option linter.unusedVariables false
namespace Go.DN.So
open Go.AM Go.DN
def plc (n:SNest) (a:SAccess) (x:List Int):Option (Int×Int):=if 0≤atV a.At x∧atV a.At x<n.Sizes.getD a.Array.toNat 0 then some (a.Array,atV a.At x) else none
def stmtQ (n:SNest) (q:SSpot):Option SStmt:=n.Stmts[q.Stmt.toNat]?
def ownQ (n:SNest) (q:SSpot):Option (Int×Int):=match stmtQ n q with | some s=>plc n s.Put q.At | none=>none
def getQ (n:SNest) (q:SSpot):List (Int×Int):=match stmtQ n q with | some s=>s.Get.filterMap fun g=>plc n g q.At | none=>[]
def addQ (n:SNest) (q:SSpot):Bool:=match stmtQ n q with | some s=>s.Do==9||s.Do==10 | none=>false
theorem sizes_idx {n:SNest}{p:SPoints}{a:SAccess}(ga:GoodA n p a):idx n.Sizes a.Array=some (n.Sizes.getD a.Array.toNat 0):=by
 obtain⟨k,hk⟩:=Int.eq_ofNat_of_zero_le ga.lo
 have hh:=ga.hi
 rw[hk] at hh⊢
 have:k<n.Sizes.length:=by omega
 rw[Int.toNat_natCast,List.getD_eq_getElem?_getD,List.getElem?_eq_getElem this]
 exact idx_nat (List.getElem?_eq_getElem this)
theorem cellOf_ok (fu:Nat){n:SNest}{p:SPoints}(g:Good p){a:SAccess}(ga:GoodA n p a){x:List Int}(hx:Ran x) (hl:x.length=p.Box.length) (hf:10<fu):
  F.order_cellOf fu n a x=some (⟨a.Array,atV a.At x⟩,(plc n a x).isSome):=by
 have e0:=at_ok fu (g.with ga.row) (r:=a.At) (by simp) hx hl hf
 unfold F.order_cellOf plc
 simp only[e0,Option.bind_some,sizes_idx ga]
 by_cases h0:0≤atV a.At x
 ·rw[PL.dec_true (show atV a.At x≥0 from h0)]
  simp only[cond_true,Option.bind_some]
  by_cases h1:atV a.At x<n.Sizes.getD a.Array.toNat 0
  ·rw[PL.dec_true h1,if_pos ⟨h0,h1⟩];rfl
  ·rw[PL.dec_false h1,if_neg (fun h=>h1 h.2)];rfl
 ·rw[PL.dec_false (show ¬atV a.At x≥0 from h0),if_neg (fun h=>h0 h.1)];rfl
theorem plc_some {n:SNest}{a:SAccess}{x:List Int}{c:Int×Int}(h:plc n a x=some c):c=(a.Array,atV a.At x):=by
 unfold plc at h
 split at h
 ·cases h;rfl
 ·cases h
structure Sam (d d':MDat) (m:Nat):Prop where
 wm:WM d'
 n:d'.n≤d.n+m
 rows:∀a b j,rowsM d' a b j=rowsM d a b j
theorem Sam.refl {d:MDat}(w:WM d):Sam d d 0:=⟨w,Nat.le_refl _,fun _ _ _=>rfl⟩
theorem Sam.step {d d' d'':MDat}{m:Nat}(h:Sam d d' m) (s:Stp d' d''):Sam d d'' (m+1):=⟨s.wm,by have:=h.n;have:=s.n;omega,fun a b j=>(s.rows a b j).trans (h.rows a b j)⟩
structure Grw (d d':MDat) (m:Nat) (x:Int) (R:Int→Int→Nat→Prop):Prop where
 wm:WM d'
 n:d'.n≤d.n+2*m
 len:∀a b j,(rowsM d' a b j).length≤(rowsM d a b j).length+m
 mem:∀a b j y,y∈rowsM d' a b j↔y∈rowsM d a b j∨(y=x∧R a b j)
theorem Grw.refl {d:MDat}(w:WM d) (x:Int):Grw d d 0 x fun _ _ _=>False:=⟨w,by omega,fun _ _ _=>Nat.le_refl _,fun a b j y=>⟨.inl,fun h=>h.elim id fun h=>h.2.elim⟩⟩
theorem Grw.comp {d d' d'':MDat}{m m':Nat}{x:Int}{R R':Int→Int→Nat→Prop}(h:Grw d d' m x R) (h':Grw d' d'' m' x R'):Grw d d'' (m+m') x fun a b j=>R a b j∨R' a b j:=
 ⟨h'.wm,by have:=h.n;have:=h'.n;omega,fun a b j=>by have:=h.len a b j;have:=h'.len a b j;omega,fun a b j y=>by
  rw[h'.mem,h.mem]
  constructor
  ·rintro((h | ⟨h1,h2⟩) | ⟨h1,h2⟩)
   ·exact .inl h
   ·exact .inr ⟨h1,.inl h2⟩
   ·exact .inr ⟨h1,.inr h2⟩
  ·rintro(h | ⟨h1,h2 | h2⟩)
   ·exact .inl (.inl h)
   ·exact .inl (.inr ⟨h1,h2⟩)
   ·exact .inr ⟨h1,h2⟩⟩
theorem WM.f3 {d:MDat}(w:WM d){a b:Int}{e:MEnt}(h:mget d.es a b=some e){j:Nat}(hj:j<3):∃z,e.f[j]?=some (z,rowsM d a b j):=by
 obtain⟨hm,_⟩:=mget_mem h
 have:j<e.f.length:=by rw[w.len e hm];exact hj
 have e1:e.f[j]?=some e.f[j]:=List.getElem?_eq_getElem this
 refine⟨e.f[j].1,?_⟩
 unfold rowsM
 rw[h]
 simp only[e1]
theorem Grw.one (fu:Nat){d:MDat}(w:WM d) (hn:d.n≤90000) (hl:∀a b j,(rowsM d a b j).length≤90000) (c:Scell){j:Nat}(hj:j<3) (x:Int):
  ∃(e:MEnt) (d1 d2 d3:MDat) (z:Nat) (l:List Int),F.order_pairs_1 fu c d=some (false,((e.t:Nat):Int),((0:Nat):Int),d1)∧F.order_pairs_1 fu c d1=some (false,((e.t:Nat):Int),((0:Nat):Int),d1)∧mfld d1.es e.t j=some (z,l)∧mapp d1 z l.length x 8=some d2∧mstore d2 e.t j d1.n (l.length+1)=some d3∧
   Grw d d3 1 x fun a b j'=>(a,b)=(c.array,c.at_)∧j'=j:=by
 obtain⟨e,d1,h1,h2,h3,s⟩:=atM_ok fu w (by omega) c
 obtain⟨z,hz⟩:=s.wm.f3 h3 hj
 obtain⟨hm,_⟩:=mget_mem h3
 have hlen:=hl c.array c.at_ j
 rw[←s.rows] at hlen
 obtain⟨d2,q1,q2⟩:=s.wm.app (by have:=s.n;omega) hm hz (by omega) x
 refine⟨e,d1,d2,_,z,_,h1,h2,by rw[s.wm.fld hm];exact hz,q1,q2,s.wm.upd hm hj _ _,?_,fun a b j'=>?_,fun a b j' y=>?_⟩
 ·show d1.n+1≤d.n+2*1
  have:=s.n
  omega
 ·rw[rows_upd s.wm h3 hz,←s.rows]
  split
  ·rename_i h
   obtain⟨rfl,rfl,rfl⟩:=h
   rw[List.length_append,List.length_singleton]
   exact Nat.le_refl _
  ·omega
 ·rw[rows_upd s.wm h3 hz,←s.rows a b j']
  split
  ·rename_i h
   obtain⟨rfl,rfl,rfl⟩:=h
   rw[List.mem_append,List.mem_singleton]
   exact or_congr Iff.rfl ⟨fun h=>⟨h,rfl,rfl⟩,fun h=>h.1⟩
  ·rename_i h
   exact⟨.inl,fun h'=>h'.elim id fun h'=>absurd (by obtain⟨_,h1,h2⟩:=h';cases h1;exact⟨rfl,rfl,h2⟩) h⟩
def cellP (c:Int×Int):Scell:=⟨c.1,c.2⟩
def candG (d:MDat) (gs:List (Int×Int)):List Int:=gs.flatMap fun c=>rowsM d c.1 c.2 0++rowsM d c.1 c.2 1
theorem gets_loop {bd:Sspot→Sspot→Option Bool}(fu:Nat) (hf:100000<fu){n:SNest}{s:SStmt}(gs:GoodS n s){b:Sspot}(hx:Ran b.Spot.At) (hxl:b.Spot.At.length=s.Over.Box.length){L:List Sspot}{p:Int→Bool}(puts:Bool)
  {d0:MDat}(hn:d0.n≤50000) (hl:∀a c j,(rowsM d0 a c j).length≤50000) (hs:∀a c j,Seen bd b p L (rowsM d0 a c j)):
  ∀(m k:Nat) (d:MDat) (f:Int) (cs:List Scell) (q fuel:Nat),k+m=s.Get.length→m<fuel→q+m≤10→cs.length+m≤10→Sam d0 d q→
   ∃d',loopF (Gn.pairs_l1 bd fu n b s puts) fuel ((k:Int),d,f,L,b.Spot.Stmt,b.Spot.At,b.number,b.time,cs)=
     some (d',(candG d0 (bif puts then(s.Get.drop k).filterMap fun g=>plc n g b.Spot.At else[])).foldl (stepB p) f,L,b.Spot.Stmt,b.Spot.At,b.number,b.time,cs++(bif puts then(s.Get.drop k).filterMap fun g=>plc n g b.Spot.At else[]).map cellP)∧Sam d0 d' (q+m)
 | 0,k,d,f,cs,q,fuel,hk,hm,hq,hcs,hS=>by
  obtain⟨g,rfl⟩:∃g,fuel=g+1:=⟨fuel-1,by omega⟩
  obtain rfl:k=s.Get.length:=by omega
  refine⟨d,?_,hS⟩
  rw[List.drop_eq_nil_of_le (Nat.le_refl _)]
  simp only[loopF,Gn.pairs_l1,dec_end,cond_false]
  cases puts <;> simp[candG]
 | m+1,k,d,f,cs,q,fuel,hk,hm,hq,hcs,hS=>by
  obtain⟨g,rfl⟩:∃g,fuel=g+1:=⟨fuel-1,by omega⟩
  have hg3:=gs.le
  have hks:k<s.Get.length:=by omega
  have hs0:s.Get[k]?=some s.Get[k]:=List.getElem?_eq_getElem hks
  have hdrop:s.Get.drop k=s.Get[k]::s.Get.drop (k+1):=List.drop_eq_getElem_cons hks
  generalize s.Get[k]=a at hs0 hdrop
  have hw:=wrap_succ hks (by omega)
  have hc:=cellOf_ok fu gs.over (gs.get a (List.mem_of_getElem? hs0)) hx hxl (by omega)
  rw[hdrop]
  simp only[loopF,Gn.pairs_l1,dec_lt hs0,cond_true,idx_nat hs0,Option.bind_some,hc]
  have skip:(bif puts then(a::s.Get.drop (k+1)).filterMap fun g=>plc n g b.Spot.At else[])=(bif puts then(s.Get.drop (k+1)).filterMap fun g=>plc n g b.Spot.At else[])→
    ∃d',loopF (Gn.pairs_l1 bd fu n b s puts) g (((k+1:Nat):Int),d,f,L,b.Spot.Stmt,b.Spot.At,b.number,b.time,cs)=
     some (d',(candG d0 (bif puts then(a::s.Get.drop (k+1)).filterMap fun g=>plc n g b.Spot.At else[])).foldl (stepB p) f,L,b.Spot.Stmt,b.Spot.At,b.number,b.time,cs++(bif puts then(a::s.Get.drop (k+1)).filterMap fun g=>plc n g b.Spot.At else[]).map cellP)∧Sam d0 d' (q+(m+1)):=fun e=>by
   rw[e]
   obtain⟨d',h1,h2⟩:=gets_loop fu hf gs hx hxl puts hn hl hs m (k+1) d f cs q g (by omega) (by omega) (by omega) (by omega) hS
   exact⟨d',h1,h2.wm,by have:=h2.n;omega,h2.rows⟩
  cases hp:plc n a b.Spot.At with
  | none=>
   simp only[Option.isSome_none,cond_false,Option.bind_some,hw]
   rw[show(a::s.Get.drop (k+1)).filterMap (fun g=>plc n g b.Spot.At)=(s.Get.drop (k+1)).filterMap (fun g=>plc n g b.Spot.At) by rw[List.filterMap_cons,hp]] at skip⊢
   exact skip rfl
  | some c=>
   have hce:=plc_some hp
   subst hce
   cases puts with
   | false=>
    simp only[Option.isSome_some,cond_true,cond_false,Option.bind_some,hw]
    exact skip rfl
   | true=>
    obtain⟨e,d1,h1,h2,h3,st⟩:=atM_ok fu hS.wm (by have:=hS.n;omega) ⟨a.Array,atV a.At b.Spot.At⟩
    have hS1:=hS.step st
    obtain⟨z0,hz0⟩:=st.wm.f3 h3 (j:=0) (by omega)
    obtain⟨z1,hz1⟩:=st.wm.f3 h3 (j:=1) (by omega)
    obtain⟨hm1,_⟩:=mget_mem h3
    have hr:∀j,rowsM d1 a.Array (atV a.At b.Spot.At) j=rowsM d0 a.Array (atV a.At b.Spot.At) j:=fun j=>hS1.rows _ _ _
    have c0:∀(i:Nat) (x:Int),(rowsM d1 a.Array (atV a.At b.Spot.At) 0)[i]?=some x→mcell d1.es z0 i=some x:=fun i x hi=>st.wm.cell hm1 hz0 hi
    have c1:∀(i:Nat) (x:Int),(rowsM d1 a.Array (atV a.At b.Spot.At) 1)[i]?=some x→mcell d1.es z1 i=some x:=fun i x hi=>st.wm.cell hm1 hz1 hi
    have f0:mfld d1.es e.t 0=some (z0,rowsM d1 a.Array (atV a.At b.Spot.At) 0):=by rw[st.wm.fld hm1];exact hz0
    have f1:mfld d1.es e.t 1=some (z1,rowsM d1 a.Array (atV a.At b.Spot.At) 1):=by rw[st.wm.fld hm1];exact hz1
    rw[hr] at c0 c1 f0 f1
    have t:=two_ok (bd:=bd) fu (L:=L) (b1:=b.Spot.Stmt) (b2:=b.Spot.At) (b3:=b.number) (b4:=b.time) (p:=p) (d:=d1) c0 c1 (hs _ _ _) (hs _ _ _) (by have:=hl a.Array (atV a.At b.Spot.At) 0;omega) (by have:=hl a.Array (atV a.At b.Spot.At) 1;omega) hf f
    have ck:chk (cs.length+[(⟨a.Array,atV a.At b.Spot.At⟩:Scell)].length≤maxLen∧(cs.length+[(⟨a.Array,atV a.At b.Spot.At⟩:Scell)].length)*16≤140737488355328)=some ():=chk_pos (by simp only[List.length_singleton,maxLen];omega)
    have cT:chk (false=false)=some ():=chk_pos rfl
    simp only[Option.isSome_some,cond_true,Option.bind_some,h1,h2,PL.chkT,Int.toNat_natCast,Nat.zero_add,f0,f1,t,amb_self,ck,hw]
    obtain⟨d',g1,g2⟩:=gets_loop fu hf gs hx hxl true hn hl hs m (k+1) d1 ((rowsM d0 a.Array (atV a.At b.Spot.At) 0++rowsM d0 a.Array (atV a.At b.Spot.At) 1).foldl (stepB p) f) (cs++[⟨a.Array,atV a.At b.Spot.At⟩]) (q+1) g (by omega) (by omega) (by omega) (by rw[List.length_append,List.length_singleton];omega) hS1
    refine⟨d',?_,g2.wm,by have:=g2.n;omega,g2.rows⟩
    rw[g1]
    simp only[cond_true,List.filterMap_cons,hp,candG,List.flatMap_cons,List.foldl_append,List.map_cons,cellP,List.append_assoc,List.singleton_append]
end Go.DN.So
