/-
  Orders: the plain law of OrderFinds: order.pairs.
-/
import Derived.Test.YtfkigaldejbeiaaFmC
set_option linter.unusedSectionVars false
set_option linter.unusedSimpArgs false
set_option linter.unusedVariables false
namespace Go.DN.So
open Go.AM Go.DN
theorem puts_loop (fu:Nat){b:Sspot}{cs:List Scell}(hcs:cs.length≤10):∀(m k:Nat) (d:MDat) (fuel:Nat),k+m=cs.length→m<fuel→WM d→d.n+2*m≤90000→(∀a c j,(rowsM d a c j).length+m≤90000)→
  ∃d',loopF (Gn.pairs_l2 fu b cs) fuel ((k:Int),d)=some d'∧Grw d d' m b.number fun a c j=>(a,c)∈(cs.drop k).map (fun x=>(x.array,x.at_))∧j=2
 | 0,k,d,fuel,hk,hm,w,hn,hl=>by
  obtain⟨g,rfl⟩:∃g,fuel=g+1:=⟨fuel-1,by omega⟩
  obtain rfl:k=cs.length:=by omega
  refine⟨d,by simp only[loopF,Gn.pairs_l2,dec_end,cond_false],w,by omega,fun _ _ _=>Nat.le_refl _,fun a c j y=>?_⟩
  rw[List.drop_eq_nil_of_le (Nat.le_refl _)]
  exact⟨.inl,fun h=>h.elim id fun h=>by cases h.2.1⟩
 | m+1,k,d,fuel,hk,hm,w,hn,hl=>by
  obtain⟨g,rfl⟩:∃g,fuel=g+1:=⟨fuel-1,by omega⟩
  have hks:k<cs.length:=by omega
  have hs0:cs[k]?=some cs[k]:=List.getElem?_eq_getElem hks
  have hdrop:cs.drop k=cs[k]::cs.drop (k+1):=List.drop_eq_getElem_cons hks
  generalize cs[k]=c at hs0 hdrop
  have hw:=wrap_succ hks (by omega)
  obtain⟨e,d1,d2,d3,z,l,h1,h2,h3,h4,h5,h6⟩:=Grw.one fu w (by omega) (fun a c j=>by have:=hl a c j;omega) c (j:=2) (by omega) b.number
  obtain⟨d',g1,g2⟩:=puts_loop fu (b:=b) hcs m (k+1) d3 g (by omega) (by omega) h6.wm (by have:=h6.n;omega) (fun a c j=>by have:=hl a c j;have:=h6.len a c j;omega)
  refine⟨d',?_,?_⟩
  ·simp only[loopF,Gn.pairs_l2,dec_lt hs0,cond_true,idx_nat hs0,Option.bind_some,h1,h2,PL.chkT,Int.toNat_natCast,Nat.zero_add,h3,h4,h5,amb_self,amb2_self,hw]
   exact g1
  ·obtain⟨w1,w2,w3,w4⟩:=h6.comp g2
   refine⟨w1,by omega,fun a c j=>by have:=w3 a c j;omega,fun a c' j y=>?_⟩
   rw[w4,hdrop]
   refine or_congr Iff.rfl (and_congr Iff.rfl ?_)
   rw[List.map_cons,List.mem_cons]
   constructor
   ·rintro(⟨h,h'⟩ | ⟨h,h'⟩)
    ·exact⟨.inl h,h'⟩
    ·exact⟨.inr h,h'⟩
   ·rintro⟨h | h,h'⟩
    ·exact .inl ⟨h,h'⟩
    ·exact .inr ⟨h,h'⟩
def RelQ (n:SNest) (j:Nat) (c:Int×Int) (q:SSpot):Prop:=match j with
 | 0=>ownQ n q=some c∧addQ n q=false
 | 1=>ownQ n q=some c∧addQ n q=true
 | 2=>(ownQ n q).isSome=true∧c∈getQ n q
 | _=>False
def candB (n:SNest) (d:MDat) (q:SSpot):List Int:=match ownQ n q with
 | none=>[]
 | some c=>((rowsM d c.1 c.2 0++rowsM d c.1 c.2 2)++(bif addQ n q then[] else rowsM d c.1 c.2 1))++candG d (getQ n q)
theorem pairs_ok {bd:Sspot→Sspot→Option Bool}(fu:Nat) (hf:100000<fu){n:SNest}{b:Sspot}{s:SStmt}(hst:stmtQ n b.Spot=some s) (h0:0≤b.Spot.Stmt) (gs:GoodS n s) (hx:Ran b.Spot.At) (hxl:b.Spot.At.length=s.Over.Box.length)
  {L:List Sspot}{p:Int→Bool}{d:MDat}(w:WM d) (hn:d.n≤40000) (hl:∀a c j,(rowsM d a c j).length≤40000) (hs:∀a c j,Seen bd b p L (rowsM d a c j)):
  ∃d',Gn.pairs bd fu n b d (-1) L b.Spot.Stmt b.Spot.At b.number b.time=some (d',(candB n d b.Spot).foldl (stepB p) (-1),L,b.Spot.Stmt,b.Spot.At,b.number,b.time)∧
   WM d'∧d'.n≤d.n+12∧(∀a c j,(rowsM d' a c j).length≤(rowsM d a c j).length+4)∧∀a c j y,y∈rowsM d' a c j↔y∈rowsM d a c j∨(y=b.number∧RelQ n j (a,c) b.Spot):=by
 have hg3:=gs.le
 have hix:idx n.Stmts b.Spot.Stmt=some s:=idxT h0 hst
 have hc:=cellOf_ok fu gs.over gs.put hx hxl (by omega)
 have hadd:(cond (s.Do==9) (some true) (some (s.Do==10)):Option Bool)=some (addQ n b.Spot):=by
  unfold addQ;rw[hst]
  show _=some (s.Do==9||s.Do==10)
  cases (s.Do==9) <;> rfl
 have hown:ownQ n b.Spot=plc n s.Put b.Spot.At:=by unfold ownQ;rw[hst]
 have hget:getQ n b.Spot=s.Get.filterMap fun g=>plc n g b.Spot.At:=by unfold getQ;rw[hst]
 unfold Gn.pairs
 simp only[hix,Option.bind_some,hc,hadd]
 cases hp:plc n s.Put b.Spot.At with
 | none=>
  rw[hp] at hown
  obtain⟨d1,g1,g2⟩:=gets_loop (bd:=bd) fu hf gs hx hxl (L:=L) (p:=p) false (by omega:d.n≤50000) (fun a c j=>by have:=hl a c j;omega) hs s.Get.length 0 d (-1) [] 0 fu (by omega) (by omega) (by omega) (by simp;omega) (Sam.refl w)
  have g1:loopF (Gn.pairs_l1 bd fu n b s false) fu (0,d,-1,L,b.Spot.Stmt,b.Spot.At,b.number,b.time,[])=some (d1,-1,L,b.Spot.Stmt,b.Spot.At,b.number,b.time,[]):=g1
  obtain⟨d2,p1,p2⟩:=puts_loop fu (b:=b) (cs:=[]) (by simp) 0 0 d1 fu rfl (by omega) g2.wm (by have:=g2.n;omega) (fun a c j=>by rw[g2.rows];have:=hl a c j;omega)
  have p1:loopF (Gn.pairs_l2 fu b []) fu (0,d1)=some d2:=p1
  refine⟨d2,?_,p2.wm,by have:=p2.n;have:=g2.n;omega,fun a c j=>by have:=p2.len a c j;rw[g2.rows] at this;omega,fun a c j y=>?_⟩
  ·simp only[Option.isSome_none,cond_false,Option.bind_some,g1,p1]
   unfold candB
   rw[hown];rfl
  ·rw[p2.mem,g2.rows]
   refine or_congr Iff.rfl (and_congr Iff.rfl ⟨(fun h=>by cases h.1),fun h=>?_⟩)
   exfalso
   unfold RelQ at h
   rw[hown] at h
   split at h
   ·cases h.1
   ·cases h.1
   ·cases h.1
   ·exact h
 | some c=>
  rw[hp] at hown
  have hce:=plc_some hp
  obtain⟨e,d1,a1,a2,a3,st⟩:=atM_ok fu w (by omega) ⟨s.Put.Array,atV s.Put.At b.Spot.At⟩
  have hS1:=(Sam.refl w).step st
  obtain⟨hm1,_⟩:=mget_mem a3
  have hr:∀j,rowsM d1 s.Put.Array (atV s.Put.At b.Spot.At) j=rowsM d c.1 c.2 j:=fun j=>by rw[hce];exact hS1.rows _ _ _
  have hz:∀j,j<3→∃z,mfld d1.es e.t j=some (z,rowsM d c.1 c.2 j)∧∀(i:Nat) (x:Int),(rowsM d c.1 c.2 j)[i]?=some x→mcell d1.es z i=some x:=fun j hj=>by
   obtain⟨z,h⟩:=st.wm.f3 a3 hj
   simp only[hr] at h
   exact⟨z,by rw[st.wm.fld hm1];exact h,fun i x hi=>st.wm.cell hm1 h hi⟩
  obtain⟨z0,f0,c0⟩:=hz 0 (by omega)
  obtain⟨z1,f1,c1⟩:=hz 1 (by omega)
  obtain⟨z2,f2,c2⟩:=hz 2 (by omega)
  have ln:=fun j=>(by have:=hl c.1 c.2 j;omega:(rowsM d c.1 c.2 j).length≤100000)
  have t1:=two_ok (bd:=bd) fu (L:=L) (b1:=b.Spot.Stmt) (b2:=b.Spot.At) (b3:=b.number) (b4:=b.time) (p:=p) (d:=d1) c0 c2 (hs _ _ _) (hs _ _ _) (ln 0) (ln 2) hf (-1)
  have t2:=one_ok (bd:=bd) fu (L:=L) (b1:=b.Spot.Stmt) (b2:=b.Spot.At) (b3:=b.number) (b4:=b.time) (p:=p) (d:=d1) c1 (hs _ _ _) (ln 1) hf ((rowsM d c.1 c.2 0++rowsM d c.1 c.2 2).foldl (stepB p) (-1))
  have G:=fun F0:Int=>gets_loop (bd:=bd) fu hf gs hx hxl (L:=L) (p:=p) true (by omega:d.n≤50000) (fun a c j=>by have:=hl a c j;omega) hs s.Get.length 0 d1 F0 [] 1 fu (by omega) (by omega) (by omega) (by simp;omega) hS1
  have fin:∀(d2 d3:MDat) (j0:Nat),Sam d d2 (1+s.Get.length)→Grw d2 d3 1 b.number (fun a c' j'=>(a,c')=(s.Put.Array,atV s.Put.At b.Spot.At)∧j'=j0)→(j0=bif addQ n b.Spot then 1 else 0)→
    ∃d4,loopF (Gn.pairs_l2 fu b ((getQ n b.Spot).map cellP)) fu (0,d3)=some d4∧WM d4∧d4.n≤d.n+12∧(∀a c j,(rowsM d4 a c j).length≤(rowsM d a c j).length+4)∧∀a c j y,y∈rowsM d4 a c j↔y∈rowsM d a c j∨(y=b.number∧RelQ n j (a,c) b.Spot):=by
   intro d2 d3 j0 s2 g3 hj0
   have hgl:(getQ n b.Spot).length≤3:=by rw[hget];exact Nat.le_trans (List.length_filterMap_le _ _) hg3
   have hcl:((getQ n b.Spot).map cellP).length≤3:=by rw[List.length_map];exact hgl
   obtain⟨d4,p1,p2⟩:=puts_loop fu (b:=b) (cs:=(getQ n b.Spot).map cellP) (by omega) ((getQ n b.Spot).map cellP).length 0 d3 fu (by omega) (by omega) g3.wm (by have:=g3.n;have:=s2.n;omega) (fun a c j=>by
    have:=g3.len a c j
    rw[s2.rows] at this
    have:=hl a c j
    omega)
   refine⟨d4,p1,p2.wm,by have:=p2.n;have:=g3.n;have:=s2.n;omega,fun a c j=>by
    have h1:=p2.len a c j
    have h2:=g3.len a c j
    rw[s2.rows] at h2
    omega,fun a c' j y=>?_⟩
   rw[p2.mem,g3.mem,s2.rows,or_assoc]
   refine or_congr Iff.rfl ?_
   rw[←and_or_left]
   refine and_congr Iff.rfl ?_
   have hmap:((getQ n b.Spot).map cellP).map (fun x=>(x.array,x.at_))=getQ n b.Spot:=by
    rw[List.map_map]
    have:((fun x:Scell=>(x.array,x.at_))∘cellP)=id:=rfl
    rw[this,List.map_id]
   rw[List.drop_zero,hmap]
   unfold RelQ
   rw[hown,hce]
   constructor
   ·rintro(⟨h,rfl⟩ | ⟨h,rfl⟩)
    ·cases ha:addQ n b.Spot with
     | true=>rw[ha] at hj0;subst hj0;exact⟨by rw[h],rfl⟩
     | false=>rw[ha] at hj0;subst hj0;exact⟨by rw[h],rfl⟩
    ·exact⟨rfl,h⟩
   ·intro h
    split at h
    ·rw[h.2] at hj0
     exact .inl ⟨by have:=h.1;cases this;rfl,hj0.symm⟩
    ·rw[h.2] at hj0
     exact .inl ⟨by have:=h.1;cases this;rfl,hj0.symm⟩
    ·exact .inr ⟨h.2,rfl⟩
    ·exact h.elim
  cases ha:addQ n b.Spot with
  | true=>
   obtain⟨d2,g1,g2⟩:=G ((rowsM d c.1 c.2 0++rowsM d c.1 c.2 2).foldl (stepB p) (-1))
   obtain⟨e',b1,b2,b3,z,l,q1,q2,q3,q4,q5,q6⟩:=Grw.one fu g2.wm (by have:=g2.n;omega) (fun a c j=>by rw[g2.rows];have:=hl a c j;omega) ⟨s.Put.Array,atV s.Put.At b.Spot.At⟩ (j:=1) (by omega) b.number
   obtain⟨d4,p1,p2⟩:=fin d2 b3 1 g2 q6 (by rw[ha];rfl)
   refine⟨d4,?_,p2⟩
   simp only[List.drop_zero,←hget,cond_true,List.nil_append,Int.natCast_zero] at g1
   have g1:loopF (Gn.pairs_l1 bd fu n b s true) fu (0,d1,(rowsM d c.1 c.2 0++rowsM d c.1 c.2 2).foldl (stepB p) (-1),L,b.Spot.Stmt,b.Spot.At,b.number,b.time,[])=_:=g1
   simp only[Option.isSome_some,cond_true,cond_false,Option.bind_some,a1,PL.chkT,Int.toNat_natCast,Nat.zero_add,f0,f2,t1,amb_self,Bool.not_true,g1,q1,q2,q3,q4,q5,amb2_self,p1]
   unfold candB
   rw[hown,ha]
   simp only[cond_true,List.append_nil,List.foldl_append]
  | false=>
   obtain⟨d2,g1,g2⟩:=G ((rowsM d c.1 c.2 1).foldl (stepB p) ((rowsM d c.1 c.2 0++rowsM d c.1 c.2 2).foldl (stepB p) (-1)))
   obtain⟨e',b1,b2,b3,z,l,q1,q2,q3,q4,q5,q6⟩:=Grw.one fu g2.wm (by have:=g2.n;omega) (fun a c j=>by rw[g2.rows];have:=hl a c j;omega) ⟨s.Put.Array,atV s.Put.At b.Spot.At⟩ (j:=0) (by omega) b.number
   obtain⟨d4,p1,p2⟩:=fin d2 b3 0 g2 q6 (by rw[ha];rfl)
   refine⟨d4,?_,p2⟩
   simp only[List.drop_zero,←hget,cond_true,List.nil_append,Int.natCast_zero] at g1
   have g1:loopF (Gn.pairs_l1 bd fu n b s true) fu (0,d1,(rowsM d c.1 c.2 1).foldl (stepB p) ((rowsM d c.1 c.2 0++rowsM d c.1 c.2 2).foldl (stepB p) (-1)),L,b.Spot.Stmt,b.Spot.At,b.number,b.time,[])=_:=g1
   simp only[Option.isSome_some,cond_true,cond_false,Option.bind_some,a1,PL.chkT,Int.toNat_natCast,Nat.zero_add,f0,f1,f2,t1,t2,amb_self,Bool.not_false,g1,q1,q2,q3,q4,q5,amb2_self,p1]
   unfold candB
   rw[hown,ha]
   simp only[cond_false,List.foldl_append]
end Go.DN.So
