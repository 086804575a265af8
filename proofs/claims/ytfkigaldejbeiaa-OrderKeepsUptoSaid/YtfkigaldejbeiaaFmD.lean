/-
  Orders: the plain law of OrderFinds: order.wv.
-/
import Derived.Test.YtfkigaldejbeiaaFmC
set_option linter.unusedSectionVars false
set_option linter.unusedSimpArgs false
set_option linter.unusedVariables false
namespace Go.DN.So
open Go.AM Go.DN
theorem yg (fu:Nat){b:ae}{cs:List gV}(hcs:cs.length≤10):∀(m k:Nat) (d:bC) (aI:Nat),k+m=cs.length→m<aI→WM d→d.n+2*m≤90000→(∀a c j,(cr d a c j).length+m≤90000)→
  ∃d',aB (Gn.qt fu b cs) aI ((k:Int),d)=some d'∧vW d d' m b.number fun a c j=>(a,c)∈(cs.drop k).map (fun x=>(x.array,x.at_))∧j=2
 | 0,k,d,aI,hk,hm,w,hn,hl=>by
  obtain⟨g,rfl⟩:∃g,aI=g+1:=⟨aI-1,by omega⟩
  obtain rfl:k=cs.length:=by omega
  refine⟨d,by simp only[aB,Gn.qt,ff,cond_false],w,by omega,fun _ _ _=>az _,fun a c j y=>?_⟩
  rw[eE (az _)]
  exact⟨.inl,fun h=>h.elim id fun h=>by cases h.2.1⟩
 | m+1,k,d,aI,hk,hm,w,hn,hl=>by
  obtain⟨g,rfl⟩:∃g,aI=g+1:=⟨aI-1,by omega⟩
  have hks:k<cs.length:=by omega
  have hs0:cs[k]?=some cs[k]:=ag hks
  have hdrop:cs.drop k=cs[k]::cs.drop (k+1):=bV hks
  generalize cs[k]=c at hs0 hdrop
  have hw:=du hks (by omega)
  obtain⟨e,d1,d2,d3,z,l,h1,h2,h3,h4,h5,h6⟩:=vW.one fu w (by omega) (fun a c j=>by have:=hl a c j;omega) c (j:=2) (by omega) b.number
  obtain⟨d',g1,g2⟩:=yg fu (b:=b) hcs m (k+1) d3 g (by omega) (by omega) h6.wm (by have:=h6.n;omega) (fun a c j=>by have:=hl a c j;have:=h6.len a c j;omega)
  refine⟨d',?_,?_⟩
  ·simp only[aB,Gn.qt,dec_lt hs0,cond_true,bJ hs0,ab,h1,h2,PL.KO,bh,bQ,h3,h4,h5,tS,rN,hw]
   exact g1
  ·obtain⟨w1,w2,w3,w4⟩:=h6.comp g2
   refine⟨w1,by omega,fun a c j=>by have:=w3 a c j;omega,fun a c' j y=>?_⟩
   rw[w4,hdrop]
   refine or_congr Iff.rfl (and_congr Iff.rfl ?_)
   rw[aH,aX]
   constructor
   ·rintro(⟨h,h'⟩ | ⟨h,h'⟩)
    ·exact⟨.inl h,h'⟩
    ·exact⟨.inr h,h'⟩
   ·rintro⟨h | h,h'⟩
    ·exact .inl ⟨h,h'⟩
    ·exact .inr ⟨h,h'⟩
def tY (n:aP) (j:Nat) (c:Int×Int) (q:bE):Prop:=match j with
 | 0=>pA n q=some c∧nZ n q=false
 | 1=>pA n q=some c∧nZ n q=true
 | 2=>(pA n q).isSome=true∧c∈nV n q
 | _=>False
def sF (n:aP) (d:bC) (q:bE):List Int:=match pA n q with
 | none=>[]
 | some c=>((cr d c.1 c.2 0++cr d c.1 c.2 2)++(bif nZ n q then[] else cr d c.1 c.2 1))++zG d (nV n q)
theorem Nl {bd:ae→ae→Option Bool}(fu:Nat) (hf:100000<fu){n:aP}{b:ae}{s:dh}(hst:pi n b.aQ=some s) (h0:0≤b.aQ.Stmt) (gs:iD n s) (hx:kl b.aQ.At) (hxl:b.aQ.At.length=s.bI.ba.length)
  {L:List ae}{p:Int→Bool}{d:bC}(w:WM d) (hn:d.n≤40000) (hl:∀a c j,(cr d a c j).length≤40000) (hs:∀a c j,Seen bd b p L (cr d a c j)):
  ∃d',Gn.wv bd fu n b d (-1) L b.aQ.Stmt b.aQ.At b.number b.time=some (d',(sF n d b.aQ).foldl (eG p) (-1),L,b.aQ.Stmt,b.aQ.At,b.number,b.time)∧
   WM d'∧d'.n≤d.n+12∧(∀a c j,(cr d' a c j).length≤(cr d a c j).length+4)∧∀a c j y,y∈cr d' a c j↔y∈cr d a c j∨(y=b.number∧tY n j (a,c) b.aQ):=by
 have hg3:=gs.le
 have hix:idx n.cd b.aQ.Stmt=some s:=QW h0 hst
 have hc:=EI fu gs.dz gs.put hx hxl (by omega)
 have hadd:(cond (s.Do==9) (some true) (some (s.Do==10)):Option Bool)=some (nZ n b.aQ):=by
  unfold nZ;rw[hst]
  show _=some (s.Do==9||s.Do==10)
  cases (s.Do==9) <;> rfl
 have hown:pA n b.aQ=jD n s.cf b.aQ.At:=by unfold pA;rw[hst]
 have fg:nV n b.aQ=s.c9.filterMap fun g=>jD n g b.aQ.At:=by unfold nV;rw[hst]
 unfold Gn.wv
 simp only[hix,ab,hc,hadd]
 cases hp:jD n s.cf b.aQ.At with
 | none=>
  rw[hp] at hown
  obtain⟨d1,g1,g2⟩:=uD (bd:=bd) fu hf gs hx hxl (L:=L) (p:=p) false (by omega:d.n≤50000) (fun a c j=>by have:=hl a c j;omega) hs s.c9.length 0 d (-1) [] 0 fu (by omega) (by omega) (by omega) (by simp;omega) (za.refl w)
  have g1:aB (Gn.mO bd fu n b s false) fu (0,d,-1,L,b.aQ.Stmt,b.aQ.At,b.number,b.time,[])=some (d1,-1,L,b.aQ.Stmt,b.aQ.At,b.number,b.time,[]):=g1
  obtain⟨d2,p1,p2⟩:=yg fu (b:=b) (cs:=[]) (by simp) 0 0 d1 fu rfl (by omega) g2.wm (by have:=g2.n;omega) (fun a c j=>by rw[g2.rows];have:=hl a c j;omega)
  have p1:aB (Gn.qt fu b []) fu (0,d1)=some d2:=p1
  refine⟨d2,?_,p2.wm,by have:=p2.n;have:=g2.n;omega,fun a c j=>by have:=p2.len a c j;rw[g2.rows] at this;omega,fun a c j y=>?_⟩
  ·simp only[Option.isSome_none,cond_false,ab,g1,p1]
   unfold sF
   rw[hown];rfl
  ·rw[p2.mem,g2.rows]
   refine or_congr Iff.rfl (and_congr Iff.rfl ⟨(fun h=>by cases h.1),fun h=>?_⟩)
   exfalso
   unfold tY at h
   rw[hown] at h
   split at h
   ·cases h.1
   ·cases h.1
   ·cases h.1
   ·exact h
 | some c=>
  rw[hp] at hown
  have hce:=Gk hp
  obtain⟨e,d1,a1,a2,a3,st⟩:=HX fu w (by omega) ⟨s.cf.Array,ei s.cf.At b.aQ.At⟩
  have hS1:=(za.refl w).step st
  obtain⟨hm1,_⟩:=oC a3
  have hr:∀j,cr d1 s.cf.Array (ei s.cf.At b.aQ.At) j=cr d c.1 c.2 j:=fun j=>by rw[hce];exact hS1.rows _ _ _
  have hz:∀j,j<3→∃z,il d1.es e.t j=some (z,cr d c.1 c.2 j)∧∀(i:Nat) (x:Int),(cr d c.1 c.2 j)[i]?=some x→nA d1.es z i=some x:=fun j hj=>by
   obtain⟨z,h⟩:=st.wm.f3 a3 hj
   simp only[hr] at h
   exact⟨z,by rw[st.wm.Mr hm1];exact h,fun i x hi=>st.wm.cell hm1 h hi⟩
  obtain⟨z0,f0,c0⟩:=hz 0 (by omega)
  obtain⟨z1,f1,c1⟩:=hz 1 (by omega)
  obtain⟨z2,f2,c2⟩:=hz 2 (by omega)
  have ln:=fun j=>(by have:=hl c.1 c.2 j;omega:(cr d c.1 c.2 j).length≤100000)
  have t1:=Le (bd:=bd) fu (L:=L) (b1:=b.aQ.Stmt) (b2:=b.aQ.At) (b3:=b.number) (b4:=b.time) (p:=p) (d:=d1) c0 c2 (hs _ _ _) (hs _ _ _) (ln 0) (ln 2) hf (-1)
  have t2:=QA (bd:=bd) fu (L:=L) (b1:=b.aQ.Stmt) (b2:=b.aQ.At) (b3:=b.number) (b4:=b.time) (p:=p) (d:=d1) c1 (hs _ _ _) (ln 1) hf ((cr d c.1 c.2 0++cr d c.1 c.2 2).foldl (eG p) (-1))
  have G:=fun F0:Int=>uD (bd:=bd) fu hf gs hx hxl (L:=L) (p:=p) true (by omega:d.n≤50000) (fun a c j=>by have:=hl a c j;omega) hs s.c9.length 0 d1 F0 [] 1 fu (by omega) (by omega) (by omega) (by simp;omega) hS1
  have fin:∀(d2 d3:bC) (j0:Nat),za d d2 (1+s.c9.length)→vW d2 d3 1 b.number (fun a c' j'=>(a,c')=(s.cf.Array,ei s.cf.At b.aQ.At)∧j'=j0)→(j0=bif nZ n b.aQ then 1 else 0)→
    ∃d4,aB (Gn.qt fu b ((nV n b.aQ).map sE)) fu (0,d3)=some d4∧WM d4∧d4.n≤d.n+12∧(∀a c j,(cr d4 a c j).length≤(cr d a c j).length+4)∧∀a c j y,y∈cr d4 a c j↔y∈cr d a c j∨(y=b.number∧tY n j (a,c) b.aQ):=by
   intro d2 d3 j0 s2 g3 hj0
   have hgl:(nV n b.aQ).length≤3:=by rw[fg];exact cH (List.length_filterMap_le _ _) hg3
   have hcl:((nV n b.aQ).map sE).length≤3:=by rw[a5];exact hgl
   obtain⟨d4,p1,p2⟩:=yg fu (b:=b) (cs:=(nV n b.aQ).map sE) (by omega) ((nV n b.aQ).map sE).length 0 d3 fu (by omega) (by omega) g3.wm (by have:=g3.n;have:=s2.n;omega) (fun a c j=>by
    have:=g3.len a c j
    rw[s2.rows] at this
    have:=hl a c j
    omega)
   refine⟨d4,p1,p2.wm,by have:=p2.n;have:=g3.n;have:=s2.n;omega,fun a c j=>by
    have h1:=p2.len a c j
    have h2:=g3.len a c j
    rw[s2.rows] at h2
    omega,fun a c' j y=>?_⟩
   rw[p2.mem,g3.mem,s2.rows,or_assoc]
   refine or_congr Iff.rfl ?_
   rw[←and_or_left]
   refine and_congr Iff.rfl ?_
   have hmap:((nV n b.aQ).map sE).map (fun x=>(x.array,x.at_))=nV n b.aQ:=by
    rw[gd]
    have:((fun x:gV=>(x.array,x.at_))∘sE)=id:=rfl
    rw[this,List.map_id]
   rw[eD,hmap]
   unfold tY
   rw[hown,hce]
   constructor
   ·rintro(⟨h,rfl⟩ | ⟨h,rfl⟩)
    ·cases ha:nZ n b.aQ with
     | true=>rw[ha] at hj0;subst hj0;exact⟨by rw[h],rfl⟩
     | false=>rw[ha] at hj0;subst hj0;exact⟨by rw[h],rfl⟩
    ·exact⟨rfl,h⟩
   ·intro h
    split at h
    ·rw[h.2] at hj0
     exact .inl ⟨by have:=h.1;cases this;rfl,hj0.symm⟩
    ·rw[h.2] at hj0
     exact .inl ⟨by have:=h.1;cases this;rfl,hj0.symm⟩
    ·exact .inr ⟨h.2,rfl⟩
    ·exact h.elim
  cases ha:nZ n b.aQ with
  | true=>
   obtain⟨d2,g1,g2⟩:=G ((cr d c.1 c.2 0++cr d c.1 c.2 2).foldl (eG p) (-1))
   obtain⟨e',b1,b2,b3,z,l,q1,q2,q3,q4,q5,q6⟩:=vW.one fu g2.wm (by have:=g2.n;omega) (fun a c j=>by rw[g2.rows];have:=hl a c j;omega) ⟨s.cf.Array,ei s.cf.At b.aQ.At⟩ (j:=1) (by omega) b.number
   obtain⟨d4,p1,p2⟩:=fin d2 b3 1 g2 q6 (by rw[ha];rfl)
   refine⟨d4,?_,p2⟩
   simp only[eD,←fg,cond_true,dc,Int.natCast_zero] at g1
   have g1:aB (Gn.mO bd fu n b s true) fu (0,d1,(cr d c.1 c.2 0++cr d c.1 c.2 2).foldl (eG p) (-1),L,b.aQ.Stmt,b.aQ.At,b.number,b.time,[])=_:=g1
   simp only[lu,cond_true,cond_false,ab,a1,PL.KO,bh,bQ,f0,f2,t1,tS,jL,g1,q1,q2,q3,q4,q5,rN,p1]
   unfold sF
   rw[hown,ha]
   simp only[cond_true,b9,iu]
  | false=>
   obtain⟨d2,g1,g2⟩:=G ((cr d c.1 c.2 1).foldl (eG p) ((cr d c.1 c.2 0++cr d c.1 c.2 2).foldl (eG p) (-1)))
   obtain⟨e',b1,b2,b3,z,l,q1,q2,q3,q4,q5,q6⟩:=vW.one fu g2.wm (by have:=g2.n;omega) (fun a c j=>by rw[g2.rows];have:=hl a c j;omega) ⟨s.cf.Array,ei s.cf.At b.aQ.At⟩ (j:=0) (by omega) b.number
   obtain⟨d4,p1,p2⟩:=fin d2 b3 0 g2 q6 (by rw[ha];rfl)
   refine⟨d4,?_,p2⟩
   simp only[eD,←fg,cond_true,dc,Int.natCast_zero] at g1
   have g1:aB (Gn.mO bd fu n b s true) fu (0,d1,(cr d c.1 c.2 1).foldl (eG p) ((cr d c.1 c.2 0++cr d c.1 c.2 2).foldl (eG p) (-1)),L,b.aQ.Stmt,b.aQ.At,b.number,b.time,[])=_:=g1
   simp only[lu,cond_true,cond_false,ab,a1,PL.KO,bh,bQ,f0,f1,f2,t1,t2,tS,iw,g1,q1,q2,q3,q4,q5,rN,p1]
   unfold sF
   rw[hown,ha]
   simp only[cond_false,iu]
end Go.DN.So
