/-
  Orders: the plain law of OrderFinds: order.uQ.
-/
import Derived.Test.YtfkigaldejbeiaaFmC
set_option linter.unusedSimpArgs false
set_option linter.unusedVariables false
namespace Go.DN.So
open Go.AM Go.DN
theorem yV (fu:Nat){b:af}{cs:List g7}(hcs:cs.length≤10):∀(m k:Nat) (d:bH) (aK:Nat),k+m=cs.length→m<aK→WM d→d.n+2*m≤90000→(∀a c j,(cv d a c j).length+m≤90000)→
  ∃d',aB (Gn.qJ fu b cs) aK ((k:Int),d)=some d'∧wO d d' m b.number fun a c j=>(a,c)∈(cs.drop k).map (fun x=>(x.array,x.at_))∧j=2
 | 0,k,d,aK,hk,hm,w,hn,hl=>by
  obtain⟨g,rfl⟩:∃g,aK=g+1:=⟨aK-1,by omega⟩
  obtain rfl:k=cs.length:=by omega
  refine⟨d,by simp only[aB,Gn.qJ,eF,cond_false],w,by omega,fun _ _ _=>az _,fun a c j y=>?_⟩
  rw[eI (az _)]
  exact⟨.inl,fun h=>h.elim id fun h=>by cases h.2.1⟩
 | m+1,k,d,aK,hk,hm,w,hn,hl=>by
  obtain⟨g,rfl⟩:∃g,aK=g+1:=⟨aK-1,by omega⟩
  have hks:k<cs.length:=by omega
  have hs0:cs[k]?=some cs[k]:=ag hks
  have hdrop:cs.drop k=cs[k]::cs.drop (k+1):=bY hks
  generalize cs[k]=c at hs0 hdrop
  have hw:=dh hks (by omega)
  obtain⟨e,d1,d2,d3,z,l,h1,h2,h3,h4,h5,h6⟩:=wO.one fu w (by omega) (fun a c j=>by have:=hl a c j;omega) c (j:=2) (by omega) b.number
  obtain⟨d',g1,g2⟩:=yV fu (b:=b) hcs m (k+1) d3 g (by omega) (by omega) h6.wm (by have:=h6.n;omega) (fun a c j=>by have:=hl a c j;have:=h6.len a c j;omega)
  refine⟨d',?_,?_⟩
  ·simp only[aB,Gn.qJ,dec_lt hs0,cond_true,bM hs0,ae,h1,h2,PL.LH,bc,bT,h3,h4,h5,uw,sn,hw]
   exact g1
  ·obtain⟨w1,w2,w3,w4⟩:=h6.comp g2
   refine⟨w1,by omega,fun a c j=>by have:=w3 a c j;omega,fun a c' j y=>?_⟩
   rw[w4,hdrop]
   refine or_congr Iff.rfl (and_congr Iff.rfl ?_)
   rw[aJ,aZ]
   constructor
   ·rintro(⟨h,h'⟩ | ⟨h,h'⟩)
    ·exact⟨.inl h,h'⟩
    ·exact⟨.inr h,h'⟩
   ·rintro⟨h | h,h'⟩
    ·exact .inl ⟨h,h'⟩
    ·exact .inr ⟨h,h'⟩
def uC (n:aM) (j:Nat) (c:Int×Int) (q:bE):Prop:=match j with
 | 0=>pS n q=some c∧oq n q=false
 | 1=>pS n q=some c∧oq n q=true
 | 2=>(pS n q).isSome=true∧c∈og n q
 | _=>False
def td (n:aM) (d:bH) (q:bE):List Int:=match pS n q with
 | none=>[]
 | some c=>((cv d c.1 c.2 0++cv d c.1 c.2 2)++(bif oq n q then[] else cv d c.1 c.2 1))++Ar d (og n q)
theorem Oi {bd:af→af→Option Bool}(fu:Nat) (hf:100000<fu){n:aM}{b:af}{s:c9}(hst:pG n b.aS=some s) (h0:0≤b.aS.Stmt) (gs:ix n s) (hx:ku b.aS.At) (hxl:b.aS.At.length=s.ba.aU.length)
  {L:List af}{p:Int→Bool}{d:bH}(w:WM d) (hn:d.n≤40000) (hl:∀a c j,(cv d a c j).length≤40000) (hs:∀a c j,Seen bd b p L (cv d a c j)):
  ∃d',Gn.uQ bd fu n b d (-1) L b.aS.Stmt b.aS.At b.number b.time=some (d',(td n d b.aS).foldl (eK p) (-1),L,b.aS.Stmt,b.aS.At,b.number,b.time)∧
   WM d'∧d'.n≤d.n+12∧(∀a c j,(cv d' a c j).length≤(cv d a c j).length+4)∧∀a c j y,y∈cv d' a c j↔y∈cv d a c j∨(y=b.number∧uC n j (a,c) b.aS):=by
 have hg3:=gs.le
 have hix:idx n.bC b.aS.Stmt=some s:=RM h0 hst
 have hc:=Fs fu gs.dm gs.put hx hxl (by omega)
 have hadd:(cond (s.Do==9) (some true) (some (s.Do==10)):Option Bool)=some (oq n b.aS):=by
  unfold oq;rw[hst]
  show _=some (s.Do==9||s.Do==10)
  cases (s.Do==9) <;> rfl
 have hown:pS n b.aS=jI n s.cg b.aS.At:=by unfold pS;rw[hst]
 have fo:og n b.aS=s.de.filterMap fun g=>jI n g b.aS.At:=by unfold og;rw[hst]
 unfold Gn.uQ
 simp only[hix,ae,hc,hadd]
 cases hp:jI n s.cg b.aS.At with
 | none=>
  rw[hp] at hown
  obtain⟨d1,g1,g2⟩:=u6 (bd:=bd) fu hf gs hx hxl (L:=L) (p:=p) false (by omega:d.n≤50000) (fun a c j=>by have:=hl a c j;omega) hs s.de.length 0 d (-1) [] 0 fu (by omega) (by omega) (by omega) (by simp;omega) (zP.refl w)
  have g1:aB (Gn.mX bd fu n b s false) fu (0,d,-1,L,b.aS.Stmt,b.aS.At,b.number,b.time,[])=some (d1,-1,L,b.aS.Stmt,b.aS.At,b.number,b.time,[]):=g1
  obtain⟨d2,p1,p2⟩:=yV fu (b:=b) (cs:=[]) (by simp) 0 0 d1 fu rfl (by omega) g2.wm (by have:=g2.n;omega) (fun a c j=>by rw[g2.rows];have:=hl a c j;omega)
  have p1:aB (Gn.qJ fu b []) fu (0,d1)=some d2:=p1
  refine⟨d2,?_,p2.wm,by have:=p2.n;have:=g2.n;omega,fun a c j=>by have:=p2.len a c j;rw[g2.rows] at this;omega,fun a c j y=>?_⟩
  ·simp only[Option.isSome_none,cond_false,ae,g1,p1]
   unfold td
   rw[hown];rfl
  ·rw[p2.mem,g2.rows]
   refine or_congr Iff.rfl (and_congr Iff.rfl ⟨(fun h=>by cases h.1),fun h=>?_⟩)
   exfalso
   unfold uC at h
   rw[hown] at h
   split at h
   ·cases h.1
   ·cases h.1
   ·cases h.1
   ·exact h
 | some c=>
  rw[hp] at hown
  have hce:=Hd hp
  obtain⟨e,d1,a1,a2,a3,st⟩:=IR fu w (by omega) ⟨s.cg.Array,dR s.cg.At b.aS.At⟩
  have hS1:=(zP.refl w).step st
  obtain⟨hm1,_⟩:=oQ a3
  have hr:∀j,cv d1 s.cg.Array (dR s.cg.At b.aS.At) j=cv d c.1 c.2 j:=fun j=>by rw[hce];exact hS1.rows _ _ _
  have hz:∀j,j<3→∃z,iz d1.es e.t j=some (z,cv d c.1 c.2 j)∧∀(i:Nat) (x:Int),(cv d c.1 c.2 j)[i]?=some x→nM d1.es z i=some x:=fun j hj=>by
   obtain⟨z,h⟩:=st.wm.f3 a3 hj
   simp only[hr] at h
   exact⟨z,by rw[st.wm.Nk hm1];exact h,fun i x hi=>st.wm.cell hm1 h hi⟩
  obtain⟨z0,f0,c0⟩:=hz 0 (by omega)
  obtain⟨z1,f1,c1⟩:=hz 1 (by omega)
  obtain⟨z2,f2,c2⟩:=hz 2 (by omega)
  have ln:=fun j=>(by have:=hl c.1 c.2 j;omega:(cv d c.1 c.2 j).length≤100000)
  have t1:=L9 (bd:=bd) fu (L:=L) (b1:=b.aS.Stmt) (b2:=b.aS.At) (b3:=b.number) (b4:=b.time) (p:=p) (d:=d1) c0 c2 (hs _ _ _) (hs _ _ _) (ln 0) (ln 2) hf (-1)
  have t2:=Rs (bd:=bd) fu (L:=L) (b1:=b.aS.Stmt) (b2:=b.aS.At) (b3:=b.number) (b4:=b.time) (p:=p) (d:=d1) c1 (hs _ _ _) (ln 1) hf ((cv d c.1 c.2 0++cv d c.1 c.2 2).foldl (eK p) (-1))
  have G:=fun F0:Int=>u6 (bd:=bd) fu hf gs hx hxl (L:=L) (p:=p) true (by omega:d.n≤50000) (fun a c j=>by have:=hl a c j;omega) hs s.de.length 0 d1 F0 [] 1 fu (by omega) (by omega) (by omega) (by simp;omega) hS1
  have fin:∀(d2 d3:bH) (j0:Nat),zP d d2 (1+s.de.length)→wO d2 d3 1 b.number (fun a c' j'=>(a,c')=(s.cg.Array,dR s.cg.At b.aS.At)∧j'=j0)→(j0=bif oq n b.aS then 1 else 0)→
    ∃d4,aB (Gn.qJ fu b ((og n b.aS).map tc)) fu (0,d3)=some d4∧WM d4∧d4.n≤d.n+12∧(∀a c j,(cv d4 a c j).length≤(cv d a c j).length+4)∧∀a c j y,y∈cv d4 a c j↔y∈cv d a c j∨(y=b.number∧uC n j (a,c) b.aS):=by
   intro d2 d3 j0 s2 g3 hj0
   have hgl:(og n b.aS).length≤3:=by rw[fo];exact cB (List.length_filterMap_le _ _) hg3
   have hcl:((og n b.aS).map tc).length≤3:=by rw[aW];exact hgl
   obtain⟨d4,p1,p2⟩:=yV fu (b:=b) (cs:=(og n b.aS).map tc) (by omega) ((og n b.aS).map tc).length 0 d3 fu (by omega) (by omega) g3.wm (by have:=g3.n;have:=s2.n;omega) (fun a c j=>by
    have:=g3.len a c j
    rw[s2.rows] at this
    have:=hl a c j
    omega)
   refine⟨d4,p1,p2.wm,by have:=p2.n;have:=g3.n;have:=s2.n;omega,fun a c j=>by
    have h1:=p2.len a c j
    have h2:=g3.len a c j
    rw[s2.rows] at h2
    omega,fun a c' j y=>?_⟩
   rw[p2.mem,g3.mem,s2.rows,or_assoc]
   refine or_congr Iff.rfl ?_
   rw[←and_or_left]
   refine and_congr Iff.rfl ?_
   have hmap:((og n b.aS).map tc).map (fun x=>(x.array,x.at_))=og n b.aS:=by
    rw[fR]
    have:((fun x:g7=>(x.array,x.at_))∘tc)=id:=rfl
    rw[this,List.map_id]
   rw[eH,hmap]
   unfold uC
   rw[hown,hce]
   constructor
   ·rintro(⟨h,rfl⟩ | ⟨h,rfl⟩)
    ·cases ha:oq n b.aS with
     | true=>rw[ha] at hj0;subst hj0;exact⟨by rw[h],rfl⟩
     | false=>rw[ha] at hj0;subst hj0;exact⟨by rw[h],rfl⟩
    ·exact⟨rfl,h⟩
   ·intro h
    split at h
    ·rw[h.2] at hj0
     exact .inl ⟨by have:=h.1;cases this;rfl,hj0.symm⟩
    ·rw[h.2] at hj0
     exact .inl ⟨by have:=h.1;cases this;rfl,hj0.symm⟩
    ·exact .inr ⟨h.2,rfl⟩
    ·exact h.elim
  cases ha:oq n b.aS with
  | true=>
   obtain⟨d2,g1,g2⟩:=G ((cv d c.1 c.2 0++cv d c.1 c.2 2).foldl (eK p) (-1))
   obtain⟨e',b1,b2,b3,z,l,q1,q2,q3,q4,q5,q6⟩:=wO.one fu g2.wm (by have:=g2.n;omega) (fun a c j=>by rw[g2.rows];have:=hl a c j;omega) ⟨s.cg.Array,dR s.cg.At b.aS.At⟩ (j:=1) (by omega) b.number
   obtain⟨d4,p1,p2⟩:=fin d2 b3 1 g2 q6 (by rw[ha];rfl)
   refine⟨d4,?_,p2⟩
   simp only[eH,←fo,cond_true,dj,Int.natCast_zero] at g1
   have g1:aB (Gn.mX bd fu n b s true) fu (0,d1,(cv d c.1 c.2 0++cv d c.1 c.2 2).foldl (eK p) (-1),L,b.aS.Stmt,b.aS.At,b.number,b.time,[])=_:=g1
   simp only[lF,cond_true,cond_false,ae,a1,PL.LH,bc,bT,f0,f2,t1,uw,jQ,g1,q1,q2,q3,q4,q5,sn,p1]
   unfold td
   rw[hown,ha]
   simp only[cond_true,cc,iC]
  | false=>
   obtain⟨d2,g1,g2⟩:=G ((cv d c.1 c.2 1).foldl (eK p) ((cv d c.1 c.2 0++cv d c.1 c.2 2).foldl (eK p) (-1)))
   obtain⟨e',b1,b2,b3,z,l,q1,q2,q3,q4,q5,q6⟩:=wO.one fu g2.wm (by have:=g2.n;omega) (fun a c j=>by rw[g2.rows];have:=hl a c j;omega) ⟨s.cg.Array,dR s.cg.At b.aS.At⟩ (j:=0) (by omega) b.number
   obtain⟨d4,p1,p2⟩:=fin d2 b3 0 g2 q6 (by rw[ha];rfl)
   refine⟨d4,?_,p2⟩
   simp only[eH,←fo,cond_true,dj,Int.natCast_zero] at g1
   have g1:aB (Gn.mX bd fu n b s true) fu (0,d1,(cv d c.1 c.2 1).foldl (eK p) ((cv d c.1 c.2 0++cv d c.1 c.2 2).foldl (eK p) (-1)),L,b.aS.Stmt,b.aS.At,b.number,b.time,[])=_:=g1
   simp only[lF,cond_true,cond_false,ae,a1,PL.LH,bc,bT,f0,f1,f2,t1,t2,uw,iD,g1,q1,q2,q3,q4,q5,sn,p1]
   unfold td
   rw[hown,ha]
   simp only[cond_false,iC]
end Go.DN.So
