/-
  Orders: the plain law of OrderFinds: who is in whose way; the parts of order.uQ.
-/
import Derived.Test.YtfkigaldejbeiaaFmB
set_option linter.unusedSimpArgs false
set_option linter.unusedVariables false
namespace Go.DN.So
open Go.AM Go.DN
def jI (n:aM) (a:bK) (x:List Int):Option (Int×Int):=if 0≤dR a.At x∧dR a.At x<n.cC.getD a.Array.toNat 0 then some (a.Array,dR a.At x) else none
def pG (n:aM) (q:bE):Option c9:=n.bC[q.Stmt.toNat]?
def pS (n:aM) (q:bE):Option (Int×Int):=match pG n q with | some s=>jI n s.cg q.At | none=>none
def og (n:aM) (q:bE):List (Int×Int):=match pG n q with | some s=>s.de.filterMap fun g=>jI n g q.At | none=>[]
def oq (n:aM) (q:bE):Bool:=match pG n q with | some s=>s.Do==9||s.Do==10 | none=>false
theorem Mj {n:aM}{p:bu}{a:bK}(ga:qx n p a):idx n.cC a.Array=some (n.cC.getD a.Array.toNat 0):=by
 obtain⟨k,hk⟩:=kZ ga.lo
 have hh:=ga.hi
 rw[hk] at hh⊢
 have:k<n.cC.length:=by omega
 rw[bc,aE,ag this]
 exact bM (ag this)
theorem Fs (fu:Nat){n:aM}{p:bu}(g:Good p){a:bK}(ga:qx n p a){x:List Int}(hx:ku x) (hl:x.length=p.aU.length) (hf:10<fu):
  F.mY fu n a x=some (⟨a.Array,dR a.At x⟩,(jI n a x).isSome):=by
 have e0:=LM fu (g.with ga.row) (r:=a.At) (by simp) hx hl hf
 unfold F.mY jI
 simp only[e0,ae,Mj ga]
 by_cases h0:0≤dR a.At x
 ·rw[PL.du (show dR a.At x≥0 from h0)]
  simp only[cond_true,ae]
  by_cases h1:dR a.At x<n.cC.getD a.Array.toNat 0
  ·rw[PL.du h1,if_pos ⟨h0,h1⟩];rfl
  ·rw[PL.cA h1,if_neg (fun h=>h1 h.2)];rfl
 ·rw[PL.cA (show ¬dR a.At x≥0 from h0),if_neg (fun h=>h0 h.1)];rfl
theorem Hd {n:aM}{a:bK}{x:List Int}{c:Int×Int}(h:jI n a x=some c):c=(a.Array,dR a.At x):=by
 unfold jI at h
 split at h
 ·cases h;rfl
 ·cases h
structure zP (d d':bH) (m:Nat):Prop where
 wm:WM d'
 n:d'.n≤d.n+m
 rows:∀a b j,cv d' a b j=cv d a b j
theorem zP.refl {d:bH}(w:WM d):zP d d 0:=⟨w,az _,fun _ _ _=>rfl⟩
theorem zP.step {d d' d'':bH}{m:Nat}(h:zP d d' m) (s:SS d' d''):zP d d'' (m+1):=⟨s.wm,by have:=h.n;have:=s.n;omega,fun a b j=>(s.rows a b j).trans (h.rows a b j)⟩
structure wO (d d':bH) (m:Nat) (x:Int) (R:Int→Int→Nat→Prop):Prop where
 wm:WM d'
 n:d'.n≤d.n+2*m
 len:∀a b j,(cv d' a b j).length≤(cv d a b j).length+m
 mem:∀a b j y,y∈cv d' a b j↔y∈cv d a b j∨(y=x∧R a b j)
theorem wO.refl {d:bH}(w:WM d) (x:Int):wO d d 0 x fun _ _ _=>False:=⟨w,by omega,fun _ _ _=>az _,fun a b j y=>⟨.inl,fun h=>h.elim id fun h=>h.2.elim⟩⟩
theorem wO.comp {d d' d'':bH}{m m':Nat}{x:Int}{R R':Int→Int→Nat→Prop}(h:wO d d' m x R) (h':wO d' d'' m' x R'):wO d d'' (m+m') x fun a b j=>R a b j∨R' a b j:=
 ⟨h'.wm,by have:=h.n;have:=h'.n;omega,fun a b j=>by have:=h.len a b j;have:=h'.len a b j;omega,fun a b j y=>by
  rw[h'.mem,h.mem]
  constructor
  ·rintro((h | ⟨h1,h2⟩) | ⟨h1,h2⟩)
   ·exact .inl h
   ·exact .inr ⟨h1,.inl h2⟩
   ·exact .inr ⟨h1,.inr h2⟩
  ·rintro(h | ⟨h1,h2 | h2⟩)
   ·exact .inl (.inl h)
   ·exact .inl (.inr ⟨h1,h2⟩)
   ·exact .inr ⟨h1,h2⟩⟩
theorem WM.f3 {d:bH}(w:WM d){a b:Int}{e:bS}(h:gF d.es a b=some e){j:Nat}(hj:j<3):∃z,e.f[j]?=some (z,cv d a b j):=by
 obtain⟨hm,_⟩:=oQ h
 have:j<e.f.length:=by rw[w.len e hm];exact hj
 have e1:e.f[j]?=some e.f[j]:=ag this
 refine⟨e.f[j].1,?_⟩
 unfold cv
 rw[h]
 simp only[e1]
theorem wO.one (fu:Nat){d:bH}(w:WM d) (hn:d.n≤90000) (hl:∀a b j,(cv d a b j).length≤90000) (c:g7){j:Nat}(hj:j<3) (x:Int):
  ∃(e:bS) (d1 d2 d3:bH) (z:Nat) (l:List Int),F.b5 fu c d=some (false,((e.t:Nat):Int),((0:Nat):Int),d1)∧F.b5 fu c d1=some (false,((e.t:Nat):Int),((0:Nat):Int),d1)∧iz d1.es e.t j=some (z,l)∧pX d1 z l.length x 8=some d2∧kf d2 e.t j d1.n (l.length+1)=some d3∧
   wO d d3 1 x fun a b j'=>(a,b)=(c.array,c.at_)∧j'=j:=by
 obtain⟨e,d1,h1,h2,h3,s⟩:=IR fu w (by omega) c
 obtain⟨z,hz⟩:=s.wm.f3 h3 hj
 obtain⟨hm,_⟩:=oQ h3
 have hlen:=hl c.array c.at_ j
 rw[←s.rows] at hlen
 obtain⟨d2,q1,q2⟩:=s.wm.gz (by have:=s.n;omega) hm hz (by omega) x
 refine⟨e,d1,d2,_,z,_,h1,h2,by rw[s.wm.Nk hm];exact hz,q1,q2,s.wm.fV hm hj _ _,?_,fun a b j'=>?_,fun a b j' y=>?_⟩
 ·show d1.n+1≤d.n+2*1
  have:=s.n
  omega
 ·rw[GV s.wm h3 hz,←s.rows]
  split
  ·rename_i h
   obtain⟨rfl,rfl,rfl⟩:=h
   rw[ak,cS]
   exact az _
  ·omega
 ·rw[GV s.wm h3 hz,←s.rows a b j']
  split
  ·rename_i h
   obtain⟨rfl,rfl,rfl⟩:=h
   rw[cP,cu]
   exact or_congr Iff.rfl ⟨fun h=>⟨h,rfl,rfl⟩,fun h=>h.1⟩
  ·rename_i h
   exact⟨.inl,fun h'=>h'.elim id fun h'=>absurd (by obtain⟨_,h1,h2⟩:=h';cases h1;exact⟨rfl,rfl,h2⟩) h⟩
def tc (c:Int×Int):g7:=⟨c.1,c.2⟩
def Ar (d:bH) (gs:List (Int×Int)):List Int:=gs.flatMap fun c=>cv d c.1 c.2 0++cv d c.1 c.2 1
theorem u6 {bd:af→af→Option Bool}(fu:Nat) (hf:100000<fu){n:aM}{s:c9}(gs:ix n s){b:af}(hx:ku b.aS.At) (hxl:b.aS.At.length=s.ba.aU.length){L:List af}{p:Int→Bool}(puts:Bool)
  {d0:bH}(hn:d0.n≤50000) (hl:∀a c j,(cv d0 a c j).length≤50000) (hs:∀a c j,Seen bd b p L (cv d0 a c j)):
  ∀(m k:Nat) (d:bH) (f:Int) (cs:List g7) (q aK:Nat),k+m=s.de.length→m<aK→q+m≤10→cs.length+m≤10→zP d0 d q→
   ∃d',aB (Gn.mX bd fu n b s puts) aK ((k:Int),d,f,L,b.aS.Stmt,b.aS.At,b.number,b.time,cs)=
     some (d',(Ar d0 (bif puts then(s.de.drop k).filterMap fun g=>jI n g b.aS.At else[])).foldl (eK p) f,L,b.aS.Stmt,b.aS.At,b.number,b.time,cs++(bif puts then(s.de.drop k).filterMap fun g=>jI n g b.aS.At else[]).map tc)∧zP d0 d' (q+m)
 | 0,k,d,f,cs,q,aK,hk,hm,hq,hcs,hS=>by
  obtain⟨g,rfl⟩:∃g,aK=g+1:=⟨aK-1,by omega⟩
  obtain rfl:k=s.de.length:=by omega
  refine⟨d,?_,hS⟩
  rw[eI (az _)]
  simp only[aB,Gn.mX,eF,cond_false]
  cases puts <;> simp[Ar]
 | m+1,k,d,f,cs,q,aK,hk,hm,hq,hcs,hS=>by
  obtain⟨g,rfl⟩:∃g,aK=g+1:=⟨aK-1,by omega⟩
  have hg3:=gs.le
  have hks:k<s.de.length:=by omega
  have hs0:s.de[k]?=some s.de[k]:=ag hks
  have hdrop:s.de.drop k=s.de[k]::s.de.drop (k+1):=bY hks
  generalize s.de[k]=a at hs0 hdrop
  have hw:=dh hks (by omega)
  have hc:=Fs fu gs.dm (gs.get a (ar hs0)) hx hxl (by omega)
  rw[hdrop]
  simp only[aB,Gn.mX,dec_lt hs0,cond_true,bM hs0,ae,hc]
  have skip:(bif puts then(a::s.de.drop (k+1)).filterMap fun g=>jI n g b.aS.At else[])=(bif puts then(s.de.drop (k+1)).filterMap fun g=>jI n g b.aS.At else[])→
    ∃d',aB (Gn.mX bd fu n b s puts) g (((k+1:Nat):Int),d,f,L,b.aS.Stmt,b.aS.At,b.number,b.time,cs)=
     some (d',(Ar d0 (bif puts then(a::s.de.drop (k+1)).filterMap fun g=>jI n g b.aS.At else[])).foldl (eK p) f,L,b.aS.Stmt,b.aS.At,b.number,b.time,cs++(bif puts then(a::s.de.drop (k+1)).filterMap fun g=>jI n g b.aS.At else[]).map tc)∧zP d0 d' (q+(m+1)):=fun e=>by
   rw[e]
   obtain⟨d',h1,h2⟩:=u6 fu hf gs hx hxl puts hn hl hs m (k+1) d f cs q g (by omega) (by omega) (by omega) (by omega) hS
   exact⟨d',h1,h2.wm,by have:=h2.n;omega,h2.rows⟩
  cases hp:jI n a b.aS.At with
  | none=>
   simp only[Option.isSome_none,cond_false,ae,hw]
   rw[show(a::s.de.drop (k+1)).filterMap (fun g=>jI n g b.aS.At)=(s.de.drop (k+1)).filterMap (fun g=>jI n g b.aS.At) by rw[List.filterMap_cons,hp]] at skip⊢
   exact skip rfl
  | some c=>
   have hce:=Hd hp
   subst hce
   cases puts with
   | false=>
    simp only[lF,cond_true,cond_false,ae,hw]
    exact skip rfl
   | true=>
    obtain⟨e,d1,h1,h2,h3,st⟩:=IR fu hS.wm (by have:=hS.n;omega) ⟨a.Array,dR a.At b.aS.At⟩
    have hS1:=hS.step st
    obtain⟨z0,hz0⟩:=st.wm.f3 h3 (j:=0) (by omega)
    obtain⟨z1,hz1⟩:=st.wm.f3 h3 (j:=1) (by omega)
    obtain⟨hm1,_⟩:=oQ h3
    have hr:∀j,cv d1 a.Array (dR a.At b.aS.At) j=cv d0 a.Array (dR a.At b.aS.At) j:=fun j=>hS1.rows _ _ _
    have c0:∀(i:Nat) (x:Int),(cv d1 a.Array (dR a.At b.aS.At) 0)[i]?=some x→nM d1.es z0 i=some x:=fun i x hi=>st.wm.cell hm1 hz0 hi
    have c1:∀(i:Nat) (x:Int),(cv d1 a.Array (dR a.At b.aS.At) 1)[i]?=some x→nM d1.es z1 i=some x:=fun i x hi=>st.wm.cell hm1 hz1 hi
    have f0:iz d1.es e.t 0=some (z0,cv d1 a.Array (dR a.At b.aS.At) 0):=by rw[st.wm.Nk hm1];exact hz0
    have f1:iz d1.es e.t 1=some (z1,cv d1 a.Array (dR a.At b.aS.At) 1):=by rw[st.wm.Nk hm1];exact hz1
    rw[hr] at c0 c1 f0 f1
    have t:=L9 (bd:=bd) fu (L:=L) (b1:=b.aS.Stmt) (b2:=b.aS.At) (b3:=b.number) (b4:=b.time) (p:=p) (d:=d1) c0 c1 (hs _ _ _) (hs _ _ _) (by have:=hl a.Array (dR a.At b.aS.At) 0;omega) (by have:=hl a.Array (dR a.At b.aS.At) 1;omega) hf f
    have ck:bo (cs.length+[(⟨a.Array,dR a.At b.aS.At⟩:g7)].length≤maxLen∧(cs.length+[(⟨a.Array,dR a.At b.aS.At⟩:g7)].length)*16≤140737488355328)=some ():=bJ (by simp only[cS,maxLen];omega)
    have cT:bo (false=false)=some ():=bJ rfl
    simp only[lF,cond_true,ae,h1,h2,PL.LH,bc,bT,f0,f1,t,uw,ck,hw]
    obtain⟨d',g1,g2⟩:=u6 fu hf gs hx hxl true hn hl hs m (k+1) d1 ((cv d0 a.Array (dR a.At b.aS.At) 0++cv d0 a.Array (dR a.At b.aS.At) 1).foldl (eK p) f) (cs++[⟨a.Array,dR a.At b.aS.At⟩]) (q+1) g (by omega) (by omega) (by omega) (by rw[ak,cS];omega) hS1
    refine⟨d',?_,g2.wm,by have:=g2.n;omega,g2.rows⟩
    rw[g1]
    simp only[cond_true,List.filterMap_cons,hp,Ar,cp,iC,aJ,tc,aC,List.singleton_append]
end Go.DN.So
