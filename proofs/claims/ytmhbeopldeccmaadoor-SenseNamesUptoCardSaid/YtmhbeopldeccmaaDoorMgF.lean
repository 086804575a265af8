/-
  AM, third part.
-/
import Derived.Test.YtmhbeopldeccmaaDoorMgB
import Derived.Laws.CopyRow
import Derived.Laws.IdiomCopy
set_option linter.unusedSectionVars false
set_option linter.unusedSimpArgs false
set_option linter.unusedVariables false
/-
 AM,part BA:what a callee hands back of the blocks that were lent to it.
-/
namespace Go.AM
def gr:List (Nat×aq)→Nat→Bool
 | [],_=>false
 | (j,_)::r,x=>Nat.beq j x||gr r x
theorem I9 {st:List (Nat×aq)}{j:Nat}{k:aq}(h:ay st j=some k):gr st j=true:=by
 induction st with
 | nil=>cases h
 | cons x r ih=>
  obtain⟨y,k'⟩:=x
  simp only[ay,gr,cf] at h⊢
  cases hb:Nat.beq y j with
  | true=>exact .inl rfl
  | false=>rw[hb] at h;exact .inr (ih h)
theorem yY {st:List (Nat×aq)}{j:Nat}(h:gr st j=true):∃k,ay st j=some k:=by
 induction st with
 | nil=>cases h
 | cons x r ih=>
  obtain⟨y,k'⟩:=x
  simp only[ay,gr,cf] at h⊢
  cases hb:Nat.beq y j with
  | true=>exact⟨k',rfl⟩
  | false=>rw[hb] at h;exact ih (h.resolve_left (fun h=>by cases h))
def iP:List (Nat×aq)→List Nat→Nat→Option Nat
 | (j,_)::r,h::hs,x=>bif Nat.beq j x then some h else iP r hs x
 | _,_,_=>none
def qU:List (Nat×aq)→List Nat→Nat→Option Nat
 | (j,_)::r,h::hs,y=>bif Nat.beq h y then some j else qU r hs y
 | _,_,_=>none
def dw (vw:Bool) (f:Nat→Option Nat):G→Option G
 | .loc h off=>(f h).map fun x=>.loc x off
 | .aM h sz off m=>(f h).map fun x=>.aM x sz off m
 | .cT h=>(f h).map .cT
 | .eY h=>(f h).map .eY
 | .kp h i off=>(f h).map fun x=>.kp x i off
 | .ks h i sz n=>(f h).map fun x=>.ks x i sz n
 | .agg gs=>(go gs).map .agg
 | .aT gs=>(go gs).map .aT
 | .aR g gs=>(go gs).map (.aR g)
 | .val v=>some (.val v)
 | .cQ b=>some (.cQ b)
 | .fr g=>some (.fr g)
 | .sl n cs=>bif vw then none else some (.sl n cs)
 | .ptr cs=>bif vw then none else some (.ptr cs)
 | .any=>some .any
where go:List G→Option (List G)
 | []=>some []
 | g::r=>match dw vw f g,go r with
  | some g',some r'=>some (g'::r')
  | _,_=>none
theorem sY {vw:Bool}{f:Nat→Option Nat}:∀{gs gs':List G},dw.go vw f gs=some gs'→gs'.length=gs.length∧∀(j:Nat) (g':G),gs'[j]?=some g'→∃g,gs[j]?=some g∧dw vw f g=some g'
 | [],_,h=>by cases h;exact⟨rfl,fun j g h=>by simp at h⟩
 | g::r,gs',h=>by
  simp only[dw.go] at h
  cases h1:dw vw f g with
  | none=>rw[h1] at h;cases h
  | some g1=>
   rw[h1] at h
   cases h2:dw.go vw f r with
   | none=>rw[h2] at h;cases h
   | some r1=>
    rw[h2] at h
    cases h
    obtain⟨h3,h4⟩:=sY h2
    refine⟨by simp[h3],fun j g' hg'=>?_⟩
    cases j with
    | zero=>cases hg';exact⟨g,rfl,h1⟩
    | succ j=>exact h4 j g' hg'
def tv (vw:Bool) (f:Nat→Option Nat) (k:aq):Option aq:=
 bif k.pure then bif vw&&!k.fresh then none else some k else match dw.go vw f k.cells with
  | some cs=>some {k with cells:=cs}
  | none=>none
def qt:Option Kd→Bool
 | some (.loop _)=>true
 | _=>false
def xJ (st:List (Nat×aq)) (h:Nat):Bool:=match ay st h with
 | some k=>k.dC
 | none=>false
def jY (st st':List (Nat×aq)):List Nat→Nat→Bool
 | [],_=>true
 | h::r,i=>(match ay st h with
  | some k=>k.dC||(qt k.lp&&gr st' (1000+i))
  | none=>false)&&jY st st' r (i+1)
theorem AR {st st':List (Nat×aq)}:∀{r:List Nat}{i:Nat},jY st st' r i=true→∀{n h:Nat}{k:aq},r[n]?=some h→ay st h=some k→k.dC=true∨gr st' (1000+(i+n))=true
 | [],_,_,_,_,_,e,_=>by cases e
 | x::r,i,ha,n,h,k,e,hk=>by
  simp only[jY,ah] at ha
  cases n with
  | zero=>
   cases e
   rw[hk] at ha
   simp only[cf,ah] at ha
   rcases ha.1 with h1 | h1
   ·exact .inl h1
   ·exact .inr h1.2
  | succ n=>
   have:=AR ha.2 (n:=n) (by simpa using e) hk
   rw[show i+1+n=i+(n+1) by omega] at this
   exact this
def nR (A:Bool) (st:List (Nat×aq)) (j h:Nat) (lp:Option Kd) (k:aq):aq:=bif qt lp then k else bif pinned j then {k with dC:=xJ st h} else {k with dC:=k.dC||A}
def kP (vw:Bool) (f:Nat→Option Nat) (A:Bool) (st:List (Nat×aq)):List (Nat×aq)→List Nat→Option (List (Nat×aq))
 | [],[]=>some []
 | (j,k)::r,h::hs=>match tv vw f k,kP vw f A st r hs with
  | some k',some r'=>some ((h,nR A st j h k.lp k')::r')
  | _,_=>none
 | _,_=>none
def Og (H:List Nat) (i h:Nat):Bool:=match H[i]? with
 | some x=>Nat.beq x h
 | none=>false
theorem K6 {H:List Nat}{i h:Nat}(e:Og H i h=true):H[i]?=some h:=by
 unfold Og at e
 cases hx:H[i]? with
 | none=>rw[hx] at e;cases e
 | some x=>rw[hx] at e;rw[ab e]
def oI (s:St) (H:List Nat):List (Nat×aq)→List Nat→Bool
 | [],[]=>true
 | (j,_)::r,h::hs=>!(gr r j)&&(!(hs.contains h)&&((bif pinned j then Og H (j-1000) h else Nat.blt h 1000&&((dm H h).isSome||fresh s h))&&oI s H r hs))
 | _,_=>false
def ee (st':List (Nat×aq)):List Nat→Nat→List Nat
 | [],_=>[]
 | h::r,i=>bif gr st' (1000+i) then ee st' r (i+1) else h::ee st' r (i+1)
theorem yb {st':List (Nat×aq)}:∀{r:List Nat}{i h:Nat},h∈r→h∉ee st' r i→∃n,r[n]?=some h∧gr st' (1000+(i+n))=true
 | [],_,_,hm,_=>by cases hm
 | x::r,i,h,hm,hn=>by
  simp only[ee] at hn
  cases hb:gr st' (1000+i) with
  | true=>
   rw[hb] at hn
   rcases bU.1 hm with rfl | hm
   ·exact⟨0,rfl,hb⟩
   ·obtain⟨n,h1,h2⟩:=yb hm hn
    exact⟨n+1,h1,by rw[show 1000+(i+(n+1))=1000+(i+1+n) by omega];exact h2⟩
  | false=>
   rw[hb] at hn
   simp only[cond_false,bU,not_or] at hn
   rcases bU.1 hm with rfl | hm
   ·exact absurd rfl hn.1
   ·obtain⟨n,h1,h2⟩:=yb hm hn.2
    exact⟨n+1,h1,by rw[show 1000+(i+(n+1))=1000+(i+1+n) by omega];exact h2⟩
def pB:List Nat→G→Bool
 | [],_=>false
 | h::r,g=>g.bR h||pB r g
theorem wX:∀{ds:List Nat}{g:G},pB ds g=false→∀h∈ds,g.bR h=false
 | [],_,_,_,h=>by cases h
 | x::r,g,e,h,hm=>by
  simp only[pB,bO] at e
  rcases bU.1 hm with rfl | hm
  ·exact e.1
  ·exact wX e.2 h hm
def rG (ds:List Nat) (g:G):G:=bif pB ds g then .any else g
def mP (ds:List Nat):List (Nat×G)→List (Nat×G)
 | []=>[]
 | (t,g)::r=>(t,rG ds g)::mP ds r
def nE (ds:List Nat) (k:aq):aq:=bif k.pure then k else {k with cells:=k.cells.map (rG ds)}
def dB (ds:List Nat):List (Nat×aq)→List (Nat×aq)
 | []=>[]
 | (h,k)::r=>(h,nE ds k)::dB ds r
theorem Jj {ds:List Nat}{fr:List (Nat×G)}{t:Nat}{g:G}(hg:get (mP ds fr) t=some g):∃g0,get fr t=some g0∧g=rG ds g0:=by
 induction fr with
 | nil=>cases hg
 | cons x r ih=>
  obtain⟨k,g'⟩:=x
  simp only[mP,fF] at hg⊢
  cases hb:Nat.beq k t with
  | true=>rw[hb] at hg;cases hg;exact⟨g',rfl,rfl⟩
  | false=>rw[hb] at hg;exact ih hg
theorem G0 {ds:List Nat}{st:List (Nat×aq)}{t:Nat}{k:aq}(hg:ay (dB ds st) t=some k):∃k0,ay st t=some k0∧k=nE ds k0:=by
 induction st with
 | nil=>cases hg
 | cons x r ih=>
  obtain⟨y,k'⟩:=x
  simp only[dB,pH] at hg⊢
  cases hb:Nat.beq y t with
  | true=>rw[hb] at hg;cases hg;exact⟨k',rfl,rfl⟩
  | false=>rw[hb] at hg;exact ih hg
theorem wH {O:Nat→Prop}{base:Nat}{w:World}{μ μ':Mu}{ds:List Nat}{g:G}{v:Value}(hv:aN O base w μ g v) (hμ:∀k,k∉ds→g.bR k=true→Ext (μ k) (μ' k)):aN O base w μ' (rG ds g) v:=by
 unfold rG
 cases hh:pB ds g with
 | true=>exact .aD (.any _)
 | false=>exact hv.oN fun k hk=>hμ k (fun hm=>by rw[wX hh k hm] at hk;cases hk) hk
theorem aS.dead {O:Nat→Prop}{base:Nat}{w:World}{μ μ':Mu}{k:aq}{x:Option (Nat×Mm)}(hb:aS O base w μ k x) (ds:List Nat) (hμ:k.pure=false→∀g∈k.cells,∀y,y∉ds→g.bR y=true→Ext (μ y) (μ' y)):aS O base w μ' (nE ds k) x:=by
 unfold nE
 cases hp:k.pure with
 | true=>exact hb.jg fun hp'=>by rw[hp] at hp';cases hp'
 | false=>
  have hμ:=hμ hp
  simp only[cond_false]
  cases x with
  | none=>
   obtain⟨h1,h2⟩:=hb
   refine⟨by simp[h1],?_⟩
   dsimp only
   split at h2
   ·trivial
   ·exact h2.elim
   ·rw[hp] at h2;cases h2.2
  | some bm=>
   obtain⟨b,m⟩:=bm
   cases hl:k.lp with
   | none=>
    obtain⟨cs1,h4,h5,h6,h7,h8,h9⟩:=hb.cells hl
    refine .mk rfl (hb.mn hl) ⟨cs1,h4,h5,by simpa using h6,h7,h8,fun j g hg=>?_⟩
    dsimp only at hg
    rw[ak] at hg
    cases hg0:k.cells[j]? with
    | none=>rw[hg0] at hg;cases hg
    | some g0=>
     rw[hg0] at hg
     cases hg
     obtain⟨v,hv,hrv⟩:=h9 j g0 hg0
     refine⟨v,hv,?_⟩
     unfold cF at hrv⊢
     rw[hp] at hrv
     simp only
     exact wH hrv (hμ g0 (aQ hg0))
   | some kd=>
    cases kd with
    | deep d=>have:=((aS.deep hl).1 hb).2.1;rw[hp] at this;cases this
    | loop lp=>
     obtain⟨D,vs,h1,h2,h3,h4,h5⟩:=(aS.loop hl).1 hb
     refine(aS.loop rfl).2 ⟨D,vs,h1,h2,h3,rfl,fun j t g ht hg=>?_⟩
     dsimp only at hg
     rw[ak] at hg
     cases hg0:k.cells[j]? with
     | none=>rw[hg0] at hg;cases hg
     | some g0=>
      rw[hg0] at hg
      cases hg
      obtain⟨v,hv,hrv⟩:=h5 j t g0 ht hg0
      exact⟨v,hv,wH hrv (hμ g0 (aQ hg0))⟩
def kY (vw:Bool) (s:St) (H:List Nat) (st':List (Nat×aq)) (bk:List Nat):Option St:=
 bif oI s H st' bk&&s.df.all (fun g=>!(pB (ee st' H 0) g)) then match kP vw (iP st' bk) (jY s.st st' H 0) s.st st' bk with
  | some sb=>some {fr:=mP (ee st' H 0) s.fr,st:=sb++dB (ee st' H 0) (fg H s.st),df:=s.df}
  | none=>none
 else none
theorem G1 {a b:List (Nat×aq)}{h:Nat}:ay (a++b) h=(ay a h).or (ay b h):=by
 induction a with
 | nil=>rfl
 | cons x r ih=>
  obtain⟨y,k⟩:=x
  simp only[ca,ay]
  cases Nat.beq y h with
  | true=>rfl
  | false=>exact ih
theorem BP {vw A:Bool}{f:Nat→Option Nat}{st:List (Nat×aq)}{s:St}{H:List Nat}:∀{st':List (Nat×aq)}{bk:List Nat}{sb:List (Nat×aq)},kP vw f A st st' bk=some sb→oI s H st' bk=true→
  ∀{h:Nat}{k2:aq},ay sb h=some k2→∃j k' k1,ay st' j=some k'∧qU st' bk h=some j∧tv vw f k'=some k1∧k2=nR A st j h k'.lp k1
 | [],[],_,e,_,_,_,hg=>by cases e;cases hg
 | [],_::_,_,e,_,_,_,_=>by cases e
 | _::_,[],_,e,_,_,_,_=>by cases e
 | (j,k)::r,x::hs,sb,e,ok,h,k2,hg=>by
  simp only[kP] at e
  cases h1:tv vw f k with
  | none=>rw[h1] at e;cases e
  | some k1=>
   rw[h1] at e
   cases h2:kP vw f A st r hs with
   | none=>rw[h2] at e;cases e
   | some r'=>
    rw[h2] at e
    cases e
    simp only[oI,ah,aZ] at ok
    obtain⟨o1,o2,o3,o4⟩:=ok
    simp only[ay] at hg
    cases hb:Nat.beq x h with
    | true=>
     rw[hb] at hg
     cases hg
     have:=ab hb
     subst this
     exact⟨j,k,k1,dv _ _ _,by simp only[qU,aK,cond_true],h1,rfl⟩
    | false=>
     rw[hb] at hg
     obtain⟨j',k',k1',q1,q2,q3,q4⟩:=BP h2 o4 hg
     refine⟨j',k',k1',?_,by simp only[qU,hb,cond_false];exact q2,q3,q4⟩
     rw[aG _ _ (fun e=>by subst e;rw[I9 q1] at o1;cases o1)]
     exact q1
theorem n6 {s:St}{H:List Nat}:∀{st':List (Nat×aq)}{bk:List Nat},oI s H st' bk=true→∀{h j:Nat},qU st' bk h=some j→
  gr st' j=true∧h∈bk∧iP st' bk j=some h∧((pinned j=true∧H[j-1000]?=some h)∨(pinned j=false∧Nat.blt h 1000=true∧(h∈H∨fresh s h=true)))
 | [],[],_,_,_,e=>by cases e
 | [],_::_,ok,_,_,_=>by cases ok
 | _::_,[],ok,_,_,_=>by cases ok
 | (j,k)::r,x::hs,ok,h,j',e=>by
  simp only[oI,ah,aZ] at ok
  obtain⟨o1,o2,o3,o4⟩:=ok
  simp only[qU] at e
  cases hb:Nat.beq x h with
  | true=>
   rw[hb] at e
   cases e
   have:=ab hb
   subst this
   refine⟨by simp[gr,aK],aC,by simp only[iP,aK,cond_true],?_⟩
   cases hp:pinned j with
   | true=>rw[hp] at o3;exact .inl ⟨rfl,K6 o3⟩
   | false=>
    rw[hp] at o3
    simp only[cond_false,ah,cf] at o3
    refine .inr ⟨rfl,o3.1,o3.2.imp (fun h=>?_) id⟩
    obtain⟨i,hi⟩:=Option.isSome_iff_exists.1 h
    exact og (ep hi)
  | false=>
   rw[hb] at e
   obtain⟨q1,q2,q3,q4⟩:=n6 o4 e
   refine⟨by simp[gr,q1],aw _ q2,?_,q4⟩
   simp only[iP]
   have:Nat.beq j j'=false:=by
    cases hb2:Nat.beq j j' with
    | false=>rfl
    | true=>have:=ab hb2;subst this;rw[q1] at o1;cases o1
   rw[this]
   exact q3
theorem CM {s:St}{H:List Nat}:∀{st':List (Nat×aq)}{bk:List Nat},oI s H st' bk=true→∀{j h:Nat},iP st' bk j=some h→h∈bk∧qU st' bk h=some j
 | [],[],_,_,_,e=>by cases e
 | [],_::_,ok,_,_,_=>by cases ok
 | _::_,[],ok,_,_,_=>by cases ok
 | (j,k)::r,x::hs,ok,j',h,e=>by
  simp only[oI,ah,aZ] at ok
  obtain⟨o1,o2,o3,o4⟩:=ok
  simp only[iP] at e
  cases hb:Nat.beq j j' with
  | true=>
   rw[hb] at e
   cases e
   have:=ab hb
   subst this
   exact⟨aC,by simp only[qU,aK,cond_true]⟩
  | false=>
   rw[hb] at e
   obtain⟨q1,q2⟩:=CM o4 e
   refine⟨aw _ q1,?_⟩
   simp only[qU]
   have:Nat.beq x h=false:=by
    cases hb2:Nat.beq x h with
    | false=>rfl
    | true=>have:=ab hb2;subst this;simp at o2;exact absurd q1 o2
   rw[this]
   exact q2
theorem H0 {s:St}{H:List Nat}:∀{st':List (Nat×aq)}{bk:List Nat},oI s H st' bk=true→∀{j:Nat},gr st' j=true→∃h,iP st' bk j=some h
 | [],[],_,_,e=>by cases e
 | [],_::_,ok,_,_=>by cases ok
 | _::_,[],ok,_,_=>by cases ok
 | (j,k)::r,x::hs,ok,j',e=>by
  simp only[oI,ah,aZ] at ok
  simp only[gr,cf] at e
  simp only[iP]
  cases hb:Nat.beq j j' with
  | true=>exact⟨x,rfl⟩
  | false=>rw[hb] at e;exact H0 ok.2.2.2 (e.resolve_left fun h=>by cases h)
def kg (μ μ'':Mu) (st':List (Nat×aq)) (bk:List Nat):Mu:=fun y=>match qU st' bk y with
 | some j=>μ'' j
 | none=>μ y
section
variable {P:Program}{N:Nat}{cx:Cx}{s:St}
theorem pz {a:Act}{w w':World}{μ μ'':Mu}{H:List Nat}{vw:Bool}{dQ st':List (Nat×aq)}{bk:List Nat}{s2:St}(hr:Rel N cx μ s a w) (hls:fM H (dO s.st H vw) s.st H 0=some dQ) (_hnd:H.Nodup)
  (hC:cd (eg (lM cx s.st μ H vw) dQ (lJ H μ) w) μ'' st' w') (hb:kY vw s H st' bk=some s2):
  Rel N cx (kg μ μ'' st' bk) s2 a w'∧
  (∀g g' v,aN ((eg (lM cx s.st μ H vw) dQ (lJ H μ) w).O st' μ'') w.heap.size w' μ'' g v→dw vw (iP st' bk) g=some g'→aN (cx.O s2.st (kg μ μ'' st' bk)) cx.base w' (kg μ μ'' st' bk) g' v)∧
  (∀W:List Nat,(∀h∈H,h∈W)→Step W s.st μ s2.st (kg μ μ'' st' bk) w w')∧(∀y,y∈H→y∉ee st' H 0→Ext (μ y) (kg μ μ'' st' bk y)):=by
 unfold kY at hb
 cases hok:oI s H st' bk&&s.df.all (fun g=>!(pB (ee st' H 0) g)) with
 | false=>rw[hok] at hb;cases hb
 | true=>
 rw[hok,cond_true] at hb
 simp only[ah] at hok
 obtain⟨hok,hdf⟩:=hok
 cases hbs:kP vw (iP st' bk) (jY s.st st' H 0) s.st st' bk with
 | none=>rw[hbs] at hb;cases hb
 | some sb=>
 rw[hbs] at hb
 cases hb
 have hst:=hr.st
 have alive:∀y,y∉ee st' H 0→(qU st' bk y=none∨y∈H∨fresh s y=false)→Ext (μ y) (kg μ μ'' st' bk y):=by
  intro y hy hn
  unfold kg
  by_cases hyH:y∈H
  ·obtain⟨n,e1,e2⟩:=yb hyH hy
   rw[cN] at e2
   obtain⟨h',e3⟩:=H0 hok e2
   obtain⟨_,e4⟩:=CM hok e3
   have e5:=(n6 hok e4).2.2.2
   have e6:h'=y:=by
    rcases e5 with ⟨_,e5⟩ | ⟨e5,_⟩
    ·rw[show 1000+n-1000=n by omega,e1] at e5;exact(dx e5).symm
    ·rw[qi] at e5;cases e5
   subst e6
   rw[e4]
   obtain⟨k,hk⟩:=yY e2
   have:=(hC.fK _ k hk (qi n)).ext
   simp only
   rw[←jO (μ:=μ) e1]
   exact this
  ·cases hI:qU st' bk y with
   | none=>exact .inl rfl
   | some j=>
    rcases(n6 hok hI).2.2.2 with ⟨_,e⟩ | ⟨_,_,e | e⟩
    ·exact absurd (og e) hyH
    ·exact absurd e hyH
    ·rcases hn with hn | hn | hn
     ·rw[hI] at hn;cases hn
     ·exact absurd hn hyH
     ·rw[hn] at e;cases e
 have notfr:∀y t g,get s.fr t=some g→g.bR y=true→fresh s y=false:=by
  intro y t g hg hh
  cases hf:fresh s y with
  | false=>rfl
  | true=>rw[pq (iL hf).2.1 hg] at hh;cases hh
 have notst:∀y x k g,ay s.st x=some k→k.pure=false→g∈k.cells→g.bR y=true→fresh s y=false:=by
  intro y x k g hk hp hg hh
  cases hf:fresh s y with
  | false=>rfl
  | true=>rw[tp (iL hf).2.2.1 hk hp hg] at hh;cases hh
 have hsz:w.heap.size≤w'.heap.size:=hC.hb
 have hkeep:∀b,b<w.heap.size→¬Own dQ (lJ H μ) b→w'.heap[b]?=w.heap[b]?:=fun b hb hn=>hC.ec b hb hn
 have hown:∀b,Own dQ (lJ H μ) b→Own s.st μ b:=fun b ho=>by obtain⟨i,h,k,c,m,_,h2,h3,hi⟩:=kc hls ho;exact⟨h,k,c,m,h2,h3,hi⟩
 have hkept:Kept (cx.O s.st μ) w w':=⟨hsz,fun b hb hn=>hkeep b hb fun ho=>hn (.inr (hown b ho))⟩
 have row:∀y k2,ay (sb++dB (ee st' H 0) (fg H s.st)) y=some k2→
   (∃j k' k1,ay st' j=some k'∧qU st' bk y=some j∧tv vw (iP st' bk) k'=some k1∧k2=nR (jY s.st st' H 0) s.st j y k'.lp k1)∨
   (qU st' bk y=none∧∃k0,dm H y=none∧ay s.st y=some k0∧k2=nE (ee st' H 0) k0):=by
  intro y k2 h
  rw[G1] at h
  cases hs:ay sb y with
  | some k3=>
   rw[hs] at h
   cases h
   exact .inl (BP hbs hok hs)
  | none=>
   rw[hs,Option.none_or] at h
   obtain⟨k0,h1,h2⟩:=G0 h
   obtain⟨h3,h4⟩:=rR h1
   refine .inr ⟨?_,k0,h3,h4,h2⟩
   cases hI:qU st' bk y with
   | none=>rfl
   | some j=>
    rcases(n6 hok hI).2.2.2 with ⟨_,e⟩ | ⟨_,_,e | e⟩
    ·exact absurd (og e) (rT h3)
    ·exact absurd e (rT h3)
    ·rw[(iL e).1] at h4;cases h4
 have notdead:∀{y},dm H y=none→y∉ee st' H 0:=by
  intro y hy hm
  have:∀(r:List Nat) (i:Nat),y∈ee st' r i→y∈r:=by
   intro r
   induction r with
   | nil=>intro i h;cases h
   | cons x r ih=>
    intro i h
    simp only[ee] at h
    cases hb:gr st' (1000+i) with
    | true=>rw[hb] at h;exact aw _ (ih _ h)
    | false=>
     rw[hb] at h
     rcases bU.1 h with rfl | h
     ·exact aC
     ·exact aw _ (ih _ h)
  exact rT hy (this H 0 hm)
 have whr:∀y k2 b m,ay (sb++dB (ee st' H 0) (fg H s.st)) y=some k2→kg μ μ'' st' bk y=some (b,m)→
   (∃j k',qU st' bk y=some j∧ay st' j=some k'∧μ'' j=some (b,m))∨(qU st' bk y=none∧dm H y=none∧∃k0,ay s.st y=some k0∧μ y=some (b,m)):=by
  intro y k2 b m h1 h2
  rcases row y k2 h1 with ⟨j,k',k1,e1,e2,_,_⟩ | ⟨e0,k0,e1,e2,_⟩
  ·left
   refine⟨j,k',e2,e1,?_⟩
   unfold kg at h2
   rw[e2] at h2
   exact h2
  ·right
   refine⟨e0,e1,k0,e2,?_⟩
   unfold kg at h2
   rw[e0] at h2
   exact h2
 have hO2:∀b,cx.O (sb++dB (ee st' H 0) (fg H s.st)) (kg μ μ'' st' bk) b→cx.X b∨Own st' μ'' b∨Own (fg H s.st) μ b:=by
  rintro b (ho | ⟨y,k2,c,m,h1,h2,hi⟩)
  ·exact .inl ho
  ·rcases whr y k2 c m h1 h2 with ⟨j,k',e1,e2,e3⟩ | ⟨e0,e1,k0,e2,e3⟩
   ·exact .inr (.inl ⟨j,k',c,m,e2,e3,hi⟩)
   ·exact .inr (.inr ⟨y,k0,c,m,zG e1 e2,e3,hi⟩)
 have outlt:∀b,Own (fg H s.st) μ b→b<w.heap.size:=fun b ho=>by
  obtain⟨h,k,c,m,_,h2,h3,hi⟩:=ve ho
  exact rQ hst ⟨h,k,c,m,h2,h3,hi⟩
 have hOO:∀b,b<w.heap.size→¬cx.O s.st μ b→¬cx.O (sb++dB (ee st' H 0) (fg H s.st)) (kg μ μ'' st' bk) b:=by
  intro b hb hn ho
  rcases hO2 b ho with ho | ⟨j,k',c,m,h1,h2,hi⟩ | ho
  ·exact hn (.inl ho)
  ·rcases(hC.cv j k' c m b h1 h2 hi).2.1 with h3 | h3
   ·exact absurd hb (by show ¬b<w.heap.size;exact Nat.not_lt.2 h3)
   ·exact hn (.inr (hown b h3))
  ·obtain⟨h,k,c,m,_,h2,h3,hi⟩:=ve ho
   exact hn (.inr ⟨h,k,c,m,h2,h3,hi⟩)
 have impO:∀(f:Bool),(vw=true→f=true)→∀{b},(bif f then gm (cx.O (sb++dB (ee st' H 0) (fg H s.st)) (kg μ μ'' st' bk)) cx.base else cx.O (sb++dB (ee st' H 0) (fg H s.st)) (kg μ μ'' st' bk)) b→
   (bif f then gm ((eg (lM cx s.st μ H vw) dQ (lJ H μ) w).O st' μ'') w.heap.size else(eg (lM cx s.st μ H vw) dQ (lJ H μ) w).O st' μ'') b:=by
  intro f hf b ho
  have key:∀{b},cx.O (sb++dB (ee st' H 0) (fg H s.st)) (kg μ μ'' st' bk) b→(vw=false∨w.heap.size≤b)→(eg (lM cx s.st μ H vw) dQ (lJ H μ) w).O st' μ'' b:=by
   intro b ho hv
   rcases hO2 b ho with ho | ho | ho
   ·exact .inl (.inl ho)
   ·exact .inr ho
   ·rcases hv with hv | hv
    ·exact .inl (.inr ⟨hv,ho⟩)
    ·have:=outlt b ho;omega
  cases f with
  | false=>exact key ho (.inl (by cases vw with | false=>rfl | true=>cases hf rfl))
  | true=>
   rcases ho with ho | ho
   ·exact .inl (by have:=hst.hb;show b<w.heap.size;omega)
   ·by_cases hlt:b<w.heap.size
    ·exact .inl hlt
    ·exact .inr (key ho (.inr (by omega)))
 have impo:∀(f:Bool){g:G}{v:Value},(vw=true→f=true)→bp (bif f then gm ((eg (lM cx s.st μ H vw) dQ (lJ H μ) w).O st' μ'') w.heap.size else(eg (lM cx s.st μ H vw) dQ (lJ H μ) w).O st' μ'') w' g v→
   bp (bif f then gm (cx.O (sb++dB (ee st' H 0) (fg H s.st)) (kg μ μ'' st' bk)) cx.base else cx.O (sb++dB (ee st' H 0) (fg H s.st)) (kg μ μ'' st' bk)) w' g v:=by
  intro f g v hf h
  exact h.mono (Kept.refl _ _) fun b _ hn ho=>hn (impO f hf ho)
 have lm:∀{g g':G}{v:Value},aN ((eg (lM cx s.st μ H vw) dQ (lJ H μ) w).O st' μ'') w.heap.size w' μ'' g v→dw vw (iP st' bk) g=some g'→
   aN (cx.O (sb++dB (ee st' H 0) (fg H s.st)) (kg μ μ'' st' bk)) cx.base w' (kg μ μ'' st' bk) g' v:=by
  intro g g' v hv hg
  have hmu:∀{j h},iP st' bk j=some h→kg μ μ'' st' bk h=μ'' j:=by
   intro j h e
   unfold kg
   rw[(CM hok e).2]
  have aD:∀{g:G}{v:Value},bp ((eg (lM cx s.st μ H vw) dQ (lJ H μ) w).O st' μ'') w' g v→∀{g'},dw vw (iP st' bk) g=some g'→
    aN (cx.O (sb++dB (ee st' H 0) (fg H s.st)) (kg μ μ'' st' bk)) cx.base w' (kg μ μ'' st' bk) g' v:=by
   intro g v h
   induction h with
   | any v=>intro g' hg;cases hg;exact .aD (.any _)
   | val v=>intro g' hg;cases hg;exact .aD (.val _)
   | cQ b v h=>intro g' hg;cases hg;exact .aD (.cQ b v h)
   | nil=>
    intro g' hg
    simp only[dw] at hg
    cases vw with
    | true=>cases hg
    | false=>cases hg;exact .aD .nil
   | iw a c=>
    intro g' hg
    simp only[dw] at hg
    cases vw with
    | true=>cases hg
    | false=>cases hg;exact .aD (.iw a c)
   | sl n cells b off cap us h1 h2 h3 h4 h5 ih=>
    intro g' hg
    simp only[dw] at hg
    cases hvw:vw with
    | true=>rw[hvw] at hg;cases hg
    | false=>rw[hvw] at hg;cases hg;exact .aD (impo false (fun h=>by rw[hvw] at h;cases h) (.sl n cells b off cap us h1 h2 h3 h4 h5))
   | ptr cells b off us h1 h2 h3 h4 ih=>
    intro g' hg
    simp only[dw] at hg
    cases hvw:vw with
    | true=>rw[hvw] at hg;cases hg
    | false=>rw[hvw] at hg;cases hg;exact .aD (impo false (fun h=>by rw[hvw] at h;cases h) (.ptr cells b off us h1 h2 h3 h4))
   | agg cells us hl hr ih=>
    intro g' hg
    simp only[dw,au] at hg
    obtain⟨gs',h1,rfl⟩:=hg
    obtain⟨h2,h3⟩:=sY h1
    refine .agg gs' us (by omega) fun j g v hg hv=>?_
    obtain⟨g0,h4,h5⟩:=h3 j g hg
    exact ih j g0 v h4 hv h5
  induction hv generalizing g' with
  | aD h=>exact aD h hg
  | fr h=>cases hg;exact .fr (impo true (fun _=>rfl) h)
  | loc h off b m hm=>
   simp only[dw,au] at hg
   obtain⟨x,h1,rfl⟩:=hg
   exact .loc x off b m (by rw[hmu h1];exact hm)
  | gX h sz hm=>
   simp only[dw,au] at hg
   obtain⟨x,h1,rfl⟩:=hg
   exact .gX x sz (by rw[hmu h1];exact hm)
  | aM h sz off n b m cap hm hn hc=>
   simp only[dw,au] at hg
   obtain⟨x,h1,rfl⟩:=hg
   exact .aM x sz off n b m cap (by rw[hmu h1];exact hm) hn hc
  | fL h sz off0 b m hm hpos=>
   simp only[dw,au] at hg
   obtain⟨x,h1,rfl⟩:=hg
   exact .fL x sz off0 b m (by rw[hmu h1];exact hm) hpos
  | agg cells us hl hr ih=>
   simp only[dw,au] at hg
   obtain⟨gs',h1,rfl⟩:=hg
   obtain⟨h2,h3⟩:=sY h1
   refine .agg gs' us (by omega) fun j g v hg hv=>?_
   obtain⟨g0,h4,h5⟩:=h3 j g hg
   exact ih j g0 v h4 hv h5
  | aT cells us hl hr ih=>
   simp only[dw,au] at hg
   obtain⟨gs',h1,rfl⟩:=hg
   obtain⟨h2,h3⟩:=sY h1
   refine .aT gs' us (by omega) fun j g v hg hv=>?_
   obtain⟨g0,h4,h5⟩:=h3 j g hg
   exact ih j g0 v h4 hv h5
  | aR f caps us hl hr ih=>
   simp only[dw,au] at hg
   obtain⟨gs',h1,rfl⟩:=hg
   obtain⟨h2,h3⟩:=sY h1
   refine .aR f gs' us (by omega) fun j g v hg hv=>?_
   obtain⟨g0,h4,h5⟩:=h3 j g hg
   exact ih j g0 v h4 hv h5
  | cT h b m hm=>
   simp only[dw,au] at hg
   obtain⟨x,h1,rfl⟩:=hg
   exact .cT x b m (by rw[hmu h1];exact hm)
  | eY h b m hm=>
   simp only[dw,au] at hg
   obtain⟨x,h1,rfl⟩:=hg
   exact .eY x b m (by rw[hmu h1];exact hm)
  | kp h i off b m c n hm hk=>
   simp only[dw,au] at hg
   obtain⟨x,h1,rfl⟩:=hg
   exact .kp x i off b m c n (by rw[hmu h1];exact hm) hk
  | k7 h i sz a cap hb=>
   simp only[dw,au] at hg
   obtain⟨x,h1,rfl⟩:=hg
   exact .k7 x i sz a cap hb
  | ks h i sz n b m c k cap hm hk hn hc=>
   simp only[dw,au] at hg
   obtain⟨x,h1,rfl⟩:=hg
   exact .ks x i sz n b m c k cap (by rw[hmu h1];exact hm) hk hn hc
 have hmineA:∀{j y:Nat}{k' k1 k2:aq},ay st' j=some k'→qU st' bk y=some j→tv vw (iP st' bk) k'=some k1→k2=nR (jY s.st st' H 0) s.st j y k'.lp k1→
   ∀b m x,μ'' j=some (b,m)→In x b m→k2.dC=true→cx.base≤x:=by
  intro j y k' k1 k2 e1 e2 e3 e4 b m x hm hi hk2
  have hk1:k1.dC=k'.dC:=by
   unfold tv at e3
   cases hpp:k'.pure with
   | true=>
    rw[hpp,cond_true] at e3
    cases hvf:(vw&&!k'.fresh) with
    | true=>rw[hvf] at e3;cases e3
    | false=>rw[hvf] at e3;cases e3;rfl
   | false=>
    rw[hpp,cond_false] at e3
    cases hgo:dw.go vw (iP st' bk) k'.cells with
    | none=>rw[hgo] at e3;cases e3
    | some cs=>rw[hgo] at e3;cases e3;rfl
  have own:k'.dC=true→cx.base≤x:=fun h=>by
   have:w.heap.size≤x:=(hC.cv j k' b m x e1 hm hi).2.2.2 h
   have:=hst.hb
   omega
  unfold nR at e4
  cases hl:qt k'.lp with
  | true=>
   rw[hl,cond_true] at e4
   subst e4
   exact own (hk1▸hk2)
  | false=>
  rw[hl,cond_false] at e4
  cases hp:pinned j with
  | true=>
   rw[hp,cond_true] at e4
   subst e4
   simp only[xJ] at hk2
   have hH:H[j-1000]?=some y:=by
    rcases(n6 hok e2).2.2.2 with ⟨_,e⟩ | ⟨e,_⟩
    ·exact e
    ·rw[hp] at e;cases e
   have hpin:=hC.fK j k' e1 hp
   have hj:1000≤j:=eN hp
   have hmy:ub w.heap.size (μ y) (μ'' j):=by
    have:=jO (μ:=μ) hH
    rw[show 1000+(j-1000)=j by omega] at this
    rw[←this]
    exact hpin
   cases hky:ay s.st y with
   | none=>rw[hky] at hk2;cases hk2
   | some k0=>
    rw[hky] at hk2
    rcases hmy.Qu hm hi with h | ⟨m0,h1,h2⟩
    ·have:=hst.hb
     omega
    ·exact(hst.cv y k0 b m0 x hky h1 h2).2.2.2 hk2
  | false=>
   rw[hp,cond_false] at e4
   subst e4
   simp only[cf] at hk2
   rcases hk2 with hk2 | hA
   ·exact own (hk1▸hk2)
   ·rcases(hC.cv j k' b m x e1 hm hi).2.1 with h5 | h5
    ·have:=hst.hb
     have h6:w.heap.size≤x:=h5
     omega
    ·obtain⟨i,h,k,c,m',q1,q2,q3,q4⟩:=kc hls h5
     rcases AR hA q1 q2 with h7 | h7
     ·exact(hst.cv h k c m' x q2 q3 q4).2.2.2 h7
     ·exfalso
      rw[cN] at h7
      obtain⟨k'',h8⟩:=yY h7
      obtain⟨m2,h10,h11⟩:=(hC.fK _ k'' h8 (qi i)).ext.Qu ((jO q1).trans q3) q4
      have:=hC.dA j (1000+i) k' k'' x b m c m2 e1 h8 hm h10 hi h11
      rw[this,qi] at hp
      cases hp
 refine⟨{st:={ey:=?_,dA:=?_,cv:=?_,fK:=?_,fo:=hst.fo,hb:=cR hst.hb hsz,os:=hC.os.trans hst.os,tape:=hC.tape.trans hst.tape,output:=hC.output.trans hst.output,gl:=hst.gl,ec:=?_},nd:=?_,sz:=hr.sz,fr:=?_},fun g g' v=>lm,?_,fun y h1 h2=>alive y h2 (.inr (.inl h1))⟩
 ·intro y k2 h1
  rcases row y k2 h1 with ⟨j,k',k1,e1,e2,e3,e4⟩ | ⟨e0,k0,e1,e2,e3⟩
  ·have hmy:kg μ μ'' st' bk y=μ'' j:=by unfold kg;rw[e2]
   rw[hmy]
   have hbj:=hC.ey j k' e1
   have hmine:∀b m x,μ'' j=some (b,m)→In x b m→k2.dC=true→cx.base≤x:=hmineA e1 e2 e3 e4
   have hloop:qt k'.lp=true→k2=k1:=by
    intro hl
    rw[e4]
    unfold nR
    rw[hl];rfl
   have hfields:k2.bs=k1.bs∧k2.pure=k1.pure∧k2.fresh=k1.fresh∧k2.sz=k1.sz∧k2.cells=k1.cells∧k2.lp=k1.lp:=by
    rw[e4];unfold nR;cases qt k'.lp <;> cases pinned j <;> exact⟨rfl,rfl,rfl,rfl,rfl,rfl⟩
   obtain⟨f1,f2,f3,f4,f5,f6⟩:=hfields
   clear e4
   unfold tv at e3
   cases hpp:k'.pure with
   | true=>
    rw[hpp,cond_true] at e3
    cases hvf:(vw&&!k'.fresh) with
    | true=>rw[hvf] at e3;cases e3
    | false=>
     rw[hvf] at e3
     cases e3
     cases hm:μ'' j with
     | none=>rw[hm] at hbj;exact hbj.xG f5 f6 f2
     | some bm=>
      obtain⟨b,m⟩:=bm
      rw[hm] at hbj
      cases hl:k'.lp with
      | none=>
       obtain⟨cs,h1,h2,h3,h4,h5,h6⟩:=hbj.cells hl
       refine .mk (f6.trans hl) (hbj.mn hl) ⟨cs,by rw[f1];exact h1,h2,by rw[f5];exact h3,hmine b m b hm (.self _ _),by rw[f4];exact h5,fun j' g hg=>?_⟩
       rw[f5] at hg
       obtain⟨v,hv,hrv⟩:=h6 j' g hg
       refine⟨v,hv,?_⟩
       unfold cF at hrv⊢
       rw[f2,f3]
       simp only[hpp] at hrv⊢
       exact impo k'.fresh (fun e=>by rw[e] at hvf;simpa using hvf) hrv
      | some kd=>
       cases kd with
       | loop lp=>
        obtain⟨D,vs,_,_,_,h4,_⟩:=(aS.loop hl).1 hbj
        rw[hpp] at h4;cases h4
       | deep d=>
        obtain⟨h1,h2,h3,h4⟩:=(aS.deep hl).1 hbj
        refine(aS.deep (f6.trans hl)).2 ⟨?_,f2.trans hpp,f5.trans h3,hmine b m b hm (.self _ _)⟩
        rw[f3]
        exact d.mono h1 (Kept.refl _ _) (fun x _ hn ho=>hn (impO k'.fresh (fun e=>by rw[e] at hvf;simpa using hvf) ho)) (fun _ _=>rfl)
   | false=>
    rw[hpp,cond_false] at e3
    cases hgo:dw.go vw (iP st' bk) k'.cells with
    | none=>rw[hgo] at e3;cases e3
    | some cs'=>
     rw[hgo] at e3
     cases e3
     obtain⟨q1,q2⟩:=sY hgo
     simp only at f1 f2 f3 f4 f5 f6
     cases hm:μ'' j with
     | none=>
      rw[hm] at hbj
      refine hbj.xG (f5.trans ?_) f6 (f2.trans hpp.symm)
      rw[hbj.1]
      exact aX (by rw[q1,hbj.1];rfl)
     | some bm=>
      obtain⟨b,m⟩:=bm
      rw[hm] at hbj
      cases hl:k'.lp with
      | none=>
       obtain⟨cs,h1,h2,h3,h4,h5,h6⟩:=hbj.cells hl
       refine .mk (f6.trans hl) (hbj.mn hl) ⟨cs,by rw[f1];exact h1,h2,by rw[f5];omega,hmine b m b hm (.self _ _),by rw[f4];exact h5,fun j' g hg=>?_⟩
       rw[f5] at hg
       obtain⟨g0,q3,q4⟩:=q2 j' g hg
       obtain⟨v,hv,hrv⟩:=h6 j' g0 q3
       refine⟨v,hv,?_⟩
       unfold cF at hrv⊢
       rw[f2]
       simp only[hpp] at hrv⊢
       exact lm hrv q4
      | some kd=>
       cases kd with
       | deep d=>have:=((aS.deep hl).1 hbj).2.1;rw[hpp] at this;cases this
       | loop lp=>
        obtain⟨D,vs,h1,h2,h3,h4,h5⟩:=(aS.loop hl).1 hbj
        have hk2:k2.dC=false:=by rw[hloop (by rw[hl];rfl)];exact h3
        refine(aS.loop (f6.trans hl)).2 ⟨D,vs,h1,h2,hk2,f2,fun j' t g ht hg=>?_⟩
        rw[f5] at hg
        obtain⟨g0,q3,q4⟩:=q2 j' g hg
        obtain⟨v,hv,hrv⟩:=h5 j' t g0 ht q3
        exact⟨v,hv,lm hrv q4⟩
  ·subst e3
   have hmy:kg μ μ'' st' bk y=μ y:=by unfold kg;rw[e0]
   rw[hmy]
   refine((hst.ey y k0 e2).mono (fun b m hm z hz=>hkeep z (rQ hst ⟨y,k0,b,m,e2,hm,hz⟩) fun ho=>?_) hkept hOO).dead _ fun hp g hg x hx hh=>alive x hx (.inr (.inr (notst x y k0 g e2 hp hg hh)))
   obtain⟨i,h,k,c',m',q1,q2,q3,q4⟩:=kc hls ho
   exact tA hst q1 q2 q3 q4 e1 e2 hm hz
 ·intro y y' k2 k2' x b m b' m' h1 h2 h3 h4 hi hi'
  rcases whr y k2 b m h1 h3 with ⟨j,k',e1,e2,e3⟩ | ⟨e0,e1,k0,e2,e3⟩ <;> rcases whr y' k2' b' m' h2 h4 with ⟨j',k'',e1',e2',e3'⟩ | ⟨e0',e1',k0',e2',e3'⟩
  ·have:=hC.dA j j' k' k'' x b m b' m' e2 e2' e3 e3' hi hi'
   subst this
   have:=(n6 hok e1).2.2.1.symm.trans (n6 hok e1').2.2.1
   exact dx this
  ·exfalso
   have hlt:=rQ hst ⟨y',k0',b',m',e2',e3',hi'⟩
   rcases(hC.cv j k' b m x e2 e3 hi).2.1 with h5 | h5
   ·exact absurd hlt (Nat.not_lt.2 h5)
   ·obtain⟨i,h,k,c2,m2,q1,q2,q3,q4⟩:=kc hls h5
    exact tA hst q1 q2 q3 q4 e1' e2' e3' hi'
  ·exfalso
   have hlt:=rQ hst ⟨y,k0,b,m,e2,e3,hi⟩
   rcases(hC.cv j' k'' b' m' x e2' e3' hi').2.1 with h5 | h5
   ·exact absurd hlt (Nat.not_lt.2 h5)
   ·obtain⟨i,h,k,c2,m2,q1,q2,q3,q4⟩:=kc hls h5
    exact tA hst q1 q2 q3 q4 e1 e2 e3 hi
  ·exact hst.dA y y' k0 k0' x b m b' m' e2 e2' e3 e3' hi hi'
 ·intro y k2 b m x h1 h3 hi
  rcases row y k2 h1 with ⟨j,k',k1,e2,e1,er,e4⟩ | ⟨e0,k0,e1,e2,er⟩
  ·have e3:μ'' j=some (b,m):=by unfold kg at h3;rw[e1] at h3;exact h3
   obtain⟨h5,h6,h7,_⟩:=hC.cv j k' b m x e2 e3 hi
   refine⟨fun hx=>h5 (.inl hx),?_,h7,hmineA e2 e1 er e4 b m x e3 hi⟩
   rcases h6 with h6 | h6
   ·exact .inl (cR hst.hb h6)
   ·obtain⟨i,h,k,c2,m2,q1,q2,q3,q4⟩:=kc hls h6
    exact(hst.cv h k c2 m2 x q2 q3 q4).2.1
  ·have e3:μ y=some (b,m):=by unfold kg at h3;rw[e0] at h3;exact h3
   obtain⟨h5,h6,h7,h8⟩:=hst.cv y k0 b m x e2 e3 hi
   exact⟨h5,h6,cm h7 hsz,fun hm=>h8 (by subst er;unfold nE at hm;cases hp:k0.pure <;> simp only[hp] at hm <;> exact hm)⟩
 ·intro y k2 h1 hp
  rcases row y k2 h1 with ⟨j,k',k1,e1,e2,e3,e4⟩ | ⟨e0,k0,e1,e2,e3⟩
  ·rcases(n6 hok e2).2.2.2 with ⟨e5,e6⟩ | ⟨_,e5,_⟩
   ·have hj:1000≤j:=eN e5
    have h6:kg μ μ'' st' bk y=μ'' j:=by unfold kg;rw[e2]
    rw[h6]
    have h7:=jO (μ:=μ) e6
    rw[show 1000+(j-1000)=j by omega] at h7
    obtain⟨_,k0,hk0⟩:=AY hls e6
    have h8:=hC.fK j k' e1 e5
    refine(hst.fK y k0 hk0 hp).trans (?_:ub w.heap.size (μ y) (μ'' j)) hst.hb
    rw[←h7]
    exact h8
   ·rw[lr e5] at hp;cases hp
  ·have h6:kg μ μ'' st' bk y=μ y:=by unfold kg;rw[e0]
   rw[h6]
   exact hst.fK y k0 e2 hp
 ·intro b hb hA
  rw[hkeep b (by have:=hst.hb;omega) fun ho=>?_]
  ·exact hst.ec b hb hA
  ·obtain⟨i,h,k,c,m,q1,q2,q3,q4⟩:=kc hls ho
   rcases(hst.cv h k c m b q2 q3 q4).2.1 with h4 | h4
   ·omega
   ·exact hA h4
 ·refine(hr.nd.mono hkept hOO).oN fun g hg y hy=>?_
  have hd:=cu.1 hdf g hg
  simp only[aZ] at hd
  refine alive y (fun hm=>by rw[wX hd y hm] at hy;cases hy) (.inr (.inr ?_))
  cases hf:fresh s y with
  | false=>rfl
  | true=>rw[rq (iL hf).2.2.2.1 hg] at hy;cases hy
 ·intro t g hg
  obtain⟨g0,h1,rfl⟩:=Jj hg
  obtain⟨v,hv,hrv⟩:=hr.fr t g0 h1
  exact⟨v,hv,wH (hrv.mono hkept hOO (ar _)) fun y hy hh=>alive y hy (.inr (.inr (notfr y t g0 h1 hh)))⟩
 ·intro W hW
  refine⟨hsz,fun b hb hn=>hkeep b hb fun ho=>?_,fun y k2 c m b hy h1 h2 hi=>?_⟩
  ·obtain⟨i,h,k,c,m,q1,q2,q3,q4⟩:=kc hls ho
   exact hn h k c m (hW h (og q1)) q2 q3 q4
  ·rcases whr y k2 c m h1 h2 with ⟨j,k',e1,e2,e3⟩ | ⟨e0,e1,k0,e2,e3⟩
   ·rcases(hC.cv j k' c m b e2 e3 hi).2.1 with h6 | h6
    ·exact .inr h6
    ·obtain⟨i,h,k,c2,m2,q1,q2,q3,q4⟩:=kc hls h6
     exact .inl ⟨h,k,c2,m2,hW h (og q1),q2,q3,q4⟩
   ·exact .inl ⟨y,k0,c,m,hy,e2,e3,hi⟩
end
end Go.AM
/-
 AM,part BB:the steps:calls to which blocks are lent;handles under other numbers.
-/
namespace Go.AM
def qQ:List Nat→Bool
 | []=>true
 | h::r=>!(r.contains h)&&qQ r
theorem lG:∀{H:List Nat},qQ H=true→H.Nodup
 | [],_=>List.nodup_nil
 | h::r,e=>by
  simp only[qQ,ah,aZ] at e
  refine List.nodup_cons.2 ⟨fun hm=>?_,lG e.2⟩
  have:=e.1
  simp at this
  exact this hm
section
variable {P:Program}{N:Nat}{cx:Cx}{s:St}
variable {ty:TypeId}{pos:String}{after:Array Edge}{guard:Option (Nat×Bool)}{W:List Nat}{d:Nat}
theorem ux {f:FuncId}{vs:List Value}{gs gs':List G}{dQ:List (Nat×aq)}{Q:G→List (Nat×aq)→Prop}{Qp:List PanicEntry→List (Nat×aq)→Prop}{H:List Nat}{vw:Bool}{μ:Mu}{a:Act}{w:World}(hr:Rel N cx μ s a w)
  (hv:bV.go H (dO s.st H vw) gs=some gs') (hl:fM H (dO s.st H vw) s.st H 0=some dQ) (cZ:qQ H=true) (hvs:vs.length=gs.length)
  (hrep:∀(j:Nat) (g:G) (v:Value),gs[j]?=some g→vs[j]?=some v→aN (cx.O s.st μ) cx.base w μ g v) (hcon:GP P f gs' dQ Q Qp):
  Calls P f vs.toArray w (qO (lM cx s.st μ H vw) dQ (lJ H μ) w Q Qp):=by
 obtain⟨h1,h2⟩:=po hv
 have hrel:=FH hr.st hl (lG cZ)
 refine hcon (lM cx s.st μ H vw) (lJ H μ) w vs hrel.fo hrel (by omega) fun j g v hg hv=>?_
 obtain⟨g0,h3,h4⟩:=h2 j g hg
 exact sJ hr.st hl (hrep j g0 v h3 hv) h4
def sQ (H W:List Nat):Bool:=H.all W.contains
theorem sP {H W:List Nat}(h:sQ H W=true):∀x∈H,x∈W:=fun x hx=>by
 have:=cu.1 h x hx
 simpa using this
end
end Go.AM
/-
 AM,part BC:a handle under another number (a block that was handed in and may move from now on).
-/
namespace Go.AM
def mv (h h' x:Nat):Nat:=bif Nat.beq x h then h' else x
theorem tc (h h':Nat):mv h h' h=h':=by simp[mv,aK]
theorem iH {h h' x:Nat}(e:x≠h):mv h h' x=x:=by
 unfold mv
 cases hb:Nat.beq x h with
 | false=>rfl
 | true=>exact absurd (ab hb) e
def nQ (h h':Nat):G→G
 | .loc x off=>.loc (mv h h' x) off
 | .aM x sz off n=>.aM (mv h h' x) sz off n
 | .cT x=>.cT (mv h h' x)
 | .eY x=>.eY (mv h h' x)
 | .kp x i off=>.kp (mv h h' x) i off
 | .ks x i sz n=>.ks (mv h h' x) i sz n
 | .agg gs=>.agg (go gs)
 | .aT gs=>.aT (go gs)
 | .aR f gs=>.aR f (go gs)
 | g=>g
where go:List G→List G
 | []=>[]
 | g::r=>nQ h h' g::go r
theorem mN {h h':Nat}{gs:List G}:(nQ.go h h' gs).length=gs.length∧∀(j:Nat) (g':G),(nQ.go h h' gs)[j]?=some g'→∃g,gs[j]?=some g∧g'=nQ h h' g:=by
 induction gs with
 | nil=>exact⟨rfl,fun j g e=>by simp[nQ.go] at e⟩
 | cons x r ih=>
  refine⟨by simp[nQ.go,ih.1],fun j g' e=>?_⟩
  simp only[nQ.go] at e
  cases j with
  | zero=>cases e;exact⟨x,rfl,rfl⟩
  | succ j=>exact ih.2 j g' e
def Di (h h':Nat) (k:aq):aq:=bif k.pure then k else {k with cells:=nQ.go h h' k.cells}
def xI (h h':Nat):List (Nat×G)→List (Nat×G)
 | []=>[]
 | (t,g)::r=>(t,nQ h h' g)::xI h h' r
def tB (h h':Nat):List (Nat×aq)→List (Nat×aq)
 | []=>[]
 | (x,k)::r=>(mv h h' x,Di h h' k)::tB h h' r
theorem Nb {h h':Nat}{fr:List (Nat×G)}{t:Nat}{g:G}(hg:get (xI h h' fr) t=some g):∃g0,get fr t=some g0∧g=nQ h h' g0:=by
 induction fr with
 | nil=>cases hg
 | cons x r ih=>
  obtain⟨k,g'⟩:=x
  simp only[xI,fF] at hg⊢
  cases hb:Nat.beq k t with
  | true=>rw[hb] at hg;cases hg;exact⟨g',rfl,rfl⟩
  | false=>rw[hb] at hg;exact ih hg
theorem Kn {h h':Nat}(hne:h'≠h){st:List (Nat×aq)}{y:Nat}{k2:aq}(hn:ay st h'=none) (hg:ay (tB h h' st) y=some k2):
  (y=h'∧∃k,ay st h=some k∧k2=Di h h' k)∨(y≠h'∧y≠h∧∃k,ay st y=some k∧k2=Di h h' k):=by
 induction st with
 | nil=>cases hg
 | cons x r ih=>
  obtain⟨z,k⟩:=x
  have hz:z≠h':=fun e=>by subst e;rw[dv] at hn;cases hn
  rw[aG _ _ (Ne.symm hz)] at hn
  simp only[tB,pH] at hg
  cases hb:Nat.beq (mv h h' z) y with
  | true=>
   rw[hb] at hg
   cases hg
   have hb:=ab hb
   by_cases e:z=h
   ·subst e
    rw[tc] at hb
    exact .inl ⟨hb.symm,k,dv _ _ _,rfl⟩
   ·rw[iH e] at hb
    subst hb
    exact .inr ⟨hz,e,k,dv _ _ _,rfl⟩
  | false=>
   rw[hb] at hg
   have hbz:mv h h' z≠y:=fun e=>by rw[e,aK] at hb;cases hb
   rcases ih hn hg with ⟨e,k',h1,h2⟩ | ⟨e1,e2,k',h1,h2⟩
   ·refine .inl ⟨e,k',?_,h2⟩
    rw[aG _ _ (fun e'=>by subst e';rw[tc] at hbz;exact hbz e.symm)]
    exact h1
   ·refine .inr ⟨e1,e2,k',?_,h2⟩
    rw[aG _ _ (fun e'=>by subst e';rw[iH e2] at hbz;exact hbz rfl)]
    exact h1
theorem vY {O:Nat→Prop}{base:Nat}{w:World}{μ μ':Mu}{h h':Nat}{g:G}{v:Value}(hv:aN O base w μ g v) (h1:μ' h'=μ h) (h2:∀y,y≠h→g.bR y=true→μ' y=μ y):aN O base w μ' (nQ h h' g) v:=by
 have key:∀{y:Nat}{x:Option (Nat×Mm)},μ y=x→(y≠h→μ' y=μ y)→μ' (mv h h' y)=x:=by
  intro y x hm hy
  by_cases e:y=h
  ·subst e;rw[tc,h1];exact hm
  ·rw[iH e,hy e];exact hm
 have aD:∀{g:G}{v:Value},bp O w g v→aN O base w μ' (nQ h h' g) v:=by
  intro g v hi
  induction hi with
  | any v=>exact .aD (.any v)
  | val v=>exact .aD (.val v)
  | cQ b v h=>exact .aD (.cQ b v h)
  | nil=>exact .aD .nil
  | iw a c=>exact .aD (.iw a c)
  | sl n cells b off cap us h1 h2 h3 h4 h5 ih=>exact .aD (.sl n cells b off cap us h1 h2 h3 h4 h5)
  | ptr cells b off us h1 h2 h3 h4 ih=>exact .aD (.ptr cells b off us h1 h2 h3 h4)
  | agg cells us hl hr ih=>
   refine .agg _ us (by rw[mN.1];exact hl) fun j g v hg hv=>?_
   obtain⟨g0,e1,rfl⟩:=mN.2 j g hg
   exact ih j g0 v e1 hv
 induction hv with
 | aD h=>exact aD h
 | fr h=>exact .fr h
 | loc x off b m hm=>exact .loc _ off b m (key hm fun e=>h2 x e (by simp[G.bR,aK]))
 | gX x sz hm=>exact .gX _ sz (key hm fun e=>h2 x e (by simp[G.bR,aK]))
 | aM x sz off n b m cap hm hn hc=>exact .aM _ sz off n b m cap (key hm fun e=>h2 x e (by simp[G.bR,aK])) hn hc
 | fL x sz off0 b m hm hp=>exact .fL _ sz off0 b m (key hm fun e=>h2 x e (by simp[G.bR,aK])) hp
 | cT x b m hm=>exact .cT _ b m (key hm fun e=>h2 x e (by simp[G.bR,aK]))
 | eY x b m hm=>exact .eY _ b m (key hm fun e=>h2 x e (by simp[G.bR,aK]))
 | kp x i off b m c n hm hk=>exact .kp _ i off b m c n (key hm fun e=>h2 x e (by simp[G.bR,aK])) hk
 | k7 x i sz a cap hb=>exact .k7 _ i sz a cap hb
 | ks x i sz n b m c k cap hm hk hn hc=>exact .ks _ i sz n b m c k cap (key hm fun e=>h2 x e (by simp[G.bR,aK])) hk hn hc
 | agg cells us hl hr ih=>
  refine .agg _ us (by rw[mN.1];exact hl) fun j g v hg hv=>?_
  obtain⟨g0,e1,rfl⟩:=mN.2 j g hg
  exact ih j g0 v e1 hv fun y hy hh=>h2 y hy (by simp only[G.bR];exact G.pM (aQ e1) hh)
 | aT cells us hl hr ih=>
  refine .aT _ us (by rw[mN.1];exact hl) fun j g v hg hv=>?_
  obtain⟨g0,e1,rfl⟩:=mN.2 j g hg
  exact ih j g0 v e1 hv fun y hy hh=>h2 y hy (by simp only[G.bR];exact G.pM (aQ e1) hh)
 | aR f cells us hl hr ih=>
  refine .aR f _ us (by rw[mN.1];exact hl) fun j g v hg hv=>?_
  obtain⟨g0,e1,rfl⟩:=mN.2 j g hg
  exact ih j g0 v e1 hv fun y hy hh=>h2 y hy (by simp only[G.bR];exact G.pM (aQ e1) hh)
theorem aS.move {O:Nat→Prop}{base:Nat}{w:World}{μ μ':Mu}{k:aq}{x:Option (Nat×Mm)}{h h':Nat}(hb:aS O base w μ k x) (h1:μ' h'=μ h) (h2:k.pure=false→∀g∈k.cells,∀y,y≠h→g.bR y=true→μ' y=μ y):aS O base w μ' (Di h h' k) x:=by
 unfold Di
 cases hp:k.pure with
 | true=>exact hb.jg fun hp'=>by rw[hp] at hp';cases hp'
 | false=>
  have h2:=h2 hp
  simp only[cond_false]
  cases x with
  | none=>
   obtain⟨e1,e2⟩:=hb
   refine⟨aX (by simp only;rw[mN.1,e1];rfl),?_⟩
   dsimp only
   split at e2
   ·trivial
   ·exact e2.elim
   ·rw[hp] at e2;cases e2.2
  | some bm=>
   obtain⟨b,m⟩:=bm
   cases hl:k.lp with
   | none=>
    obtain⟨cs1,h4,h5,h6,h7,h8,h9⟩:=hb.cells hl
    refine .mk rfl (hb.mn hl) ⟨cs1,h4,h5,by simp only;rw[mN.1];exact h6,h7,h8,fun j g hg=>?_⟩
    obtain⟨g0,e1,rfl⟩:=mN.2 j g hg
    obtain⟨v,hv,hrv⟩:=h9 j g0 e1
    refine⟨v,hv,?_⟩
    unfold cF at hrv⊢
    rw[hp] at hrv
    simp only
    exact vY hrv h1 (h2 g0 (aQ e1))
   | some kd=>
    cases kd with
    | deep d=>have:=((aS.deep hl).1 hb).2.1;rw[hp] at this;cases this
    | loop lp=>
     obtain⟨D,vs,q1,q2,q3,q4,q5⟩:=(aS.loop hl).1 hb
     refine(aS.loop rfl).2 ⟨D,vs,q1,q2,q3,rfl,fun j t g ht hg=>?_⟩
     obtain⟨g0,e1,rfl⟩:=mN.2 j g hg
     obtain⟨v,hv,hrv⟩:=q5 j t g0 ht e1
     exact⟨v,hv,vY hrv h1 (h2 g0 (aQ e1))⟩
theorem MJ (h h':Nat) (k:aq):(Di h h' k).dC=k.dC:=by unfold Di;cases k.pure <;> rfl
section
variable {P:Program}{N:Nat}{cx:Cx}{s:St}{Q:Exit→St→Prop}
theorem Rel.move {μ : Mu} {a : Act} {w : World} (hr : Rel N cx μ s a w) (h h' : Nat) (hf : fresh s h' = true) (hne : Nat.beq h' h = false) :
    Rel N cx (mJ μ h' (μ h)) { fr := xI h h' s.fr, st := tB h h' s.st, df := nQ.go h h' s.df } a w := by
  have hne : h' ≠ h := fun e => by subst e; rw [aK] at hne; cases hne
  obtain ⟨f1, f2, f3, f4, f5⟩ := iL hf
  have other : ∀ {y}, y ≠ h' → mJ μ h' (μ h) y = μ y := fun e => bh e
  have row := fun (y : Nat) (k2 : aq) (e : ay (tB h h' s.st) y = some k2) => Kn hne f1 e
  have whr : ∀ y k2, ay (tB h h' s.st) y = some k2 → ∃ x k, ay s.st x = some k ∧ k2 = Di h h' k ∧ mJ μ h' (μ h) y = μ x ∧ y = mv h h' x := by
    intro y k2 e
    rcases row y k2 e with ⟨rfl, k, e1, e2⟩ | ⟨e0, e1, k, e2, e3⟩
    · exact ⟨h, k, e1, e2, cz _ _ _, (tc _ _).symm⟩
    · exact ⟨y, k, e2, e3, other e0, (iH e1).symm⟩
  have hO : ∀ b, ¬ cx.O s.st μ b → ¬ cx.O (tB h h' s.st) (mJ μ h' (μ h)) b := by
    rintro b hn (ho | ⟨y, k2, c, m, e1, e2, hi⟩)
    · exact hn (.inl ho)
    · obtain ⟨x, k, q1, _, q3, _⟩ := whr y k2 e1
      rw [q3] at e2
      exact hn (.inr ⟨x, k, c, m, q1, e2, hi⟩)
  refine { st := { ey := ?_, dA := ?_, cv := ?_, fK := ?_, fo := hr.st.fo, hb := hr.st.hb, os := hr.st.os, tape := hr.st.tape, output := hr.st.output, gl := hr.st.gl, ec := hr.st.ec }, nd := ?_, sz := hr.sz, fr := ?_ }
  · intro y k2 e
    obtain ⟨x, k, q1, rfl, q3, _⟩ := whr y k2 e
    rw [q3]
    exact ((hr.st.ey x k q1).mono (fun _ _ _ _ _ => rfl) (Kept.refl _ _) fun b _ => hO b).move (cz _ _ _) fun hp g hg y _ hh => other fun e => by subst e; rw [tp f3 q1 hp hg] at hh; cases hh
  · intro y y' k2 k2' z b m b' m' e1 e2 e3 e4 hi hi'
    obtain ⟨x, k, q1, _, q3, q4⟩ := whr y k2 e1
    obtain ⟨x', k', q1', _, q3', q4'⟩ := whr y' k2' e2
    rw [q3] at e3
    rw [q3'] at e4
    rw [q4, q4', hr.st.dA x x' k k' z b m b' m' q1 q1' e3 e4 hi hi']
  · intro y k2 b m z e1 e2 hi
    obtain ⟨x, k, q1, rfl, q3, _⟩ := whr y k2 e1
    rw [q3] at e2
    obtain ⟨a1, a2, a3, a4⟩ := hr.st.cv x k b m z q1 e2 hi
    exact ⟨a1, a2, a3, fun hm => a4 (by rw [MJ] at hm; exact hm)⟩
  · intro y k2 e hp
    rcases row y k2 e with ⟨rfl, _⟩ | ⟨e0, e1, k, e2, _⟩
    · rw [lr f5] at hp; cases hp
    · rw [other e0]; exact hr.st.fK y k e2 hp
  · have cZ := hr.nd.mono (Kept.refl _ _) fun b _ => hO b
    clear hO whr row
    generalize s.df = gs at cZ f4
    generalize a.defers = ds at cZ
    induction cZ with
    | nil => exact .nil
    | mark h1 h2 h3 h4 h5 h6 ih => exact .mark h1 h2 h3 h4 h5 (ih f4)
    | aR h1 h2 ih =>
      simp only [oE, ah, aZ] at f4
      exact .aR (vY h1 (cz _ _ _) fun y _ hh => other fun e => by subst e; rw [f4.1] at hh; cases hh) (ih f4.2)
  · intro t g hg
    obtain ⟨g0, e1, rfl⟩ := Nb hg
    obtain ⟨v, hv, hrv⟩ := hr.fr t g0 e1
    exact ⟨v, hv, vY (hrv.mono (Kept.refl _ _) (fun b _ => hO b) (ar _)) (cz _ _ _) fun y _ hh => other fun e => by subst e; rw [pq f2 e1] at hh; cases hh⟩
theorem GW.move {c:Code}(h h':Nat) (hf:fresh s h'=true) (hne:Nat.beq h' h=false) (k:GW P N cx c Q {fr:=xI h h' s.fr,st:=tB h h' s.st,df:=nQ.go h h' s.df}):GW P N cx c Q s:=fun _ a w hr=>k _ a w (hr.move h h' hf hne)
end
end Go.AM
/-
 AM,part BD:loops over functions:their rounds,the calls of yield,the loop itself.
-/
namespace Go.AM
section
variable {P:Program}{N:Nat}{cx:Cx}{s:St}
variable {ty:TypeId}{pos:String}{after:Array Edge}{guard:Option (Nat×Bool)}{d:Nat}{ops:Array Oper}{rest:List Oper}{R:Exit→St→Prop}
end
end Go.AM
/-
 AM,part BE:the loop over a function.
-/
namespace Go.AM
section
variable {P:Program}{N:Nat}{cx:Cx}{s:St}
theorem aN.QK {O:Nat→Prop}{base:Nat}{w:World}{μ:Mu}{f:FuncId}{caps:List G}{v:Value}(h:aN O base w μ (.aR f caps) v):
  ∃us:List Value,v=qB f us∧us.length=caps.length∧∀(j:Nat) (g:G) (v:Value),caps[j]?=some g→us[j]?=some v→aN O base w μ g v:=by
 cases h with
 | aD h=>cases h
 | aR _ _ us hl hr=>exact⟨us,rfl,hl,hr⟩
end
end Go.AM
/-
 AM,part BF:how a round was left,as data;lists of a callee's own;structs in slices of the call's own.
-/
namespace Go.AM
section
variable {P:Program}{N:Nat}{cx:Cx}{Q:Exit→St→Prop}{s:St}{ops:Array Oper}{rest:List Oper}
end
section
variable {α:Type}[aO α]
variable {P:Program}{N:Nat}{cx:Cx}{Q:Exit→St→Prop}{s:St}{ops:Array Oper}{rest:List Oper}
variable {W:List Nat}{dst:Option Tmp}{ty:TypeId}{pos:String}{after:Array Edge}{guard:Option (Nat×Bool)}
theorem Lk {l:List α}{i:Nat}(x:α) (h:i<l.length):(ed l).take (0+i*aO.sz α)++aO.cells x++(ed l).drop (0+i*aO.sz α+aO.sz α)=ed (l.set i x):=by
 have e:0+i*aO.sz α+aO.sz α=(i+1)*aO.sz α:=by rw[cN,fA,Nat.one_mul]
 rw[e,xX,cN,xW,eB,if_pos h,zj,Ll,aL]
theorem DF {l:List α}{i j:Nat}{x x':α}{g:G}(h:l[i]?=some x) (hj:j<aO.sz α) (hx:aO.cells x'=(aO.cells x).set j g):(ed l).set (0+i*aO.sz α+j) g=ed (l.set i x'):=by
 rw[cN]
 apply jT
 intro n
 have hil:=(av.1 h).1
 rw[gD]
 have hset:ed (l.set i x')=(ed l).take (0+i*aO.sz α)++aO.cells x'++(ed l).drop (0+i*aO.sz α+aO.sz α):=(Lk x' hil).symm
 rw[hset,hx,aL,bC,bH,iA,cN]
 have hm:i*aO.sz α+aO.sz α≤l.length*aO.sz α:=by rw[←Nat.succ_mul];exact cJ _ hil
 rw[gR (by omega)]
 by_cases e:i*aO.sz α+j=n
 ·rw[if_pos e,if_pos (by omega),if_neg (by omega),bC,lc,aO.len,if_pos (by omega),gD,if_pos (by omega),if_pos (by rw[aO.len];omega)]
 ·rw[if_neg e]
  split
  ·rename_i h1;rw[bg,if_pos h1]
  ·rename_i h1
   rw[bC,lc,aO.len]
   split
   ·rename_i h2
    rw[gD,if_neg (by omega),←tJ h (by omega)]
    congr 1;omega
   ·rename_i h2
    rw[bn]
    congr 1;omega
end
end Go.AM
/-
 AM,part BG:make of elements of any make.
-/
namespace Go.AM
section
variable {α:Type}[aO α]
variable {P:Program}{N:Nat}{cx:Cx}{s:St}{W:List Nat}{d:Nat}
variable {ty:TypeId}{pos:String}{after:Array Edge}{guard:Option (Nat×Bool)}
variable {dst:Option Tmp}
end
end Go.AM
/-
 AM,part BH:a slice of the call's own in the place of one that was lent.
-/
namespace Go.AM
section
variable {P:Program}{N:Nat}{cx:Cx}{Q:Exit→St→Prop}{s:St}{ops:Array Oper}{rest:List Oper}
def R3:G→G
 | .val v=>ny v
 | g=>J8 g
variable {dst:Option Tmp}{ty:TypeId}{pos:String}{after:Array Edge}{guard:Option (Nat×Bool)}
end
end Go.AM
/-
 AM,part BI:make with a capacity;an append of a make to the nil slice.
-/
namespace Go.AM
section
variable {P:Program}
end
section
variable {α:Type}[aO α]
variable {P:Program}{N:Nat}{cx:Cx}{s:St}{W:List Nat}{d:Nat}
variable {ty:TypeId}{pos:String}{after:Array Edge}{guard:Option (Nat×Bool)}
theorem IY {O:Nat→Prop}{base:Nat}{w:World}{μ:Mu}{x:α}{z:Value}{e:TypeId}{m:Nat}{cs:Array Value}(hzs:z.cells.size=aO.sz α) (he:z.cells.toList.map ny=aO.cells x)
  (hcs:∀j,j<m*aO.sz α→cs[j]?=(madeCells z.cells (m*aO.sz α))[j]?) (j:Nat) (g':G) (hg':(ed (List.replicate m x))[j]?=some g'):
  ∃v,cs[j]?=some v∧cF O base w μ ⟨e,true,true,true,aO.sz α,ed (List.replicate m x),none⟩ g' v:=by
 have hpos:0<aO.sz α:=aO.pos
 unfold ed at hg'
 rw[rE aO.cells (aO.sz α) hpos (List.replicate m x) (fun a _=>aO.len a) j,List.getElem?_replicate] at hg'
 split at hg'
 ·rename_i hj
  simp only[aa] at hg'
  rw[←he,ak] at hg'
  have hlt:j%aO.sz α<z.cells.toList.length:=by rw[bE,hzs];exact Nat.mod_lt _ hpos
  rw[ao hlt] at hg'
  cases hg'
  have hjn:j<m*aO.sz α:=(Nat.div_lt_iff_lt_mul hpos).1 hj
  refine⟨z.cells.toList[j%aO.sz α],?_,?_⟩
  ·rw[hcs j hjn]
   have hmod:j%z.cells.size=j%aO.sz α:=by rw[hzs]
   rw[bE] at hlt
   simp[madeCells,hjn,hmod,hlt]
  ·unfold cF
   exact xk _
 ·cases hg'
theorem ET.AT {x:α}{t e:TypeId}{xo yo:Operand}{z:Value}{bt sz:Nat}{k k':IntKind}{n c:Int}(hd:Nat) (hx:ev s xo=some (.val (.int k n))) (hy:ev s yo=some (.val (.int k' c)))
  (ht:P.underlying t=some (.slice e)) (hi:(P.info? e).map (fun i=>(i.zero,i.size,i.bytes))=some (some z,sz,bt)) (hzs:z.cells.size=sz) (hsz:aO.sz α=sz) (he:z.cells.toList.map ny=aO.cells x)
  (h0:0≤n) (hnc:n≤c) (hb:(bt:Int)*c≤281474976710656) (h63:c≤9223372036854775807) (hfr:fresh s hd=true):
  bW P W s ⟨some d,.makeSlice t xo yo,ty,pos,after,guard⟩ (·={fr:=(d,.aM hd (aO.sz α) 0 (List.replicate n.toNat x).length)::s.fr,st:=(hd,⟨e,true,true,true,aO.sz α,ed (List.replicate n.toNat x),none⟩)::s.st,df:=s.df}):=by
 subst hsz
 refine bW.of (s1:={fr:=s.fr,st:=(hd,⟨e,true,true,true,aO.sz α,ed (List.replicate n.toNat x),none⟩)::s.st,df:=s.df}) (g:=.aM hd (aO.sz α) 0 (List.replicate n.toNat x).length) rfl (fun _ h=>by cases h) ?_
 intro N cx μ a w hr
 obtain⟨i,hi1,hi2⟩:=au.1 hi
 simp only[Prod.mk.injEq] at hi2
 obtain⟨hz,hs1,hb1⟩:=hi2
 have hms:(madeCells z.cells (c.toNat*i.size)).size=c.toNat*aO.sz α:=by rw[size_madeCells,hs1]
 have hle:n.toNat*aO.sz α≤c.toNat*aO.sz α:=cJ _ (by omega)
 obtain⟨μ',w',rfl,h1,h2,h3⟩:=hr.tY (k:=⟨e,true,true,true,aO.sz α,ed (List.replicate n.toNat x),none⟩) (cs:=madeCells z.cells (c.toNat*i.size)) hfr rfl (by rw[hms];simp only[iA,List.length_replicate];exact hle)
  (fun _=>by rw[hms];exact cJ _ (by unfold maxLen;omega))
  (fun j g' hg'=>IY hzs he (fun j hj=>by
   rw[hs1]
   have h5:j<c.toNat*aO.sz α:=cm hj hle
   simp[madeCells,hj,h5]) j g' hg')
  (fun h=>by cases h) W
 have hrun:=run_make (P:=P) w t e i z ht hi1 hz k k' n c h0 hnc (by rw[hb1];exact hb) h63
 rw[hms] at h2
 refine⟨_,μ',_,?_,h1,.aM hd (aO.sz α) 0 _ _ _ c.toNat h2 (by simp;omega) (by simp),h3⟩
 simp[execOp,hr.val hx,hr.val hy,hrun]
end
section
variable {P:Program}{s:St}{W:List Nat}{d:Nat}{ty:TypeId}{pos:String}{after:Array Edge}{guard:Option (Nat×Bool)}
end
end Go.AM
/-
 AM,part BJ:copy.
-/
namespace Go.AM
section
variable {P:Program}{N:Nat}{cx:Cx}{s:St}
variable {ty:TypeId}{pos:String}{after:Array Edge}{guard:Option (Nat×Bool)}{W:List Nat}{d:Nat}
end
end Go.AM
/-
 AM:pointers that may be nil;slices of slices,told as a whole.
-/
namespace Go.AM
section
variable {P:Program}{N:Nat}{cx:Cx}{s:St}{W:List Nat}
variable {dst:Option Tmp}{ty:TypeId}{pos:String}{after:Array Edge}{guard:Option (Nat×Bool)}
def tz:G→Option Bool
 | .val (.pointer none)=>some true
 | .kp _ _ _=>some false
 | .loc _ _=>some false
 | .ptr _=>some false
 | .fr (.ptr _)=>some false
 | _=>none
theorem aN.tz {O:Nat→Prop}{base:Nat}{w:World}{μ:Mu}{g:G}{v:Value}{b:Bool}(h:aN O base w μ g v) (hn:AM.tz g=some b):∃p,v=.pointer p∧p.isNone=b:=by
 cases g with
 | val u=>
  cases h with
  | aD h=>
   cases h
   cases v with
   | pointer p=>cases p with
    | none=>cases hn;exact⟨none,rfl,rfl⟩
    | some _=>cases hn
   | _=>cases hn
 | kp h' i off=>
  cases hn
  cases h with
  | aD h=>cases h
  | kp _ _ _ b m c n hm hk=>exact⟨_,rfl,rfl⟩
 | loc h' off=>
  cases hn
  cases h with
  | aD h=>cases h
  | loc _ _ b m hm=>exact⟨_,rfl,rfl⟩
 | ptr cs=>
  cases hn
  cases h with
  | aD h=>cases h with
   | ptr=>exact⟨_,rfl,rfl⟩
 | fr g=>
  cases g with
  | ptr cs=>
   cases hn
   cases h with
   | aD h=>cases h
   | fr h=>cases h with
    | ptr=>exact⟨_,rfl,rfl⟩
  | _=>cases hn
 | _=>cases hn
theorem Ax {t e:TypeId}(ht:P.underlying t=some (.pointer e)) (p:Option Addr) (w:World):(Op.equal t (.pointer p) (.pointer none)).run P w=.ok p.isNone w:=by
 have key:∀d,(Op.equalIn (d+1) t (.pointer p) (.pointer none)).run P w=.ok p.isNone w:=fun d=>by
  cases p with
  | none=>simp[Op.equalIn,run_underlying ht]
  | some a=>simp[Op.equalIn,run_underlying ht]
 exact key 9999
theorem PY.ptrEq {t t' e:TypeId}{x:Operand}{g:G}{b:Bool}(hx:ev s x=some g) (hn:AM.tz g=some b) (ht:P.underlying t=some (.pointer e)):
  PY P s ⟨dst,.binOp .eql t x (.const (.pointer none)) t',ty,pos,after,guard⟩ (.val (.bool b)):=fun N cx μ a w hr=>by
 obtain⟨p,e1,rfl⟩:=(hr.ev hx).tz hn
 refine⟨_,.aD (.val _),fun w'=>?_⟩
 have h:=Ax (P:=P) ht p w'
 have hg:(eqGuard .eql t x (.const (.pointer none)) (.pointer p) (.pointer none)).run P w'=.ok () w':=by simp[eqGuard]
 simp only[execOp,e1,show a.eval (.const (.pointer none))=.pointer none from rfl,Sem.run_bind,hg,Result.andThen_ok]
 simp[binOp,h]
theorem PY.Q3 {t t' e:TypeId}{x:Operand}{g:G}{b:Bool}(hx:ev s x=some g) (hn:AM.tz g=some b) (ht:P.underlying t=some (.pointer e)):
  PY P s ⟨dst,.binOp .neq t x (.const (.pointer none)) t',ty,pos,after,guard⟩ (.val (.bool (!b))):=fun N cx μ a w hr=>by
 obtain⟨p,e1,rfl⟩:=(hr.ev hx).tz hn
 refine⟨_,.aD (.val _),fun w'=>?_⟩
 have h:=Ax (P:=P) ht p w'
 have hg:(eqGuard .neq t x (.const (.pointer none)) (.pointer p) (.pointer none)).run P w'=.ok () w':=by simp[eqGuard]
 simp only[execOp,e1,show a.eval (.const (.pointer none))=.pointer none from rfl,Sem.run_bind,hg,Result.andThen_ok]
 simp[binOp,h]
theorem PY.Dg {x:Operand}{h i off:Nat}(hx:ev s x=some (.kp h i off)):PY P s ⟨dst,.nilCheck x,ty,pos,after,guard⟩ (.kp h i off):=fun N cx μ a w hrel=>by
 have hr:=hrel.ev hx
 refine⟨_,hr,fun w'=>?_⟩
 generalize e1:a.eval x=v at hr
 cases hr with
 | aD h=>cases h
 | kp _ _ _ b m c n hm hk=>simp[execOp,e1]
def sS (O:Nat→Prop) (w:World) (kty:TypeId) (sz:Nat) (n:Nat) (gs:List G) (u:Value):Option (Nat×Nat)→Prop
 | none=>n=0∧gs=[]∧∃a cap,u=.slice a 0 cap∧(a=none→cap=0)
 | some (c,k)=>∃cap cs,u=.slice (some ⟨c,0,none⟩) n cap∧n≤cap∧cap*sz=k∧w.heap[c]?=some (.cells cs kty (0,0))∧cs.size=k∧k≤maxLen*sz∧gs.length=n*sz∧
   ∀(j:Nat) (g:G),gs[j]?=some g→∃v,cs[j]?=some v∧bp O w g v
structure Oz (bs kty:TypeId) (sz:Nat) (rows:List (Nat×List G)) (O:Nat→Prop) (w:World) (b:Nat) (m:Mm) (cs:Array Value):Prop where
 len:m.2.length=rows.length
 root:∀(i c k:Nat),m.2[i]?=some (some (c,k))→c≠b∧c<w.heap.size
 inj:∀(i j c k k':Nat),m.2[i]?=some (some (c,k))→m.2[j]?=some (some (c,k'))→i=j
 heap:w.heap[b]?=some (.cells cs bs (0,0))
 size:cs.size=m.1
 le:rows.length≤m.1
 max:m.1≤maxLen
 row:∀(i n:Nat) (gs:List G),rows[i]?=some (n,gs)→∃u x,cs[i]?=some u∧m.2[i]?=some x∧sS O w kty sz n gs u x
theorem sS.mono {O O':Nat→Prop}{w w':World}{kty:TypeId}{sz n:Nat}{gs:List G}{u:Value}{x:Option (Nat×Nat)}(h:sS O w kty sz n gs u x) (hk:Kept O w w') (hO:∀x,x<w.heap.size→¬O x→¬O' x)
  (hc:∀c k,x=some (c,k)→w'.heap[c]?=w.heap[c]?):sS O' w' kty sz n gs u x:=by
 cases x with
 | none=>exact h
 | some ck=>
  obtain⟨c,k⟩:=ck
  obtain⟨cap,cs,h1,h2,h3,h4,h5,h6,h7,h8⟩:=h
  exact⟨cap,cs,h1,h2,h3,(hc c k rfl).trans h4,h5,h6,h7,fun j g hg=>let ⟨v,hv,hr⟩:=h8 j g hg;⟨v,hv,hr.mono hk hO⟩⟩
theorem sS.shut {O Z:Nat→Prop}{w w':World}{kty:TypeId}{sz n:Nat}{gs:List G}{u:Value}{x:Option (Nat×Nat)}(h:sS O w kty sz n gs u x) (hs:iX Z w w'):sS O w' kty sz n gs u x:=by
 cases x with
 | none=>exact h
 | some ck=>
  obtain⟨c,k⟩:=ck
  obtain⟨cap,cs,h1,h2,h3,h4,h5,h6,h7,h8⟩:=h
  exact⟨cap,cs,h1,h2,h3,hs.cells h4,h5,h6,h7,fun j g hg=>let ⟨v,hv,hr⟩:=h8 j g hg;⟨v,hv,hr.shut hs⟩⟩
theorem In.tE {b:Nat}{m:Mm}{i c k:Nat}(h:m.2[i]?=some (some (c,k))):In c b m:=.inr ⟨k,aQ h⟩
def rF (bs kty:TypeId) (sz:Nat) (rows:List (Nat×List G)):Dp where
 φ:=fun O w b m=>∃cs,Oz bs kty sz rows O w b m cs
 iw:=rows=[]
 mono:=by
  rintro O O' w w' b m ⟨cs,h⟩ hk hO hb
  refine⟨cs,{len:=h.len,root:=fun i c k e=>⟨(h.root i c k e).1,cm (h.root i c k e).2 hk.size⟩,inj:=h.inj,heap:=(hb b (.self _ _)).trans h.heap,size:=h.size,le:=h.le,max:=h.max,row:=fun i n gs e=>?_}⟩
  obtain⟨u,x,h1,h2,h3⟩:=h.row i n gs e
  exact⟨u,x,h1,h2,h3.mono hk hO fun c k e=>hb c (.tE (k:=k) (by rw[h2,e]))⟩
 shut:=by
  rintro O Z w w' b m ⟨cs,h⟩ hs _
  refine⟨cs,{len:=h.len,root:=fun i c k e=>⟨(h.root i c k e).1,by rw[hs.size];exact(h.root i c k e).2⟩,inj:=h.inj,heap:=hs.cells h.heap,size:=h.size,le:=h.le,max:=h.max,row:=fun i n gs e=>?_}⟩
  obtain⟨u,x,h1,h2,h3⟩:=h.row i n gs e
  exact⟨u,x,h1,h2,h3.shut hs⟩
 live:=by
  rintro O w b m ⟨cs,h⟩ x hx
  rcases hx with rfl | ⟨n,hn⟩
  ·exact dU h.heap
  ·obtain⟨i,hi⟩:=eZ hn
   exact(h.root i x n hi).2
theorem Rel.tH {μ:Mu}{a:Act}{w:World}(hr:Rel N cx μ s a w){h:Nat}{k:aq}{bs kty:TypeId}{sz:Nat}{rows:List (Nat×List G)}(hk:ay s.st h=some k) (hl:k.lp=some (.deep (rF bs kty sz rows))){b:Nat}{m:Mm}(hm:μ h=some (b,m)):
  ∃cs,Oz bs kty sz rows (bif k.fresh then gm (cx.O s.st μ) cx.base else cx.O s.st μ) w b m cs:=by
 have:=hr.st.ey h k hk
 rw[hm] at this
 exact((aS.deep hl).1 this).1
theorem Rel.vE {μ:Mu}{a:Act}{w w':World}(hrel:Rel N cx μ s a w){h:Nat}{k:aq}(hk:ay s.st h=some k){b:Nat}{m:Mm}(hm:μ h=some (b,m))
  (hW:W.contains h=false) (hag:JN W s μ w w'){c:Nat}(hi:In c b m):w'.heap[c]?=w.heap[c]?:=by
 refine hag.2 c (hrel.st.cv h k b m c hk hm hi).2.2.1 ?_
 intro h' k' c' m' hin hk' hm' hi'
 have:=hrel.st.dA h h' k k' c b m c' m' hk hk' hm hm' hi hi'
 subst this
 simp at hW
 exact hW hin
theorem PH {i:Nat}(h:i<maxLen):i≠CN:=by unfold CN;simp only[maxLen] at h;omega
theorem YL.QE {t:TypeId}{x:Operand}{h i sz n:Nat}{k:aq}{bs kty:TypeId}{rows:List (Nat×List G)}{gs:List G}(hx:ev s x=some (.loc h i)) (hk:ay s.st h=some k) (hl:k.lp=some (.deep (rF bs kty sz rows))) (hi:rows[i]?=some (n,gs))
  (hag:∀w,(isAgg t).run P w=.ok false w) (hW:W.contains h=false):fO P W s ⟨dst,.load t x,ty,pos,after,guard⟩ (.ks h i sz n):=fun N cx μ a w hrel=>by
 obtain⟨b,m,e1,hm⟩:=hrel.loc hx
 obtain⟨cs,hf⟩:=hrel.tH hk hl hm
 obtain⟨u,x',h1,h2,h3⟩:=hf.row i n gs hi
 refine⟨u,?_,fun w' hs hw'=>?_⟩
 ·cases x' with
  | none=>obtain⟨rfl,_,a',cap,rfl,_⟩:=h3;exact .k7 h i sz a' cap (fun e=>absurd e (PH (cm (av.1 hi).1 (cR hf.le hf.max))))
  | some ck=>
   obtain⟨c,kk⟩:=ck
   obtain⟨cap,cs',rfl,h4,h5,_⟩:=h3
   exact .ks h i sz n b m c kk cap hm h2 h4 h5
 ·have hb:=hrel.vE hk hm hW ⟨hs,hw'⟩ (.self b m)
  rw[hf.heap] at hb
  have hc:w'.cell? ⟨b,i,none⟩=some u:=by rw[cell_of hb,h1]
  simp[execOp,e1,Instr.loadAt,Instr.sureAddr,loadVar,hag,hc]
theorem Rel.kp {μ:Mu}{a:Act}{w:World}(hrel:Rel N cx μ s a w){x:Operand}{h i off:Nat}(hx:AM.ev s x=some (.kp h i off)):∃b m c n,a.eval x=.pointer (some ⟨c,off,none⟩)∧μ h=some (b,m)∧m.2[i]?=some (some (c,n)):=by
 have hr:=hrel.ev hx
 generalize a.eval x=v at hr
 cases hr with
 | aD h=>cases h
 | kp _ _ _ b m c n hm hk=>exact⟨b,m,c,n,rfl,hm,hk⟩
def La (f:Bool):G→G
 | .val v=>.val v
 | g=>bif f then .fr g else g
theorem bp.La {O:Nat→Prop}{base:Nat}{w:World}{μ:Mu}{f:Bool}{g:G}{v:Value}(h:bp (bif f then gm O base else O) w g v):aN O base w μ (AM.La f g) v:=by
 have key:aN O base w μ (bif f then .fr g else g) v:=by
  cases f with
  | false=>exact .aD h
  | true=>exact .fr h
 cases g with
 | val u=>cases h;exact .aD (.val _)
 | _=>exact key
theorem YL.CA {t:TypeId}{x:Operand}{h i off sz n:Nat}{k:aq}{bs kty:TypeId}{rows:List (Nat×List G)}{gs:List G}{g:G}(hx:ev s x=some (.kp h i off)) (hk:ay s.st h=some k) (hl:k.lp=some (.deep (rF bs kty sz rows)))
  (hi:rows[i]?=some (n,gs)) (hg:gs[off]?=some g) (hag:∀w,(isAgg t).run P w=.ok false w) (hW:W.contains h=false):fO P W s ⟨dst,.load t x,ty,pos,after,guard⟩ (La k.fresh g):=fun N cx μ a w hrel=>by
 obtain⟨b,m,c,n',e1,hm,hc⟩:=hrel.kp hx
 obtain⟨cs,hf⟩:=hrel.tH hk hl hm
 obtain⟨u,x',h1,h2,h3⟩:=hf.row i n gs hi
 rw[hc] at h2
 cases h2
 obtain⟨cap,cs',_,_,_,h6,_,_,_,h10⟩:=h3
 obtain⟨v,hv,hr⟩:=h10 off g hg
 refine⟨v,hr.La,fun w' hs hw'=>?_⟩
 have hb:=hrel.vE hk hm hW ⟨hs,hw'⟩ (.tE hc)
 rw[h6] at hb
 have hcell:w'.cell? ⟨c,off,none⟩=some v:=by rw[cell_of hb,hv]
 simp[execOp,e1,Instr.loadAt,Instr.sureAddr,loadVar,hag,hcell]
theorem cd.rewrite {μ:Mu}{st:List (Nat×aq)}{w w':World}(h:cd cx μ st w){hh:Nat}{k k':aq}{b c:Nat}{m:Mm}(hk:ay st hh=some k) (hm:μ hh=some (b,m)) (hc:In c b m)
  (hsz:w'.heap.size=w.heap.size) (hoth:∀b',b'≠c→w'.heap[b']?=w.heap[b']?) (hos:w'.os=w.os) (htape:w'.tape=w.tape) (hout:w'.output=w.output) (hmine:k'.dC=true→k.dC=true)
  (hb:∀O',(∀x,cx.O st μ x↔O' x)→aS O' cx.base w' μ k' (some (b,m))):
  cd cx μ (eb st hh k') w'∧Kept (cx.O st μ) w w'∧∀b,cx.O (eb st hh k') μ b↔cx.O st μ b:=by
 have hOO:∀b,cx.O (eb st hh k') μ b↔cx.O st μ b:=fun b=>or_congr Iff.rfl (Own.eb hk)
 have hown:cx.O st μ c:=.inr ⟨hh,k,b,m,hk,hm,hc⟩
 have hkept:Kept (cx.O st μ) w w':=⟨by rw[hsz];exact ar _,fun b' _ hn=>hoth b' fun e=>hn (e▸hown)⟩
 have hO:∀b,b<w.heap.size→¬cx.O st μ b→¬cx.O (eb st hh k') μ b:=fun b _ hn ho=>hn ((hOO b).1 ho)
 obtain⟨hx,hbA,_⟩:=h.cv hh k b m c hk hm hc
 refine⟨{ey:=?_,dA:=?_,cv:=?_,fK:=?_,fo:=h.fo,hb:=by rw[hsz];exact h.hb,os:=hos.trans h.os,tape:=htape.trans h.tape,output:=hout.trans h.output,gl:=h.gl,ec:=?_},hkept,hOO⟩
 ·intro x k1 h1
  rcases dy hk h1 with ⟨rfl,rfl⟩ | ⟨hne,h1⟩
  ·rw[hm];exact hb _ fun x=>(hOO x).symm
  ·exact(h.ey x k1 h1).mono (fun b1 m1 hmx y hy=>hoth y fun e=>hne (h.dA x hh k1 k y b1 m1 b m h1 hk hmx hm hy (e▸hc))) hkept hO
 ·intro x x' k1 k2 y b1 m1 b2 m2 h1 h2
  have f:∀x k1,ay (eb st hh k') x=some k1→∃k1,ay st x=some k1:=fun x k1 h1=>by
   rcases dy hk h1 with ⟨rfl,rfl⟩ | ⟨_,h1⟩
   ·exact⟨k,hk⟩
   ·exact⟨_,h1⟩
  obtain⟨k1',h1'⟩:=f x k1 h1
  obtain⟨k2',h2'⟩:=f x' k2 h2
  exact h.dA x x' k1' k2' y b1 m1 b2 m2 h1' h2'
 ·intro x k1 b1 m1 y h1 h2 h3
  rw[hsz]
  rcases dy hk h1 with ⟨rfl,rfl⟩ | ⟨_,h1⟩
  ·exact let ⟨a1,a2,a3,a4⟩:=h.cv x k b1 m1 y hk h2 h3;⟨a1,a2,a3,fun hm=>a4 (hmine hm)⟩
  ·exact h.cv x k1 b1 m1 y h1 h2 h3
 ·intro x k1 h1 h2
  rcases dy hk h1 with ⟨rfl,rfl⟩ | ⟨_,h1⟩
  ·exact h.fK x k hk h2
  ·exact h.fK x k1 h1 h2
 ·intro b' hb1 hA
  rw[hoth b' (fun e=>by subst e;exact hbA.elim (fun h1=>by omega) (fun h1=>hA h1))]
  exact h.ec b' hb1 hA
theorem Rel.rewrite {μ:Mu}{a:Act}{w w':World}(h:Rel N cx μ s a w){hh:Nat}{k k':aq}{b c:Nat}{m:Mm}(hk:ay s.st hh=some k) (hm:μ hh=some (b,m)) (hc:In c b m)
  (hsz:w'.heap.size=w.heap.size) (hoth:∀b',b'≠c→w'.heap[b']?=w.heap[b']?) (hos:w'.os=w.os) (htape:w'.tape=w.tape) (hout:w'.output=w.output) (hmine:k'.dC=true→k.dC=true)
  (hb:∀O',(∀x,cx.O s.st μ x↔O' x)→aS O' cx.base w' μ k' (some (b,m))) (hW:W.contains hh=true):
  Rel N cx μ {fr:=s.fr,st:=eb s.st hh k',df:=s.df} a w'∧Step W s.st μ (eb s.st hh k') μ w w':=by
 obtain⟨h1,h2,h3⟩:=h.st.rewrite hk hm hc hsz hoth hos htape hout hmine hb
 refine⟨{st:=h1,nd:=h.nd.mono h2 (fun b _ hn ho=>hn ((h3 b).1 ho)),sz:=h.sz,fr:=fun t g hg=>?_},?_⟩
 ·obtain⟨v,hv,hr⟩:=h.fr t g hg
  exact⟨v,hv,hr.mono h2 (fun b _ hn ho=>hn ((h3 b).1 ho)) (ar _)⟩
 ·refine⟨by rw[hsz];exact ar _,fun b' _ hn=>hoth b' fun e=>?_,fun x k1 c1 m1 y hw h1 h2 hy=>?_⟩
  ·subst e
   exact hn hh k b m (by simpa using hW) hk hm hc
  ·rcases dy hk h1 with ⟨rfl,rfl⟩ | ⟨_,h1⟩
   ·exact .inl ⟨x,k,c1,m1,hw,hk,h2,hy⟩
   ·exact .inl ⟨x,k1,c1,m1,hw,h1,h2,hy⟩
theorem EF.CA {t:TypeId}{x y:Operand}{h i off sz n:Nat}{k:aq}{bs kty:TypeId}{rows:List (Nat×List G)}{gs:List G}{g g':G}{f:Bool}(hx:ev s x=some (.kp h i off)) (hy:ev s y=some g) (hk:ay s.st h=some k)
  (hl:k.lp=some (.deep (rF bs kty sz rows))) (hi:rows[i]?=some (n,gs)) (hoff:off<gs.length) (hig:F2 g=some (g',f)) (hone:g.one=true) (hsz:∀w,(sizeOf t).run P w=.ok 1 w) (hW:W.contains h=true):
  bW P W s ⟨none,.store t x y,ty,pos,after,guard⟩ (·={fr:=s.fr,st:=eb s.st h {k with fresh:=k.fresh&&f,lp:=some (.deep (rF bs kty sz (rows.set i (n,gs.set off g'))))},df:=s.df}):=by
 refine bW.skip rfl (fun _ h=>by cases h) ?_
 intro N cx μ a w hr
 obtain⟨b,m,c,n',e1,hm,hc⟩:=hr.kp hx
 obtain⟨cs0,hf⟩:=hr.tH hk hl hm
 obtain⟨u,x',h1,h2,h3⟩:=hf.row i n gs hi
 rw[hc] at h2
 cases h2
 obtain⟨cap,cs,q1,q2,q3,q4,q5,q6,q7,q8⟩:=h3
 have hlen:off<cs.size:=by rw[q5,←q3];have:=cJ sz q2;omega
 have hv:=hr.ev hy
 have hvone:=hv.one hone
 have hcells:=w9 hvone
 have hrun:=run_storeCells_at P c off kty [a.eval y] 0 cs w q4 (by simp;omega) (fun v hv=>by simp at hv;subst hv;exact hvone)
 simp only[fG,bl,bQ,cN] at hrun
 refine⟨μ,w.setRow c (cs.toList.take off++[a.eval y]++cs.toList.drop (off+1)).toArray,?_,?_⟩
 ·simp only[execOp,Instr.storeAt,Instr.sureAddr,e1,storeVar,hsz,Sem.run_bind,Sem.run_pure,Result.andThen_ok]
  rw[if_neg (by rw[hcells];simp)]
  rw[hcells]
  show((storeCells ⟨c,off,none⟩ [a.eval y] 0).run P w).andThen _=_
  rw[hrun]
  rfl
 ·have hset:(cs.toList.take off++[a.eval y]++cs.toList.drop (off+1)).toArray=cs.setIfInBounds off (a.eval y):=by
   apply Array.ext'
   rw[Array.toList_setIfInBounds,eB,if_pos (by rw[bE];omega)]
   simp
  rw[hset]
  refine hr.rewrite (k':={k with fresh:=k.fresh&&f,lp:=some (.deep (rF bs kty sz (rows.set i (n,gs.set off g'))))}) hk hm (.tE hc) (setRow_size _ _ _) (fun b' hb'=>setRow_other w c b' _ hb') rfl rfl rfl id (fun O' hO=>?_) hW
  have hb0:=hr.st.ey h k hk
  rw[hm] at hb0
  obtain⟨_,p2,p3,p4⟩:=(aS.deep hl).1 hb0
  refine(aS.deep (d:=rF bs kty sz (rows.set i (n,gs.set off g'))) rfl).2 ⟨⟨cs0,?_⟩,p2,p3,p4⟩
  have hOk:∀x,(bif (k.fresh&&f) then gm O' cx.base else O') x→(bif k.fresh then gm (cx.O s.st μ) cx.base else cx.O s.st μ) x∨k.fresh=true∧x<cx.base:=by
   intro x hx
   cases hkf:k.fresh with
   | false=>rw[hkf] at hx;exact .inl ((hO x).2 hx)
   | true=>
    rw[hkf] at hx
    cases f with
    | true=>
     rcases hx with hx | hx
     ·exact .inr ⟨rfl,hx⟩
     ·exact .inl (.inr ((hO x).2 hx))
    | false=>exact .inl (.inr ((hO x).2 hx))
  have hOk':∀x,(bif (k.fresh&&f) then gm O' cx.base else O') x→(bif k.fresh then gm (cx.O s.st μ) cx.base else cx.O s.st μ) x:=by
   intro x hx
   rcases hOk x hx with h | ⟨h1,h2⟩
   ·exact h
   ·rw[h1];exact .inl h2
  have hkept:Kept (bif k.fresh then gm (cx.O s.st μ) cx.base else cx.O s.st μ) w (w.setRow c (cs.setIfInBounds off (a.eval y))):=by
   refine⟨by rw[setRow_size];exact ar _,fun b' _ hn=>setRow_other w c b' _ fun e=>hn ?_⟩
   subst e
   have:cx.O s.st μ b':=.inr ⟨h,k,b,m,hk,hm,.tE hc⟩
   cases k.fresh with
   | false=>exact this
   | true=>exact .inr this
  have hne:b≠c:=fun e=>(hf.root i c n' hc).1 e.symm
  refine {len:=by rw[lc];exact hf.len,root:=fun i c k e=>⟨(hf.root i c k e).1,by rw[setRow_size];exact(hf.root i c k e).2⟩,inj:=hf.inj,heap:=(setRow_other w c b _ hne).trans hf.heap,size:=hf.size,le:=by rw[lc];exact hf.le,max:=hf.max,row:=fun j nj gj hj=>?_}
  rw[gD] at hj
  split at hj
  ·rename_i e
   subst e
   split at hj
   ·cases hj
    refine⟨u,_,h1,hc,cap,cs.setIfInBounds off (a.eval y),q1,q2,q3,pi q4,by simp[q5],q6,by simp[q7],fun j g1 hg1=>?_⟩
    rw[gD] at hg1
    split at hg1
    ·rename_i hj
     subst hj
     cases hg1
     refine⟨a.eval y,by rw[Array.getElem?_setIfInBounds_self_of_lt hlen],?_⟩
     have:=xP hv hig
     refine this.mono (w':=w.setRow c (cs.setIfInBounds off (a.eval y))) ⟨by rw[setRow_size];exact ar _,fun b' hb' hn=>setRow_other w c b' _ fun e=>hn ?_⟩ fun x _ hn hx=>hn ?_
     ·subst e
      have hown:cx.O s.st μ b':=.inr ⟨h,k,b,m,hk,hm,.tE hc⟩
      cases f with
      | false=>exact hown
      | true=>exact .inr hown
     ·cases f with
      | false=>rw[Bool.and_false] at hx;exact(hO x).2 hx
      | true=>
       rw[jF] at hx
       cases hkf:k.fresh with
       | false=>rw[hkf] at hx;exact .inr ((hO x).2 hx)
       | true=>rw[hkf] at hx;exact hx.imp id (hO x).2
    ·rename_i hj
     obtain⟨v,hv1,hrv⟩:=q8 j g1 hg1
     refine⟨v,by rw[jf hj];exact hv1,hrv.mono hkept fun x _ hn hx=>hn (hOk' x hx)⟩
   ·cases hj
  ·rename_i hne'
   obtain⟨u',y',r1,r2,r3⟩:=hf.row j nj gj hj
   refine⟨u',y',r1,r2,r3.mono hkept (fun x _ hn hx=>hn (hOk' x hx)) fun c' k' e=>setRow_other w c c' _ fun e'=>?_⟩
   subst e'
   exact hne' (hf.inj i j c' n' k' hc (by rw[r2,e]))
end
section
variable {P:Program}{W:List Nat}{s:St}{dst:Option Nat}{ty:TypeId}{pos:String}{after:Array Edge}{guard:Option (Nat×Bool)}
theorem DC {t:TypeId}{v:Value}{b:Bool}{ms:_}(hb:Je v=some b) (ht:P.underlying t=some (.interface ms)) (w:World):(Op.equal t v .nilIface).run P w=.ok (!b) w:=by
 have h:∀d,(Op.equalIn (d+1) t v .nilIface).run P w=.ok (!b) w:=fun d=>by
  cases v <;> cases hb <;> simp[Op.equalIn,run_underlying ht]
 exact h 9999
theorem PY.K4 {op:BinOp}{t t':TypeId}{x:Operand}{b:Bool}{ms:_}(neg:Bool) (ho:op=bif neg then .neq else .eql) (hx:ev s x=some (.cQ b)∨ev s x=some (.fr (.cQ b))) (ht:P.underlying t=some (.interface ms)):
  PY P s ⟨dst,.binOp op t x (.const .nilIface) t',ty,pos,after,guard⟩ (.val (.bool (b==neg))):=fun _ _ _ a _ hrel=>by
 have hr:Je (a.eval x)=some b:=by
  rcases hx with hx | hx
  ·have hr:=hrel.ev hx
   generalize a.eval x=v at hr
   cases hr with
   | aD h=>cases h with
    | cQ _ _ hb=>exact hb
  ·have hr:=hrel.ev hx
   generalize a.eval x=v at hr
   cases hr with
   | aD h=>cases h
   | fr h=>cases h with
    | cQ _ _ hb=>exact hb
 refine⟨_,.aD (.val _),fun w'=>?_⟩
 generalize e1:a.eval x=v at hr
 have hb:=hr
 have he:=DC (P:=P) hb ht w'
 have e2:(eqGuard op t x (.const .nilIface) v .nilIface).run P w'=.ok () w':=by
  cases v <;> cases hb <;> cases neg <;> subst ho <;> simp[eqGuard]
 have e3:(binOp op t v .nilIface).run P w'=.ok (.bool (b==neg)) w':=by
  have h1:binOp .eql t v .nilIface=(do pure (.bool (←Op.equal t v .nilIface)):Sem Value):=by cases v <;> cases hb <;> rfl
  have h2:binOp .neq t v .nilIface=(do pure (.bool (!(←Op.equal t v .nilIface))):Sem Value):=by cases v <;> cases hb <;> rfl
  cases neg <;> subst ho <;> simp only[cond_true,cond_false,h1,h2,Sem.run_bind,he,Result.andThen_ok,Sem.run_pure] <;> cases b <;> rfl
 have e4:a.eval (.const .nilIface)=.nilIface:=rfl
 simp only[execOp,e1,e4,Sem.run_bind,e2,e3,Result.andThen_ok,Sem.run_pure]
end
end Go.AM
/-
 AM:what belongs to a block is told anew:slices of slices that are empty,that are handed over,that are written no more.
-/
namespace Go.AM
section
variable {P:Program}{N:Nat}{cx:Cx}{s:St}{W:List Nat}
variable {ty:TypeId}{pos:String}{after:Array Edge}{guard:Option (Nat×Bool)}
end
end Go.AM
/-
 AM:slices of slices grow:one made of a slice of the call's own;one appended to another.
-/
namespace Go.AM
section
variable {P:Program}{N:Nat}{cx:Cx}{s:St}{W:List Nat}
variable {ty:TypeId}{pos:String}{after:Array Edge}{guard:Option (Nat×Bool)}{d:Nat}
end
end Go.AM
/-
 AM:parts of a slice beyond its end,append within the same block.
-/
namespace Go.AM
section
variable {P:Program}{N:Nat}{cx:Cx}{s:St}{W:List Nat}
variable {dst:Option Tmp}{ty:TypeId}{pos:String}{after:Array Edge}{guard:Option (Nat×Bool)}{d:Nat}
end
end Go.AM
/-
 AM:cells of an owned block written in a row:append within the block,clear.
-/
namespace Go.AM
section
variable {P:Program}{N:Nat}{cx:Cx}{s:St}{W:List Nat}
variable {ty:TypeId}{pos:String}{after:Array Edge}{guard:Option (Nat×Bool)}{d:Nat}
end
end Go.AM
/-
 AM:slices that belong to a block of structs (or of slices),each nothing or with a block of its own:one is taken out,and put back.
-/
namespace Go.AM
def R0 (O:Nat→Prop) (w:World) (kty:TypeId) (sz:Nat) (n:Nat) (gs:List G) (u:Value) (x:Option (Nat×Nat)):Prop:=sS O w kty sz n gs u x∧(x=none→u=.slice none 0 0)
structure QS (bs kty:TypeId) (sz z:Nat) (rows:List (Nat×List G)) (ho:Option Nat) (O:Nat→Prop) (w:World) (b:Nat) (m:Mm) (cs:Array Value):Prop where
 len:m.2.length=rows.length
 root:∀(i c k:Nat),m.2[i]?=some (some (c,k))→c≠b∧c<w.heap.size
 inj:∀(i j c k k':Nat),m.2[i]?=some (some (c,k))→m.2[j]?=some (some (c,k'))→i=j
 heap:w.heap[b]?=some (.cells cs bs (0,0))
 size:cs.size=m.1
 le:rows.length≤m.1
 max:m.1≤maxLen*z
 row:∀(i n:Nat) (gs:List G),rows[i]?=some (n,gs)→ho≠some i→∃u x,cs[i]?=some u∧m.2[i]?=some x∧R0 O w kty sz n gs u x
 hole:∀i,ho=some i→i<rows.length→m.2[i]?=some none
def P4 (bs kty:TypeId) (sz z:Nat) (rows:List (Nat×List G)) (ho:Option Nat):Dp where
 φ:=fun O w b m=>∃cs,QS bs kty sz z rows ho O w b m cs
 iw:=rows=[]
 mono:=by
  rintro O O' w w' b m ⟨cs,h⟩ hk hO hb
  refine⟨cs,{len:=h.len,root:=fun i c k e=>⟨(h.root i c k e).1,cm (h.root i c k e).2 hk.size⟩,inj:=h.inj,heap:=(hb b (.self _ _)).trans h.heap,size:=h.size,le:=h.le,max:=h.max,row:=fun i n gs e hn=>?_,hole:=h.hole}⟩
  obtain⟨u,x,h1,h2,h3,h4⟩:=h.row i n gs e hn
  exact⟨u,x,h1,h2,h3.mono hk hO fun c k e=>hb c (.tE (k:=k) (by rw[h2,e])),h4⟩
 shut:=by
  rintro O Z w w' b m ⟨cs,h⟩ hs _
  refine⟨cs,{len:=h.len,root:=fun i c k e=>⟨(h.root i c k e).1,by rw[hs.size];exact(h.root i c k e).2⟩,inj:=h.inj,heap:=hs.cells h.heap,size:=h.size,le:=h.le,max:=h.max,row:=fun i n gs e hn=>?_,hole:=h.hole}⟩
  obtain⟨u,x,h1,h2,h3,h4⟩:=h.row i n gs e hn
  exact⟨u,x,h1,h2,h3.shut hs,h4⟩
 live:=by
  rintro O w b m ⟨cs,h⟩ x hx
  rcases hx with rfl | ⟨n,hn⟩
  ·exact dU h.heap
  ·obtain⟨i,hi⟩:=eZ hn
   exact(h.root i x n hi).2
section
variable {P:Program}{N:Nat}{cx:Cx}{s:St}{W:List Nat}
variable {ty:TypeId}{pos:String}{after:Array Edge}{guard:Option (Nat×Bool)}
end
end Go.AM
/-
 AM:one of the slices of a block is taken out;one is put in.
-/
namespace Go.AM
section
variable {P:Program}{N:Nat}{cx:Cx}{s:St}{W:List Nat}
variable {ty:TypeId}{pos:String}{after:Array Edge}{guard:Option (Nat×Bool)}
end
end Go.AM
/-
 AM:arrays of numbers:an element's address,equality.
-/
namespace Go.AM
def Bk:List Int→List Int→Bool
 | [],[]=>true
 | x::xs,y::ys=>x==y&&Bk xs ys
 | _,_=>false
section
variable {P:Program}{s:St}{dst:Option Tmp}{ty:TypeId}{pos:String}{after:Array Edge}{guard:Option (Nat×Bool)}
theorem PY.M8 {t e:TypeId}{x y:Operand}{h off n:Nat}{k:IntKind}{i:Int}(hx:ev s x=some (.loc h off)) (hy:ev s y=some (.val (.int k i))) (h0:0≤i) (hn:i<n) (ht:P.underlying t=some (.array n e)) (hsz:∀w,(sizeOf e).run P w=.ok 1 w):
  PY P s ⟨dst,.indexAddr t x y,ty,pos,after,guard⟩ (.loc h (i.toNat+off)):=fun _ cx μ a w hrel=>by
 have hv:=hrel.ev hx
 generalize e1:a.eval x=v at hv
 cases hv with
 | aD h=>cases h
 | loc _ _ b m hm=>
  refine⟨_,.loc h (i.toNat+off) b m hm,fun w'=>?_⟩
  simp[execOp,e1,hrel.val hy,Instr.indexAt,asIntOf,Instr.sureAddr,run_underlying ht,h0,hn,hsz,Addr.l3,Nat.add_comm]
theorem Kr {e:TypeId}{k k':IntKind}(he:P.underlying e=some (.int k')) (a b:Int) (d:Nat) (w:World):(Op.equalIn (d+1) e (.int k a) (.int k b)).run P w=.ok (a==b) w:=by
 simp[Op.equalIn,run_underlying he]
theorem qg {e:TypeId}(hag:∀w,(isAgg e).run P w=.ok false w){cs:Array Value}{i:Nat}{v:Value}(h:cs[i]?=some v) (w:World):(part e cs i).run P w=.ok v w:=by
 unfold part
 simp[hag,h]
theorem H5 {e:TypeId}{k:IntKind}(he:P.underlying e=some (.int k)) (w:World):(isAgg e).run P w=.ok false w:=by
 simp[isAgg,underlying,he]
theorem Ks {t e:TypeId}{n:Nat}{k k':IntKind}(ht:P.underlying t=some (.array n e)) (he:P.underlying e=some (.int k')) (hsz:∀w,(sizeOf e).run P w=.ok 1 w) (xs ys:List Int) (hx:xs.length=n) (hy:ys.length=n) (w:World):
  (Op.equal t (.agg (xs.map (Value.int k)).toArray) (.agg (ys.map (Value.int k)).toArray)).run P w=.ok (Bk xs ys) w:=by
 have key:∀d,(Op.equalIn (d+2) t (.agg (xs.map (Value.int k)).toArray) (.agg (ys.map (Value.int k)).toArray)).run P w=.ok (Bk xs ys) w:=fun d=>by
  rw[Op.equalIn]
  simp only[Sem.run_bind,run_underlying ht,Result.andThen_ok,hsz,nI]
  rw[Std.Legacy.Range.forIn_eq_forIn_range']
  have loop:∀(m i:Nat),i+m=n→Sem.run P (forIn (List.range' i m) ((none,()):Option Bool×Unit) fun i __s=>do
      let __do_lift ←part e (xs.map (Value.int k)).toArray i
      let __do_lift_1 ←part e (ys.map (Value.int k)).toArray i
      let __do_lift ←Op.equalIn (d+1) e __do_lift __do_lift_1
      if (!__do_lift)=true then pure (ForInStep.done (some false,())) else pure (ForInStep.yield (none,()))) w=.ok (if Bk (xs.drop i) (ys.drop i) then(none,()) else(some false,())) w:=by
   intro m
   induction m with
   | zero=>
    intro i h
    rw[List.drop_eq_nil_of_le (by omega),List.drop_eq_nil_of_le (by omega)]
    simp[Bk]
   | succ m ih=>
    intro i h
    have h1:i<xs.length:=by omega
    have h2:i<ys.length:=by omega
    have p1:=qg (P:=P) (H5 he) (cs:=(xs.map (Value.int k)).toArray) (i:=i) (v:=.int k xs[i]) (by simp[h1]) w
    have p2:=qg (P:=P) (H5 he) (cs:=(ys.map (Value.int k)).toArray) (i:=i) (v:=.int k ys[i]) (by simp[h2]) w
    rw[List.range'_succ,List.forIn_cons]
    simp only[Sem.run_bind,p1,p2,Result.andThen_ok,Kr he]
    rw[b9 h1,b9 h2]
    simp only[Bk]
    by_cases hb:xs[i]=ys[i]
    ·have e1:(xs[i]==ys[i])=true:=by simpa using hb
     simp only[e1,dL,gV,if_false,Sem.run_pure,Result.andThen_ok,lD]
     exact ih (i+1) (by omega)
    ·have e1:(xs[i]==ys[i])=false:=by simpa using hb
     simp only[e1,eE,if_true,Sem.run_pure,Result.andThen_ok,Bool.false_and,gV,if_false]
  have:=loop n 0 (by omega)
  simp only[iC] at this
  have e0:([:n]:Std.Legacy.Range).size=n:=by simp[Std.Legacy.Range.size]
  rw[e0]
  show(Result.andThen (Sem.run P (forIn (List.range' 0 n 1) _ _) w) _)=_
  rw[this]
  cases Bk xs ys <;> simp
 exact key 9998
theorem PY.Rr {t e t':TypeId}{n:Nat}{k k':IntKind}{x y:Operand}{xs ys:List Int}(hx:ev s x=some (.agg (xs.map fun a=>.val (.int k a)))) (hy:ev s y=some (.agg (ys.map fun a=>.val (.int k a)))) (ht:P.underlying t=some (.array n e)) (he:P.underlying e=some (.int k')) (hsz:∀w,(sizeOf e).run P w=.ok 1 w) (h1:xs.length=n) (h2:ys.length=n) (hgt:P.eqGuardType P.depth t=false):
  PY P s ⟨dst,.binOp .eql t x y t',ty,pos,after,guard⟩ (.val (.bool (Bk xs ys))):=fun N cx μ a w hr=>by
 have hv:∀{l:List Int}{v:Value},aN (cx.O s.st μ) cx.base w μ (.agg (l.map fun a=>.val (.int k a))) v→v=.agg (l.map (Value.int k)).toArray:=by
  intro l v h
  have aD:∀{O:Nat→Prop}{us:List Value},us.length=(l.map fun a=>G.val (.int k a)).length→(∀(j:Nat) (g:G) (v:Value),(l.map fun a=>G.val (.int k a))[j]?=some g→us[j]?=some v→g=.val v)→us=l.map (Value.int k):=by
   intro O us hl hr
   apply List.ext_getElem (by simpa using hl)
   intro j h1 h2
   have hjl:j<l.length:=by simpa using h2
   have:=hr j (.val (.int k l[j])) us[j] (by simp[hjl]) (ao h1)
   rw[←G.val.inj this]
   simp
  cases h with
  | aD h=>
   cases h with
   | agg cells us hl hr=>rw[aD (O:=cx.O s.st μ) hl fun j g v hg hv=>by
     have:=hr j g v hg hv
     rw[ak] at hg
     obtain⟨a,_,rfl⟩:=au.1 hg
     cases this
     rfl]
  | agg cells us hl hr=>rw[aD (O:=cx.O s.st μ) hl fun j g v hg hv=>by
     have:=hr j g v hg hv
     rw[ak] at hg
     obtain⟨a,_,rfl⟩:=au.1 hg
     cases this with
     | aD h=>cases h;rfl]
 have q1:=hv (hr.ev hx)
 have q2:=hv (hr.ev hy)
 refine⟨_,.aD (.val _),fun w'=>?_⟩
 have h:=Ks (P:=P) (k:=k) ht he hsz xs ys h1 h2 w'
 have hg:(eqGuard .eql t x y (.agg (xs.map (Value.int k)).toArray) (.agg (ys.map (Value.int k)).toArray)).run P w'=.ok () w':=by simp[eqGuard,hgt]
 simp only[execOp,q1,q2,Sem.run_bind,hg,Result.andThen_ok]
 simp[binOp,h]
def E5:Value→Value→Option Bool
 | .int k a,.int k' b=>match decEq k k' with
  | isTrue _=>some (a==b)
  | isFalse _=>none
 | .bool a,.bool b=>some (a==b)
 | .string a,.string b=>some (a==b)
 | _,_=>none
def vP (P:Program) (e:TypeId) (v:Value):Bool:=match P.underlying e with
 | some (.int _)=>match v with
  | .int _ _=>true
  | _=>false
 | some .bool=>match v with
  | .bool _=>true
  | _=>false
 | some .string=>match v with
  | .string _=>true
  | _=>false
 | _=>false
def CD (P:Program):List Field→List Value→List Value→Option Bool
 | [],_,_=>some true
 | f::r,us,vs=>match us[f.offset]?,vs[f.offset]? with
  | some u, some v => match f.name != "_" && (vP P f.type u && vP P f.type v) with
   | true=>match E5 u v with
    | some b=>match CD P r us vs with
     | some c=>some (b&&c)
     | none=>none
    | none=>none
   | false=>none
  | _,_=>none
theorem C7 {e:TypeId}{v:Value}(h:vP P e v=true) (w:World):(isAgg e).run P w=.ok false w:=by
 unfold vP at h
 split at h
 ·rename_i he;simp[isAgg,underlying,he]
 ·rename_i he;simp[isAgg,underlying,he]
 ·rename_i he;simp[isAgg,underlying,he]
 ·cases h
theorem IA {e:TypeId}{u v:Value}{b:Bool}(hu:vP P e u=true) (hv:vP P e v=true) (h:E5 u v=some b) (d:Nat) (w:World):(Op.equalIn (d+1) e u v).run P w=.ok b w:=by
 unfold vP at hu hv
 unfold E5 at h
 split at h
 ·split at h
  ·rename_i e1 _
   subst e1
   cases h
   split at hu
   ·rename_i he;simp[Op.equalIn,run_underlying he]
   ·cases hu
   ·cases hu
   ·cases hu
  ·cases h
 ·cases h
  split at hu
  ·cases hu
  ·rename_i he;simp[Op.equalIn,run_underlying he]
  ·cases hu
  ·cases hu
 ·cases h
  split at hu
  ·cases hu
  ·cases hu
  ·rename_i he;simp[Op.equalIn,run_underlying he]
  ·cases hu
 ·cases h
theorem Mx {t:TypeId}{fs:Array Field}{us vs:List Value}{b:Bool}(ht:P.underlying t=some (.struct fs)) (hs:P.stoodInHeld t=false) (h:CD P fs.toList us vs=some b) (w:World):
  (Op.equal t (.agg us.toArray) (.agg vs.toArray)).run P w=.ok b w:=by
 have key:∀d,(Op.equalIn (d+2) t (.agg us.toArray) (.agg vs.toArray)).run P w=.ok b w:=fun d=>by
  rw[Op.equalIn]
  simp only[Sem.run_bind,run_underlying ht,Result.andThen_ok]
  have loop:∀(l:List Field) (b:Bool),CD P l us vs=some b→Sem.run P (forIn l ((none,()):Option Bool×Unit) fun f __s=>
     if f.name ≠ "_" then do
      let __do_lift ←part f.type us.toArray f.offset
      let __do_lift_1 ←part f.type vs.toArray f.offset
      let __do_lift ←Op.equalIn (d+1) f.type __do_lift __do_lift_1
      if (!__do_lift)=true then pure (ForInStep.done (some false,())) else pure (ForInStep.yield (none,()))
     else pure (ForInStep.yield (none,()))) w=.ok (if b then(none,()) else(some false,())) w:=by
   intro l
   induction l with
   | nil=>intro b h;cases h;simp
   | cons f r ih=>
    intro b h
    simp only[CD] at h
    split at h
    ·rename_i u v hu hv
     split at h
     ·rename_i hc
      simp only[ah,bne_iff_ne,ne_eq] at hc
      obtain⟨c0,c1,c2⟩:=hc
      split at h
      ·rename_i b1 hb1
       split at h
       ·rename_i c hc
        cases h
        have p1:=qg (P:=P) (C7 c1) (cs:=us.toArray) (i:=f.offset) (v:=u) (by simpa using hu) w
        have p2:=qg (P:=P) (C7 c2) (cs:=vs.toArray) (i:=f.offset) (v:=v) (by simpa using hv) w
        rw[List.forIn_cons]
        simp only[c0,ne_eq,not_false_eq_true,if_true,Sem.run_bind,p1,p2,Result.andThen_ok,IA c1 c2 hb1]
        cases b1 with
        | false=>simp
        | true=>
         simp only[dL,gV,if_false,Sem.run_pure,Result.andThen_ok,lD]
         exact ih c hc
       ·cases h
      ·cases h
     ·cases h
    ·cases h
  have:=loop fs.toList b h
  rw[show Sem.run P program w=.ok P w from rfl]
  simp only[Result.andThen_ok,hs,gV,if_false,Sem.run_bind]
  rw[Array.forIn_toList] at this
  rw[this]
  cases b <;> simp
 exact key 9998
theorem wZ {O:Nat→Prop}{base:Nat}{μ:Mu}{w:World}{l:List Value}{v:Value}(h:aN O base w μ (.agg (l.map .val)) v):v=.agg l.toArray:=by
 have aD:∀{us:List Value},us.length=(l.map G.val).length→(∀(j:Nat) (g:G) (v:Value),(l.map G.val)[j]?=some g→us[j]?=some v→g=.val v)→us=l:=by
  intro us hl hr
  apply List.ext_getElem (by simpa using hl)
  intro j h1 h2
  have:=hr j (.val l[j]) us[j] (by simp[h2]) (ao h1)
  rw[←G.val.inj this]
 cases h with
 | aD h=>
  cases h with
  | agg cells us hl hr=>rw[aD hl fun j g v hg hv=>by
    have:=hr j g v hg hv
    rw[ak] at hg
    obtain⟨a,_,rfl⟩:=au.1 hg
    cases this
    rfl]
 | agg cells us hl hr=>rw[aD hl fun j g v hg hv=>by
    have:=hr j g v hg hv
    rw[ak] at hg
    obtain⟨a,_,rfl⟩:=au.1 hg
    cases this with
    | aD h=>cases h;rfl]
theorem PY.RA {t t':TypeId}{x y:Operand}{us vs:List Value}{fs:Array Field}{b:Bool}(hx:ev s x=some (.agg (us.map .val))) (hy:ev s y=some (.agg (vs.map .val))) (ht:P.underlying t=some (.struct fs)) (hs:P.stoodInHeld t=false) (hgt:P.eqGuardType P.depth t=false) (hb:CD P fs.toList us vs=some b):
  PY P s ⟨dst,.binOp .eql t x y t',ty,pos,after,guard⟩ (.val (.bool b))∧PY P s ⟨dst,.binOp .neq t x y t',ty,pos,after,guard⟩ (.val (.bool (!b))):=by
 have h:=Mx (P:=P) ht hs hb
 constructor
 ·intro N cx μ a w hr
  have q1:=wZ (hr.ev hx)
  have q2:=wZ (hr.ev hy)
  refine⟨_,.aD (.val _),fun w'=>?_⟩
  have hg:(eqGuard .eql t x y (.agg us.toArray) (.agg vs.toArray)).run P w'=.ok () w':=by simp[eqGuard,hgt]
  simp only[execOp,q1,q2,Sem.run_bind,hg,Result.andThen_ok]
  simp[binOp,h]
 ·intro N cx μ a w hr
  have q1:=wZ (hr.ev hx)
  have q2:=wZ (hr.ev hy)
  refine⟨_,.aD (.val _),fun w'=>?_⟩
  have hg:(eqGuard .neq t x y (.agg us.toArray) (.agg vs.toArray)).run P w'=.ok () w':=by simp[eqGuard,hgt]
  simp only[execOp,q1,q2,Sem.run_bind,hg,Result.andThen_ok]
  simp[binOp,h]
end
end Go.AM
