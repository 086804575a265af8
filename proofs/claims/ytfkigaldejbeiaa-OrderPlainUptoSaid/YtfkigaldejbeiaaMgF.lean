/-
  AM, third part.
-/
import Derived.Test.YtfkigaldejbeiaaMgB
import Derived.Laws.CopyRow
import Derived.Laws.IdiomCopy
set_option linter.unusedSectionVars false
set_option linter.unusedSimpArgs false
set_option linter.unusedVariables false
/-
 AM,part BA:what a callee hands back of the blocks that were lent to it.
-/
namespace Go.AM
def gn:List (Nat×ap)→Nat→Bool
 | [],_=>false
 | (j,_)::r,x=>Nat.beq j x||gn r x
theorem Lj {st:List (Nat×ap)}{j:Nat}{k:ap}(h:aq st j=some k):gn st j=true:=by
 induction st with
 | nil=>cases h
 | cons x r ih=>
  obtain⟨y,k'⟩:=x
  simp only[aq,gn,dG] at h⊢
  cases hb:Nat.beq y j with
  | true=>exact .inl rfl
  | false=>rw[hb] at h;exact .inr (ih h)
theorem AL {st:List (Nat×ap)}{j:Nat}(h:gn st j=true):∃k,aq st j=some k:=by
 induction st with
 | nil=>cases h
 | cons x r ih=>
  obtain⟨y,k'⟩:=x
  simp only[aq,gn,dG] at h⊢
  cases hb:Nat.beq y j with
  | true=>exact⟨k',rfl⟩
  | false=>rw[hb] at h;exact ih (h.resolve_left (fun h=>by cases h))
def jn:List (Nat×ap)→List Nat→Nat→Option Nat
 | (j,_)::r,h::hs,x=>bif Nat.beq j x then some h else jn r hs x
 | _,_,_=>none
def pC:List (Nat×ap)→List Nat→Nat→Option Nat
 | (j,_)::r,h::hs,y=>bif Nat.beq h y then some j else pC r hs y
 | _,_,_=>none
def dL (vw:Bool) (f:Nat→Option Nat):G→Option G
 | .loc h off=>(f h).map fun x=>.loc x off
 | .aR h sz off m=>(f h).map fun x=>.aR x sz off m
 | .ct h=>(f h).map .ct
 | .dV h=>(f h).map .dV
 | .kp h i off=>(f h).map fun x=>.kp x i off
 | .ks h i sz n=>(f h).map fun x=>.ks x i sz n
 | .agg gs=>(go gs).map .agg
 | .bl gs=>(go gs).map .bl
 | .aF g gs=>(go gs).map (.aF g)
 | .val v=>some (.val v)
 | .fr g=>some (.fr g)
 | .sl n cs=>bif vw then none else some (.sl n cs)
 | .ptr cs=>bif vw then none else some (.ptr cs)
 | .any=>some .any
where go:List G→Option (List G)
 | []=>some []
 | g::r=>match dL vw f g,go r with
  | some g',some r'=>some (g'::r')
  | _,_=>none
theorem tz {vw:Bool}{f:Nat→Option Nat}:∀{gs gs':List G},dL.go vw f gs=some gs'→gs'.length=gs.length∧∀(j:Nat) (g':G),gs'[j]?=some g'→∃g,gs[j]?=some g∧dL vw f g=some g'
 | [],_,h=>by cases h;exact⟨rfl,fun j g h=>by simp at h⟩
 | g::r,gs',h=>by
  simp only[dL.go] at h
  cases h1:dL vw f g with
  | none=>rw[h1] at h;cases h
  | some g1=>
   rw[h1] at h
   cases h2:dL.go vw f r with
   | none=>rw[h2] at h;cases h
   | some r1=>
    rw[h2] at h
    cases h
    obtain⟨h3,h4⟩:=tz h2
    refine⟨by simp[h3],fun j g' hg'=>?_⟩
    cases j with
    | zero=>cases hg';exact⟨g,rfl,h1⟩
    | succ j=>exact h4 j g' hg'
def tO (vw:Bool) (f:Nat→Option Nat) (k:ap):Option ap:=
 bif k.pure then bif vw&&!k.fresh then none else some k else match dL.go vw f k.cells with
  | some cs=>some {k with cells:=cs}
  | none=>none
def p7:Option Kd→Bool
 | some (.loop _)=>true
 | _=>false
def zg (st:List (Nat×ap)) (h:Nat):Bool:=match aq st h with
 | some k=>k.cw
 | none=>false
def jv (st st':List (Nat×ap)):List Nat→Nat→Bool
 | [],_=>true
 | h::r,i=>(match aq st h with
  | some k=>k.cw||(p7 k.lp&&gn st' (1000+i))
  | none=>false)&&jv st st' r (i+1)
theorem CQ {st st':List (Nat×ap)}:∀{r:List Nat}{i:Nat},jv st st' r i=true→∀{n h:Nat}{k:ap},r[n]?=some h→aq st h=some k→k.cw=true∨gn st' (1000+(i+n))=true
 | [],_,_,_,_,_,e,_=>by cases e
 | x::r,i,ha,n,h,k,e,hk=>by
  simp only[jv,aj] at ha
  cases n with
  | zero=>
   cases e
   rw[hk] at ha
   simp only[dG,aj] at ha
   rcases ha.1 with h1 | h1
   ·exact .inl h1
   ·exact .inr h1.2
  | succ n=>
   have:=CQ ha.2 (n:=n) (by simpa using e) hk
   rw[show i+1+n=i+(n+1) by omega] at this
   exact this
def nc (A:Bool) (st:List (Nat×ap)) (j h:Nat) (lp:Option Kd) (k:ap):ap:=bif p7 lp then k else bif pinned j then {k with cw:=zg st h} else {k with cw:=k.cw||A}
def kl (vw:Bool) (f:Nat→Option Nat) (A:Bool) (st:List (Nat×ap)):List (Nat×ap)→List Nat→Option (List (Nat×ap))
 | [],[]=>some []
 | (j,k)::r,h::hs=>match tO vw f k,kl vw f A st r hs with
  | some k',some r'=>some ((h,nc A st j h k.lp k')::r')
  | _,_=>none
 | _,_=>none
def PK (H:List Nat) (i h:Nat):Bool:=match H[i]? with
 | some x=>Nat.beq x h
 | none=>false
theorem Nc {H:List Nat}{i h:Nat}(e:PK H i h=true):H[i]?=some h:=by
 unfold PK at e
 cases hx:H[i]? with
 | none=>rw[hx] at e;cases e
 | some x=>rw[hx] at e;rw[aa e]
def oo (s:St) (H:List Nat):List (Nat×ap)→List Nat→Bool
 | [],[]=>true
 | (j,_)::r,h::hs=>!(gn r j)&&(!(hs.contains h)&&((bif pinned j then PK H (j-1000) h else Nat.blt h 1000&&((dx H h).isSome||fresh s h))&&oo s H r hs))
 | _,_=>false
def dT (st':List (Nat×ap)):List Nat→Nat→List Nat
 | [],_=>[]
 | h::r,i=>bif gn st' (1000+i) then dT st' r (i+1) else h::dT st' r (i+1)
theorem zB {st':List (Nat×ap)}:∀{r:List Nat}{i h:Nat},h∈r→h∉dT st' r i→∃n,r[n]?=some h∧gn st' (1000+(i+n))=true
 | [],_,_,hm,_=>by cases hm
 | x::r,i,h,hm,hn=>by
  simp only[dT] at hn
  cases hb:gn st' (1000+i) with
  | true=>
   rw[hb] at hn
   rcases aZ.1 hm with rfl | hm
   ·exact⟨0,rfl,hb⟩
   ·obtain⟨n,h1,h2⟩:=zB hm hn
    exact⟨n+1,h1,by rw[show 1000+(i+(n+1))=1000+(i+1+n) by omega];exact h2⟩
  | false=>
   rw[hb] at hn
   simp only[cond_false,aZ,not_or] at hn
   rcases aZ.1 hm with rfl | hm
   ·exact absurd rfl hn.1
   ·obtain⟨n,h1,h2⟩:=zB hm hn.2
    exact⟨n+1,h1,by rw[show 1000+(i+(n+1))=1000+(i+1+n) by omega];exact h2⟩
def pb:List Nat→G→Bool
 | [],_=>false
 | h::r,g=>g.b9 h||pb r g
theorem yb:∀{ds:List Nat}{g:G},pb ds g=false→∀h∈ds,g.b9 h=false
 | [],_,_,_,h=>by cases h
 | x::r,g,e,h,hm=>by
  simp only[pb,bI] at e
  rcases aZ.1 hm with rfl | hm
  ·exact e.1
  ·exact yb e.2 h hm
def vk (ds:List Nat) (g:G):G:=bif pb ds g then .any else g
def mg (ds:List Nat):List (Nat×G)→List (Nat×G)
 | []=>[]
 | (t,g)::r=>(t,vk ds g)::mg ds r
def rK (ds:List Nat) (k:ap):ap:=bif k.pure then k else {k with cells:=k.cells.map (vk ds)}
def fq (ds:List Nat):List (Nat×ap)→List (Nat×ap)
 | []=>[]
 | (h,k)::r=>(h,rK ds k)::fq ds r
theorem Lr {ds:List Nat}{fr:List (Nat×G)}{t:Nat}{g:G}(hg:get (mg ds fr) t=some g):∃g0,get fr t=some g0∧g=vk ds g0:=by
 induction fr with
 | nil=>cases hg
 | cons x r ih=>
  obtain⟨k,g'⟩:=x
  simp only[mg,gH] at hg⊢
  cases hb:Nat.beq k t with
  | true=>rw[hb] at hg;cases hg;exact⟨g',rfl,rfl⟩
  | false=>rw[hb] at hg;exact ih hg
theorem I4 {ds:List Nat}{st:List (Nat×ap)}{t:Nat}{k:ap}(hg:aq (fq ds st) t=some k):∃k0,aq st t=some k0∧k=rK ds k0:=by
 induction st with
 | nil=>cases hg
 | cons x r ih=>
  obtain⟨y,k'⟩:=x
  simp only[fq,ig] at hg⊢
  cases hb:Nat.beq y t with
  | true=>rw[hb] at hg;cases hg;exact⟨k',rfl,rfl⟩
  | false=>rw[hb] at hg;exact ih hg
theorem xJ {O:Nat→Prop}{base:Nat}{w:World}{μ μ':Mu}{ds:List Nat}{g:G}{v:Value}(hv:aY O base w μ g v) (hμ:∀k,k∉ds→g.b9 k=true→Ext (μ k) (μ' k)):aY O base w μ' (vk ds g) v:=by
 unfold vk
 cases hh:pb ds g with
 | true=>exact .aH (.any _)
 | false=>exact hv.l9 fun k hk=>hμ k (fun hm=>by rw[yb hh k hm] at hk;cases hk) hk
theorem aQ.dead {O:Nat→Prop}{base:Nat}{w:World}{μ μ':Mu}{k:ap}{x:Option (Nat×Mm)}(hb:aQ O base w μ k x) (ds:List Nat) (hμ:k.pure=false→∀g∈k.cells,∀y,y∉ds→g.b9 y=true→Ext (μ y) (μ' y)):aQ O base w μ' (rK ds k) x:=by
 unfold rK
 cases hp:k.pure with
 | true=>exact hb.fH fun hp'=>by rw[hp] at hp';cases hp'
 | false=>
  have hμ:=hμ hp
  simp only[cond_false]
  cases x with
  | none=>
   obtain⟨h1,h2⟩:=hb
   refine⟨by simp[h1],?_⟩
   dsimp only
   split at h2
   ·trivial
   ·exact h2.elim
   ·rw[hp] at h2;cases h2.2
  | some bm=>
   obtain⟨b,m⟩:=bm
   cases hl:k.lp with
   | none=>
    obtain⟨cs1,h4,h5,h6,h7,h8,h9⟩:=hb.cells hl
    refine .mk rfl (hb.kn hl) ⟨cs1,h4,h5,by simpa using h6,h7,h8,fun j g hg=>?_⟩
    dsimp only at hg
    rw[ay] at hg
    cases hg0:k.cells[j]? with
    | none=>rw[hg0] at hg;cases hg
    | some g0=>
     rw[hg0] at hg
     cases hg
     obtain⟨v,hv,hrv⟩:=h9 j g0 hg0
     refine⟨v,hv,?_⟩
     unfold cz at hrv⊢
     rw[hp] at hrv
     simp only
     exact xJ hrv (hμ g0 (ar hg0))
   | some kd=>
    cases kd with
    | deep d=>have:=((aQ.deep hl).1 hb).2.1;rw[hp] at this;cases this
    | loop lp=>
     obtain⟨D,vs,h1,h2,h3,h4,h5⟩:=(aQ.loop hl).1 hb
     refine(aQ.loop rfl).2 ⟨D,vs,h1,h2,h3,rfl,fun j t g ht hg=>?_⟩
     dsimp only at hg
     rw[ay] at hg
     cases hg0:k.cells[j]? with
     | none=>rw[hg0] at hg;cases hg
     | some g0=>
      rw[hg0] at hg
      cases hg
      obtain⟨v,hv,hrv⟩:=h5 j t g0 ht hg0
      exact⟨v,hv,xJ hrv (hμ g0 (ar hg0))⟩
def nY (vw:Bool) (s:St) (H:List Nat) (st':List (Nat×ap)) (bk:List Nat):Option St:=
 bif oo s H st' bk&&s.df.all (fun g=>!(pb (dT st' H 0) g)) then match kl vw (jn st' bk) (jv s.st st' H 0) s.st st' bk with
  | some sb=>some {fr:=mg (dT st' H 0) s.fr,st:=sb++fq (dT st' H 0) (fA H s.st),df:=s.df}
  | none=>none
 else none
theorem I5 {a b:List (Nat×ap)}{h:Nat}:aq (a++b) h=(aq a h).or (aq b h):=by
 induction a with
 | nil=>rfl
 | cons x r ih=>
  obtain⟨y,k⟩:=x
  simp only[bx,aq]
  cases Nat.beq y h with
  | true=>rfl
  | false=>exact ih
theorem Ds {vw A:Bool}{f:Nat→Option Nat}{st:List (Nat×ap)}{s:St}{H:List Nat}:∀{st':List (Nat×ap)}{bk:List Nat}{sb:List (Nat×ap)},kl vw f A st st' bk=some sb→oo s H st' bk=true→
  ∀{h:Nat}{k2:ap},aq sb h=some k2→∃j k' k1,aq st' j=some k'∧pC st' bk h=some j∧tO vw f k'=some k1∧k2=nc A st j h k'.lp k1
 | [],[],_,e,_,_,_,hg=>by cases e;cases hg
 | [],_::_,_,e,_,_,_,_=>by cases e
 | _::_,[],_,e,_,_,_,_=>by cases e
 | (j,k)::r,x::hs,sb,e,ok,h,k2,hg=>by
  simp only[kl] at e
  cases h1:tO vw f k with
  | none=>rw[h1] at e;cases e
  | some k1=>
   rw[h1] at e
   cases h2:kl vw f A st r hs with
   | none=>rw[h2] at e;cases e
   | some r'=>
    rw[h2] at e
    cases e
    simp only[oo,aj,a8] at ok
    obtain⟨o1,o2,o3,o4⟩:=ok
    simp only[aq] at hg
    cases hb:Nat.beq x h with
    | true=>
     rw[hb] at hg
     cases hg
     have:=aa hb
     subst this
     exact⟨j,k,k1,dv _ _ _,by simp only[pC,aI,cond_true],h1,rfl⟩
    | false=>
     rw[hb] at hg
     obtain⟨j',k',k1',q1,q2,q3,q4⟩:=Ds h2 o4 hg
     refine⟨j',k',k1',?_,by simp only[pC,hb,cond_false];exact q2,q3,q4⟩
     rw[aD _ _ (fun e=>by subst e;rw[Lj q1] at o1;cases o1)]
     exact q1
theorem l4 {s:St}{H:List Nat}:∀{st':List (Nat×ap)}{bk:List Nat},oo s H st' bk=true→∀{h j:Nat},pC st' bk h=some j→
  gn st' j=true∧h∈bk∧jn st' bk j=some h∧((pinned j=true∧H[j-1000]?=some h)∨(pinned j=false∧Nat.blt h 1000=true∧(h∈H∨fresh s h=true)))
 | [],[],_,_,_,e=>by cases e
 | [],_::_,ok,_,_,_=>by cases ok
 | _::_,[],ok,_,_,_=>by cases ok
 | (j,k)::r,x::hs,ok,h,j',e=>by
  simp only[oo,aj,a8] at ok
  obtain⟨o1,o2,o3,o4⟩:=ok
  simp only[pC] at e
  cases hb:Nat.beq x h with
  | true=>
   rw[hb] at e
   cases e
   have:=aa hb
   subst this
   refine⟨by simp[gn,aI],au,by simp only[jn,aI,cond_true],?_⟩
   cases hp:pinned j with
   | true=>rw[hp] at o3;exact .inl ⟨rfl,Nc o3⟩
   | false=>
    rw[hp] at o3
    simp only[cond_false,aj,dG] at o3
    refine .inr ⟨rfl,o3.1,o3.2.imp (fun h=>?_) id⟩
    obtain⟨i,hi⟩:=Option.isSome_iff_exists.1 h
    exact lR (ej hi)
  | false=>
   rw[hb] at e
   obtain⟨q1,q2,q3,q4⟩:=l4 o4 e
   refine⟨by simp[gn,q1],ao _ q2,?_,q4⟩
   simp only[jn]
   have:Nat.beq j j'=false:=by
    cases hb2:Nat.beq j j' with
    | false=>rfl
    | true=>have:=aa hb2;subst this;rw[q1] at o1;cases o1
   rw[this]
   exact q3
theorem Er {s:St}{H:List Nat}:∀{st':List (Nat×ap)}{bk:List Nat},oo s H st' bk=true→∀{j h:Nat},jn st' bk j=some h→h∈bk∧pC st' bk h=some j
 | [],[],_,_,_,e=>by cases e
 | [],_::_,ok,_,_,_=>by cases ok
 | _::_,[],ok,_,_,_=>by cases ok
 | (j,k)::r,x::hs,ok,j',h,e=>by
  simp only[oo,aj,a8] at ok
  obtain⟨o1,o2,o3,o4⟩:=ok
  simp only[jn] at e
  cases hb:Nat.beq j j' with
  | true=>
   rw[hb] at e
   cases e
   have:=aa hb
   subst this
   exact⟨au,by simp only[pC,aI,cond_true]⟩
  | false=>
   rw[hb] at e
   obtain⟨q1,q2⟩:=Er o4 e
   refine⟨ao _ q1,?_⟩
   simp only[pC]
   have:Nat.beq x h=false:=by
    cases hb2:Nat.beq x h with
    | false=>rfl
    | true=>have:=aa hb2;subst this;simp at o2;exact absurd q1 o2
   rw[this]
   exact q2
theorem Ki {s:St}{H:List Nat}:∀{st':List (Nat×ap)}{bk:List Nat},oo s H st' bk=true→∀{j:Nat},gn st' j=true→∃h,jn st' bk j=some h
 | [],[],_,_,e=>by cases e
 | [],_::_,ok,_,_=>by cases ok
 | _::_,[],ok,_,_=>by cases ok
 | (j,k)::r,x::hs,ok,j',e=>by
  simp only[oo,aj,a8] at ok
  simp only[gn,dG] at e
  simp only[jn]
  cases hb:Nat.beq j j' with
  | true=>exact⟨x,rfl⟩
  | false=>rw[hb] at e;exact Ki ok.2.2.2 (e.resolve_left fun h=>by cases h)
def jl (μ μ'':Mu) (st':List (Nat×ap)) (bk:List Nat):Mu:=fun y=>match pC st' bk y with
 | some j=>μ'' j
 | none=>μ y
section
variable {P:Program}{N:Nat}{cx:Cx}{s:St}
theorem uv {a:Act}{w w':World}{μ μ'':Mu}{H:List Nat}{vw:Bool}{stC st':List (Nat×ap)}{bk:List Nat}{s2:St}(hr:Rel N cx μ s a w) (hls:fF H (ez s.st H vw) s.st H 0=some stC) (_hnd:H.Nodup)
  (hC:cO (jz (jd cx s.st μ H vw) stC (jk H μ) w) μ'' st' w') (hb:nY vw s H st' bk=some s2):
  Rel N cx (jl μ μ'' st' bk) s2 a w'∧
  (∀g g' v,aY ((jz (jd cx s.st μ H vw) stC (jk H μ) w).O st' μ'') w.heap.size w' μ'' g v→dL vw (jn st' bk) g=some g'→aY (cx.O s2.st (jl μ μ'' st' bk)) cx.base w' (jl μ μ'' st' bk) g' v)∧
  (∀W:List Nat,(∀h∈H,h∈W)→Step W s.st μ s2.st (jl μ μ'' st' bk) w w')∧(∀y,y∈H→y∉dT st' H 0→Ext (μ y) (jl μ μ'' st' bk y)):=by
 unfold nY at hb
 cases hok:oo s H st' bk&&s.df.all (fun g=>!(pb (dT st' H 0) g)) with
 | false=>rw[hok] at hb;cases hb
 | true=>
 rw[hok,cond_true] at hb
 simp only[aj] at hok
 obtain⟨hok,hdf⟩:=hok
 cases hbs:kl vw (jn st' bk) (jv s.st st' H 0) s.st st' bk with
 | none=>rw[hbs] at hb;cases hb
 | some sb=>
 rw[hbs] at hb
 cases hb
 have hst:=hr.st
 have alive:∀y,y∉dT st' H 0→(pC st' bk y=none∨y∈H∨fresh s y=false)→Ext (μ y) (jl μ μ'' st' bk y):=by
  intro y hy hn
  unfold jl
  by_cases hyH:y∈H
  ·obtain⟨n,e1,e2⟩:=zB hyH hy
   rw[bT] at e2
   obtain⟨h',e3⟩:=Ki hok e2
   obtain⟨_,e4⟩:=Er hok e3
   have e5:=(l4 hok e4).2.2.2
   have e6:h'=y:=by
    rcases e5 with ⟨_,e5⟩ | ⟨e5,_⟩
    ·rw[show 1000+n-1000=n by omega,e1] at e5;exact(kA e5).symm
    ·rw[pO] at e5;cases e5
   subst e6
   rw[e4]
   obtain⟨k,hk⟩:=AL e2
   have:=(hC.ei _ k hk (pO n)).ext
   simp only
   rw[←jj (μ:=μ) e1]
   exact this
  ·cases hI:pC st' bk y with
   | none=>exact .inl rfl
   | some j=>
    rcases(l4 hok hI).2.2.2 with ⟨_,e⟩ | ⟨_,_,e | e⟩
    ·exact absurd (lR e) hyH
    ·exact absurd e hyH
    ·rcases hn with hn | hn | hn
     ·rw[hI] at hn;cases hn
     ·exact absurd hn hyH
     ·rw[hn] at e;cases e
 have notfr:∀y t g,get s.fr t=some g→g.b9 y=true→fresh s y=false:=by
  intro y t g hg hh
  cases hf:fresh s y with
  | false=>rfl
  | true=>rw[kQ (fc hf).2.1 hg] at hh;cases hh
 have notst:∀y x k g,aq s.st x=some k→k.pure=false→g∈k.cells→g.b9 y=true→fresh s y=false:=by
  intro y x k g hk hp hg hh
  cases hf:fresh s y with
  | false=>rfl
  | true=>rw[qE (fc hf).2.2.1 hk hp hg] at hh;cases hh
 have hsz:w.heap.size≤w'.heap.size:=hC.hb
 have hkeep:∀b,b<w.heap.size→¬Own stC (jk H μ) b→w'.heap[b]?=w.heap[b]?:=fun b hb hn=>hC.da b hb hn
 have hown:∀b,Own stC (jk H μ) b→Own s.st μ b:=fun b ho=>by obtain⟨i,h,k,c,m,_,h2,h3,hi⟩:=jF hls ho;exact⟨h,k,c,m,h2,h3,hi⟩
 have hkept:Kept (cx.O s.st μ) w w':=⟨hsz,fun b hb hn=>hkeep b hb fun ho=>hn (.inr (hown b ho))⟩
 have row:∀y k2,aq (sb++fq (dT st' H 0) (fA H s.st)) y=some k2→
   (∃j k' k1,aq st' j=some k'∧pC st' bk y=some j∧tO vw (jn st' bk) k'=some k1∧k2=nc (jv s.st st' H 0) s.st j y k'.lp k1)∨
   (pC st' bk y=none∧∃k0,dx H y=none∧aq s.st y=some k0∧k2=rK (dT st' H 0) k0):=by
  intro y k2 h
  rw[I5] at h
  cases hs:aq sb y with
  | some k3=>
   rw[hs] at h
   cases h
   exact .inl (Ds hbs hok hs)
  | none=>
   rw[hs,Option.none_or] at h
   obtain⟨k0,h1,h2⟩:=I4 h
   obtain⟨h3,h4⟩:=rX h1
   refine .inr ⟨?_,k0,h3,h4,h2⟩
   cases hI:pC st' bk y with
   | none=>rfl
   | some j=>
    rcases(l4 hok hI).2.2.2 with ⟨_,e⟩ | ⟨_,_,e | e⟩
    ·exact absurd (lR e) (nk h3)
    ·exact absurd e (nk h3)
    ·rw[(fc e).1] at h4;cases h4
 have notdead:∀{y},dx H y=none→y∉dT st' H 0:=by
  intro y hy hm
  have:∀(r:List Nat) (i:Nat),y∈dT st' r i→y∈r:=by
   intro r
   induction r with
   | nil=>intro i h;cases h
   | cons x r ih=>
    intro i h
    simp only[dT] at h
    cases hb:gn st' (1000+i) with
    | true=>rw[hb] at h;exact ao _ (ih _ h)
    | false=>
     rw[hb] at h
     rcases aZ.1 h with rfl | h
     ·exact au
     ·exact ao _ (ih _ h)
  exact nk hy (this H 0 hm)
 have yj:∀y k2 b m,aq (sb++fq (dT st' H 0) (fA H s.st)) y=some k2→jl μ μ'' st' bk y=some (b,m)→
   (∃j k',pC st' bk y=some j∧aq st' j=some k'∧μ'' j=some (b,m))∨(pC st' bk y=none∧dx H y=none∧∃k0,aq s.st y=some k0∧μ y=some (b,m)):=by
  intro y k2 b m h1 h2
  rcases row y k2 h1 with ⟨j,k',k1,e1,e2,_,_⟩ | ⟨e0,k0,e1,e2,_⟩
  ·left
   refine⟨j,k',e2,e1,?_⟩
   unfold jl at h2
   rw[e2] at h2
   exact h2
  ·right
   refine⟨e0,e1,k0,e2,?_⟩
   unfold jl at h2
   rw[e0] at h2
   exact h2
 have hO2:∀b,cx.O (sb++fq (dT st' H 0) (fA H s.st)) (jl μ μ'' st' bk) b→cx.X b∨Own st' μ'' b∨Own (fA H s.st) μ b:=by
  rintro b (ho | ⟨y,k2,c,m,h1,h2,hi⟩)
  ·exact .inl ho
  ·rcases yj y k2 c m h1 h2 with ⟨j,k',e1,e2,e3⟩ | ⟨e0,e1,k0,e2,e3⟩
   ·exact .inr (.inl ⟨j,k',c,m,e2,e3,hi⟩)
   ·exact .inr (.inr ⟨y,k0,c,m,xc e1 e2,e3,hi⟩)
 have outlt:∀b,Own (fA H s.st) μ b→b<w.heap.size:=fun b ho=>by
  obtain⟨h,k,c,m,_,h2,h3,hi⟩:=wc ho
  exact ox hst ⟨h,k,c,m,h2,h3,hi⟩
 have hOO:∀b,b<w.heap.size→¬cx.O s.st μ b→¬cx.O (sb++fq (dT st' H 0) (fA H s.st)) (jl μ μ'' st' bk) b:=by
  intro b hb hn ho
  rcases hO2 b ho with ho | ⟨j,k',c,m,h1,h2,hi⟩ | ho
  ·exact hn (.inl ho)
  ·rcases(hC.bU j k' c m b h1 h2 hi).2.1 with h3 | h3
   ·exact absurd hb (by show ¬b<w.heap.size;exact Nat.not_lt.2 h3)
   ·exact hn (.inr (hown b h3))
  ·obtain⟨h,k,c,m,_,h2,h3,hi⟩:=wc ho
   exact hn (.inr ⟨h,k,c,m,h2,h3,hi⟩)
 have impO:∀(f:Bool),(vw=true→f=true)→∀{b},(bif f then eA (cx.O (sb++fq (dT st' H 0) (fA H s.st)) (jl μ μ'' st' bk)) cx.base else cx.O (sb++fq (dT st' H 0) (fA H s.st)) (jl μ μ'' st' bk)) b→
   (bif f then eA ((jz (jd cx s.st μ H vw) stC (jk H μ) w).O st' μ'') w.heap.size else(jz (jd cx s.st μ H vw) stC (jk H μ) w).O st' μ'') b:=by
  intro f hf b ho
  have key:∀{b},cx.O (sb++fq (dT st' H 0) (fA H s.st)) (jl μ μ'' st' bk) b→(vw=false∨w.heap.size≤b)→(jz (jd cx s.st μ H vw) stC (jk H μ) w).O st' μ'' b:=by
   intro b ho hv
   rcases hO2 b ho with ho | ho | ho
   ·exact .inl (.inl ho)
   ·exact .inr ho
   ·rcases hv with hv | hv
    ·exact .inl (.inr ⟨hv,ho⟩)
    ·have:=outlt b ho;omega
  cases f with
  | false=>exact key ho (.inl (by cases vw with | false=>rfl | true=>cases hf rfl))
  | true=>
   rcases ho with ho | ho
   ·exact .inl (by have:=hst.hb;show b<w.heap.size;omega)
   ·by_cases hlt:b<w.heap.size
    ·exact .inl hlt
    ·exact .inr (key ho (.inr (by omega)))
 have impo:∀(f:Bool){g:G}{v:Value},(vw=true→f=true)→bG (bif f then eA ((jz (jd cx s.st μ H vw) stC (jk H μ) w).O st' μ'') w.heap.size else(jz (jd cx s.st μ H vw) stC (jk H μ) w).O st' μ'') w' g v→
   bG (bif f then eA (cx.O (sb++fq (dT st' H 0) (fA H s.st)) (jl μ μ'' st' bk)) cx.base else cx.O (sb++fq (dT st' H 0) (fA H s.st)) (jl μ μ'' st' bk)) w' g v:=by
  intro f g v hf h
  exact h.mono (Kept.refl _ _) fun b _ hn ho=>hn (impO f hf ho)
 have lf:∀{g g':G}{v:Value},aY ((jz (jd cx s.st μ H vw) stC (jk H μ) w).O st' μ'') w.heap.size w' μ'' g v→dL vw (jn st' bk) g=some g'→
   aY (cx.O (sb++fq (dT st' H 0) (fA H s.st)) (jl μ μ'' st' bk)) cx.base w' (jl μ μ'' st' bk) g' v:=by
  intro g g' v hv hg
  have hmu:∀{j h},jn st' bk j=some h→jl μ μ'' st' bk h=μ'' j:=by
   intro j h e
   unfold jl
   rw[(Er hok e).2]
  have aH:∀{g:G}{v:Value},bG ((jz (jd cx s.st μ H vw) stC (jk H μ) w).O st' μ'') w' g v→∀{g'},dL vw (jn st' bk) g=some g'→
    aY (cx.O (sb++fq (dT st' H 0) (fA H s.st)) (jl μ μ'' st' bk)) cx.base w' (jl μ μ'' st' bk) g' v:=by
   intro g v h
   induction h with
   | any v=>intro g' hg;cases hg;exact .aH (.any _)
   | val v=>intro g' hg;cases hg;exact .aH (.val _)
   | nil=>
    intro g' hg
    simp only[dL] at hg
    cases vw with
    | true=>cases hg
    | false=>cases hg;exact .aH .nil
   | gQ a c=>
    intro g' hg
    simp only[dL] at hg
    cases vw with
    | true=>cases hg
    | false=>cases hg;exact .aH (.gQ a c)
   | sl n cells b off cap us h1 h2 h3 h4 h5 ih=>
    intro g' hg
    simp only[dL] at hg
    cases hvw:vw with
    | true=>rw[hvw] at hg;cases hg
    | false=>rw[hvw] at hg;cases hg;exact .aH (impo false (fun h=>by rw[hvw] at h;cases h) (.sl n cells b off cap us h1 h2 h3 h4 h5))
   | ptr cells b off us h1 h2 h3 h4 ih=>
    intro g' hg
    simp only[dL] at hg
    cases hvw:vw with
    | true=>rw[hvw] at hg;cases hg
    | false=>rw[hvw] at hg;cases hg;exact .aH (impo false (fun h=>by rw[hvw] at h;cases h) (.ptr cells b off us h1 h2 h3 h4))
   | agg cells us hl hr ih=>
    intro g' hg
    simp only[dL,av] at hg
    obtain⟨gs',h1,rfl⟩:=hg
    obtain⟨h2,h3⟩:=tz h1
    refine .agg gs' us (by omega) fun j g v hg hv=>?_
    obtain⟨g0,h4,h5⟩:=h3 j g hg
    exact ih j g0 v h4 hv h5
  induction hv generalizing g' with
  | aH h=>exact aH h hg
  | fr h=>cases hg;exact .fr (impo true (fun _=>rfl) h)
  | loc h off b m hm=>
   simp only[dL,av] at hg
   obtain⟨x,h1,rfl⟩:=hg
   exact .loc x off b m (by rw[hmu h1];exact hm)
  | eQ h sz hm=>
   simp only[dL,av] at hg
   obtain⟨x,h1,rfl⟩:=hg
   exact .eQ x sz (by rw[hmu h1];exact hm)
  | aR h sz off n b m cap hm hn hc=>
   simp only[dL,av] at hg
   obtain⟨x,h1,rfl⟩:=hg
   exact .aR x sz off n b m cap (by rw[hmu h1];exact hm) hn hc
  | dJ h sz off0 b m hm hpos=>
   simp only[dL,av] at hg
   obtain⟨x,h1,rfl⟩:=hg
   exact .dJ x sz off0 b m (by rw[hmu h1];exact hm) hpos
  | agg cells us hl hr ih=>
   simp only[dL,av] at hg
   obtain⟨gs',h1,rfl⟩:=hg
   obtain⟨h2,h3⟩:=tz h1
   refine .agg gs' us (by omega) fun j g v hg hv=>?_
   obtain⟨g0,h4,h5⟩:=h3 j g hg
   exact ih j g0 v h4 hv h5
  | bl cells us hl hr ih=>
   simp only[dL,av] at hg
   obtain⟨gs',h1,rfl⟩:=hg
   obtain⟨h2,h3⟩:=tz h1
   refine .bl gs' us (by omega) fun j g v hg hv=>?_
   obtain⟨g0,h4,h5⟩:=h3 j g hg
   exact ih j g0 v h4 hv h5
  | aF f caps us hl hr ih=>
   simp only[dL,av] at hg
   obtain⟨gs',h1,rfl⟩:=hg
   obtain⟨h2,h3⟩:=tz h1
   refine .aF f gs' us (by omega) fun j g v hg hv=>?_
   obtain⟨g0,h4,h5⟩:=h3 j g hg
   exact ih j g0 v h4 hv h5
  | ct h b m hm=>
   simp only[dL,av] at hg
   obtain⟨x,h1,rfl⟩:=hg
   exact .ct x b m (by rw[hmu h1];exact hm)
  | dV h b m hm=>
   simp only[dL,av] at hg
   obtain⟨x,h1,rfl⟩:=hg
   exact .dV x b m (by rw[hmu h1];exact hm)
  | kp h i off b m c n hm hk=>
   simp only[dL,av] at hg
   obtain⟨x,h1,rfl⟩:=hg
   exact .kp x i off b m c n (by rw[hmu h1];exact hm) hk
  | g9 h i sz a cap hb=>
   simp only[dL,av] at hg
   obtain⟨x,h1,rfl⟩:=hg
   exact .g9 x i sz a cap hb
  | ks h i sz n b m c k cap hm hk hn hc=>
   simp only[dL,av] at hg
   obtain⟨x,h1,rfl⟩:=hg
   exact .ks x i sz n b m c k cap (by rw[hmu h1];exact hm) hk hn hc
 have hmineA:∀{j y:Nat}{k' k1 k2:ap},aq st' j=some k'→pC st' bk y=some j→tO vw (jn st' bk) k'=some k1→k2=nc (jv s.st st' H 0) s.st j y k'.lp k1→
   ∀b m x,μ'' j=some (b,m)→In x b m→k2.cw=true→cx.base≤x:=by
  intro j y k' k1 k2 e1 e2 e3 e4 b m x hm hi hk2
  have hk1:k1.cw=k'.cw:=by
   unfold tO at e3
   cases hpp:k'.pure with
   | true=>
    rw[hpp,cond_true] at e3
    cases hvf:(vw&&!k'.fresh) with
    | true=>rw[hvf] at e3;cases e3
    | false=>rw[hvf] at e3;cases e3;rfl
   | false=>
    rw[hpp,cond_false] at e3
    cases hgo:dL.go vw (jn st' bk) k'.cells with
    | none=>rw[hgo] at e3;cases e3
    | some cs=>rw[hgo] at e3;cases e3;rfl
  have own:k'.cw=true→cx.base≤x:=fun h=>by
   have:w.heap.size≤x:=(hC.bU j k' b m x e1 hm hi).2.2.2 h
   have:=hst.hb
   omega
  unfold nc at e4
  cases hl:p7 k'.lp with
  | true=>
   rw[hl,cond_true] at e4
   subst e4
   exact own (hk1▸hk2)
  | false=>
  rw[hl,cond_false] at e4
  cases hp:pinned j with
  | true=>
   rw[hp,cond_true] at e4
   subst e4
   simp only[zg] at hk2
   have hH:H[j-1000]?=some y:=by
    rcases(l4 hok e2).2.2.2 with ⟨_,e⟩ | ⟨e,_⟩
    ·exact e
    ·rw[hp] at e;cases e
   have hpin:=hC.ei j k' e1 hp
   have hj:1000≤j:=eX hp
   have hmy:uD w.heap.size (μ y) (μ'' j):=by
    have:=jj (μ:=μ) hH
    rw[show 1000+(j-1000)=j by omega] at this
    rw[←this]
    exact hpin
   cases hky:aq s.st y with
   | none=>rw[hky] at hk2;cases hk2
   | some k0=>
    rw[hky] at hk2
    rcases hmy.sc hm hi with h | ⟨m0,h1,h2⟩
    ·have:=hst.hb
     omega
    ·exact(hst.bU y k0 b m0 x hky h1 h2).2.2.2 hk2
  | false=>
   rw[hp,cond_false] at e4
   subst e4
   simp only[dG] at hk2
   rcases hk2 with hk2 | hA
   ·exact own (hk1▸hk2)
   ·rcases(hC.bU j k' b m x e1 hm hi).2.1 with h5 | h5
    ·have:=hst.hb
     have h6:w.heap.size≤x:=h5
     omega
    ·obtain⟨i,h,k,c,m',q1,q2,q3,q4⟩:=jF hls h5
     rcases CQ hA q1 q2 with h7 | h7
     ·exact(hst.bU h k c m' x q2 q3 q4).2.2.2 h7
     ·exfalso
      rw[bT] at h7
      obtain⟨k'',h8⟩:=AL h7
      obtain⟨m2,h10,h11⟩:=(hC.ei _ k'' h8 (pO i)).ext.sc ((jj q1).trans q3) q4
      have:=hC.cE j (1000+i) k' k'' x b m c m2 e1 h8 hm h10 hi h11
      rw[this,pO] at hp
      cases hp
 refine⟨{st:={dc:=?_,cE:=?_,bU:=?_,ei:=?_,eg:=hst.eg,hb:=cB hst.hb hsz,os:=hC.os.trans hst.os,tape:=hC.tape.trans hst.tape,output:=hC.output.trans hst.output,da:=?_},nd:=?_,sz:=hr.sz,fr:=?_},fun g g' v=>lf,?_,fun y h1 h2=>alive y h2 (.inr (.inl h1))⟩
 ·intro y k2 h1
  rcases row y k2 h1 with ⟨j,k',k1,e1,e2,e3,e4⟩ | ⟨e0,k0,e1,e2,e3⟩
  ·have hmy:jl μ μ'' st' bk y=μ'' j:=by unfold jl;rw[e2]
   rw[hmy]
   have hbj:=hC.dc j k' e1
   have hmine:∀b m x,μ'' j=some (b,m)→In x b m→k2.cw=true→cx.base≤x:=hmineA e1 e2 e3 e4
   have hloop:p7 k'.lp=true→k2=k1:=by
    intro hl
    rw[e4]
    unfold nc
    rw[hl];rfl
   have hfields:k2.bP=k1.bP∧k2.pure=k1.pure∧k2.fresh=k1.fresh∧k2.sz=k1.sz∧k2.cells=k1.cells∧k2.lp=k1.lp:=by
    rw[e4];unfold nc;cases p7 k'.lp <;> cases pinned j <;> exact⟨rfl,rfl,rfl,rfl,rfl,rfl⟩
   obtain⟨f1,f2,f3,f4,f5,f6⟩:=hfields
   clear e4
   unfold tO at e3
   cases hpp:k'.pure with
   | true=>
    rw[hpp,cond_true] at e3
    cases hvf:(vw&&!k'.fresh) with
    | true=>rw[hvf] at e3;cases e3
    | false=>
     rw[hvf] at e3
     cases e3
     cases hm:μ'' j with
     | none=>rw[hm] at hbj;exact hbj.tS f5 f6 f2
     | some bm=>
      obtain⟨b,m⟩:=bm
      rw[hm] at hbj
      cases hl:k'.lp with
      | none=>
       obtain⟨cs,h1,h2,h3,h4,h5,h6⟩:=hbj.cells hl
       refine .mk (f6.trans hl) (hbj.kn hl) ⟨cs,by rw[f1];exact h1,h2,by rw[f5];exact h3,hmine b m b hm (.self _ _),by rw[f4];exact h5,fun j' g hg=>?_⟩
       rw[f5] at hg
       obtain⟨v,hv,hrv⟩:=h6 j' g hg
       refine⟨v,hv,?_⟩
       unfold cz at hrv⊢
       rw[f2,f3]
       simp only[hpp] at hrv⊢
       exact impo k'.fresh (fun e=>by rw[e] at hvf;simpa using hvf) hrv
      | some kd=>
       cases kd with
       | loop lp=>
        obtain⟨D,vs,_,_,_,h4,_⟩:=(aQ.loop hl).1 hbj
        rw[hpp] at h4;cases h4
       | deep d=>
        obtain⟨h1,h2,h3,h4⟩:=(aQ.deep hl).1 hbj
        refine(aQ.deep (f6.trans hl)).2 ⟨?_,f2.trans hpp,f5.trans h3,hmine b m b hm (.self _ _)⟩
        rw[f3]
        exact d.mono h1 (Kept.refl _ _) (fun x _ hn ho=>hn (impO k'.fresh (fun e=>by rw[e] at hvf;simpa using hvf) ho)) (fun _ _=>rfl)
   | false=>
    rw[hpp,cond_false] at e3
    cases hgo:dL.go vw (jn st' bk) k'.cells with
    | none=>rw[hgo] at e3;cases e3
    | some cs'=>
     rw[hgo] at e3
     cases e3
     obtain⟨q1,q2⟩:=tz hgo
     simp only at f1 f2 f3 f4 f5 f6
     cases hm:μ'' j with
     | none=>
      rw[hm] at hbj
      refine hbj.tS (f5.trans ?_) f6 (f2.trans hpp.symm)
      rw[hbj.1]
      exact bp (by rw[q1,hbj.1];rfl)
     | some bm=>
      obtain⟨b,m⟩:=bm
      rw[hm] at hbj
      cases hl:k'.lp with
      | none=>
       obtain⟨cs,h1,h2,h3,h4,h5,h6⟩:=hbj.cells hl
       refine .mk (f6.trans hl) (hbj.kn hl) ⟨cs,by rw[f1];exact h1,h2,by rw[f5];omega,hmine b m b hm (.self _ _),by rw[f4];exact h5,fun j' g hg=>?_⟩
       rw[f5] at hg
       obtain⟨g0,q3,q4⟩:=q2 j' g hg
       obtain⟨v,hv,hrv⟩:=h6 j' g0 q3
       refine⟨v,hv,?_⟩
       unfold cz at hrv⊢
       rw[f2]
       simp only[hpp] at hrv⊢
       exact lf hrv q4
      | some kd=>
       cases kd with
       | deep d=>have:=((aQ.deep hl).1 hbj).2.1;rw[hpp] at this;cases this
       | loop lp=>
        obtain⟨D,vs,h1,h2,h3,h4,h5⟩:=(aQ.loop hl).1 hbj
        have hk2:k2.cw=false:=by rw[hloop (by rw[hl];rfl)];exact h3
        refine(aQ.loop (f6.trans hl)).2 ⟨D,vs,h1,h2,hk2,f2,fun j' t g ht hg=>?_⟩
        rw[f5] at hg
        obtain⟨g0,q3,q4⟩:=q2 j' g hg
        obtain⟨v,hv,hrv⟩:=h5 j' t g0 ht q3
        exact⟨v,hv,lf hrv q4⟩
  ·subst e3
   have hmy:jl μ μ'' st' bk y=μ y:=by unfold jl;rw[e0]
   rw[hmy]
   refine((hst.dc y k0 e2).mono (fun b m hm z hz=>hkeep z (ox hst ⟨y,k0,b,m,e2,hm,hz⟩) fun ho=>?_) hkept hOO).dead _ fun hp g hg x hx hh=>alive x hx (.inr (.inr (notst x y k0 g e2 hp hg hh)))
   obtain⟨i,h,k,c',m',q1,q2,q3,q4⟩:=jF hls ho
   exact qP hst q1 q2 q3 q4 e1 e2 hm hz
 ·intro y y' k2 k2' x b m b' m' h1 h2 h3 h4 hi hi'
  rcases yj y k2 b m h1 h3 with ⟨j,k',e1,e2,e3⟩ | ⟨e0,e1,k0,e2,e3⟩ <;> rcases yj y' k2' b' m' h2 h4 with ⟨j',k'',e1',e2',e3'⟩ | ⟨e0',e1',k0',e2',e3'⟩
  ·have:=hC.cE j j' k' k'' x b m b' m' e2 e2' e3 e3' hi hi'
   subst this
   have:=(l4 hok e1).2.2.1.symm.trans (l4 hok e1').2.2.1
   exact kA this
  ·exfalso
   have hlt:=ox hst ⟨y',k0',b',m',e2',e3',hi'⟩
   rcases(hC.bU j k' b m x e2 e3 hi).2.1 with h5 | h5
   ·exact absurd hlt (Nat.not_lt.2 h5)
   ·obtain⟨i,h,k,c2,m2,q1,q2,q3,q4⟩:=jF hls h5
    exact qP hst q1 q2 q3 q4 e1' e2' e3' hi'
  ·exfalso
   have hlt:=ox hst ⟨y,k0,b,m,e2,e3,hi⟩
   rcases(hC.bU j' k'' b' m' x e2' e3' hi').2.1 with h5 | h5
   ·exact absurd hlt (Nat.not_lt.2 h5)
   ·obtain⟨i,h,k,c2,m2,q1,q2,q3,q4⟩:=jF hls h5
    exact qP hst q1 q2 q3 q4 e1 e2 e3 hi
  ·exact hst.cE y y' k0 k0' x b m b' m' e2 e2' e3 e3' hi hi'
 ·intro y k2 b m x h1 h3 hi
  rcases row y k2 h1 with ⟨j,k',k1,e2,e1,er,e4⟩ | ⟨e0,k0,e1,e2,er⟩
  ·have e3:μ'' j=some (b,m):=by unfold jl at h3;rw[e1] at h3;exact h3
   obtain⟨h5,h6,h7,_⟩:=hC.bU j k' b m x e2 e3 hi
   refine⟨fun hx=>h5 (.inl hx),?_,h7,hmineA e2 e1 er e4 b m x e3 hi⟩
   rcases h6 with h6 | h6
   ·exact .inl (cB hst.hb h6)
   ·obtain⟨i,h,k,c2,m2,q1,q2,q3,q4⟩:=jF hls h6
    exact(hst.bU h k c2 m2 x q2 q3 q4).2.1
  ·have e3:μ y=some (b,m):=by unfold jl at h3;rw[e0] at h3;exact h3
   obtain⟨h5,h6,h7,h8⟩:=hst.bU y k0 b m x e2 e3 hi
   exact⟨h5,h6,bW h7 hsz,fun hm=>h8 (by subst er;unfold rK at hm;cases hp:k0.pure <;> simp only[hp] at hm <;> exact hm)⟩
 ·intro y k2 h1 hp
  rcases row y k2 h1 with ⟨j,k',k1,e1,e2,e3,e4⟩ | ⟨e0,k0,e1,e2,e3⟩
  ·rcases(l4 hok e2).2.2.2 with ⟨e5,e6⟩ | ⟨_,e5,_⟩
   ·have hj:1000≤j:=eX e5
    have h6:jl μ μ'' st' bk y=μ'' j:=by unfold jl;rw[e2]
    rw[h6]
    have h7:=jj (μ:=μ) e6
    rw[show 1000+(j-1000)=j by omega] at h7
    obtain⟨_,k0,hk0⟩:=CT hls e6
    have h8:=hC.ei j k' e1 e5
    refine(hst.ei y k0 hk0 hp).trans (?_:uD w.heap.size (μ y) (μ'' j)) hst.hb
    rw[←h7]
    exact h8
   ·rw[gW e5] at hp;cases hp
  ·have h6:jl μ μ'' st' bk y=μ y:=by unfold jl;rw[e0]
   rw[h6]
   exact hst.ei y k0 e2 hp
 ·intro b hb hA
  rw[hkeep b (by have:=hst.hb;omega) fun ho=>?_]
  ·exact hst.da b hb hA
  ·obtain⟨i,h,k,c,m,q1,q2,q3,q4⟩:=jF hls ho
   rcases(hst.bU h k c m b q2 q3 q4).2.1 with h4 | h4
   ·omega
   ·exact hA h4
 ·refine(hr.nd.mono hkept hOO).l9 fun g hg y hy=>?_
  have hd:=dM.1 hdf g hg
  simp only[a8] at hd
  refine alive y (fun hm=>by rw[yb hd y hm] at hy;cases hy) (.inr (.inr ?_))
  cases hf:fresh s y with
  | false=>rfl
  | true=>rw[lX (fc hf).2.2.2.1 hg] at hy;cases hy
 ·intro t g hg
  obtain⟨g0,h1,rfl⟩:=Lr hg
  obtain⟨v,hv,hrv⟩:=hr.fr t g0 h1
  exact⟨v,hv,xJ (hrv.mono hkept hOO (az _)) fun y hy hh=>alive y hy (.inr (.inr (notfr y t g0 h1 hh)))⟩
 ·intro W hW
  refine⟨hsz,fun b hb hn=>hkeep b hb fun ho=>?_,fun y k2 c m b hy h1 h2 hi=>?_⟩
  ·obtain⟨i,h,k,c,m,q1,q2,q3,q4⟩:=jF hls ho
   exact hn h k c m (hW h (lR q1)) q2 q3 q4
  ·rcases yj y k2 c m h1 h2 with ⟨j,k',e1,e2,e3⟩ | ⟨e0,e1,k0,e2,e3⟩
   ·rcases(hC.bU j k' c m b e2 e3 hi).2.1 with h6 | h6
    ·exact .inr h6
    ·obtain⟨i,h,k,c2,m2,q1,q2,q3,q4⟩:=jF hls h6
     exact .inl ⟨h,k,c2,m2,hW h (lR q1),q2,q3,q4⟩
   ·exact .inl ⟨y,k0,c,m,hy,e2,e3,hi⟩
end
end Go.AM
/-
 AM,part BB:the steps:calls to which blocks are lent;handles under other numbers.
-/
namespace Go.AM
def n4:List Nat→Bool
 | []=>true
 | h::r=>!(r.contains h)&&n4 r
theorem lQ:∀{H:List Nat},n4 H=true→H.Nodup
 | [],_=>List.nodup_nil
 | h::r,e=>by
  simp only[n4,aj,a8] at e
  refine List.nodup_cons.2 ⟨fun hm=>?_,lQ e.2⟩
  have:=e.1
  simp at this
  exact this hm
section
variable {P:Program}{N:Nat}{cx:Cx}{s:St}
variable {ty:TypeId}{pos:String}{after:Array Edge}{guard:Option (Nat×Bool)}{W:List Nat}{d:Nat}
theorem Step.sub {st st' st2:List (Nat×ap)}{μ μ':Mu}{w w':World}(h:Step W st μ st' μ' w w') (hs:kr st' st2):Step W st μ st2 μ' w w':=
 ⟨h.size,h.block,fun x k c m b h1 h2 h3 hi=>h.hand x k c m b h1 (hs.get h2) h3 hi⟩
theorem uY {f:FuncId}{vs:List Value}{gs gs':List G}{stC:List (Nat×ap)}{Q:G→List (Nat×ap)→Prop}{Qp:List PanicEntry→List (Nat×ap)→Prop}{H:List Nat}{vw:Bool}{μ:Mu}{a:Act}{w:World}(hr:Rel N cx μ s a w)
  (hv:cj.go H (ez s.st H vw) gs=some gs') (hl:fF H (ez s.st H vw) s.st H 0=some stC) (cR:n4 H=true) (hvs:vs.length=gs.length)
  (hrep:∀(j:Nat) (g:G) (v:Value),gs[j]?=some g→vs[j]?=some v→aY (cx.O s.st μ) cx.base w μ g v) (hcon:GP P f gs' stC Q Qp):
  Calls P f vs.toArray w (Ev (jd cx s.st μ H vw) stC (jk H μ) w Q Qp):=by
 obtain⟨h1,h2⟩:=lS hv
 have hrel:=HL hr.st hl (lQ cR)
 refine hcon (jd cx s.st μ H vw) (jk H μ) w vs hrel.eg hrel (by omega) fun j g v hg hv=>?_
 obtain⟨g0,h3,h4⟩:=h2 j g hg
 exact pY hr.st hl (hrep j g0 v h3 hv) h4
def ye (H W:List Nat):Bool:=H.all W.contains
theorem yd {H W:List Nat}(h:ye H W=true):∀x∈H,x∈W:=fun x hx=>by
 have:=dM.1 h x hx
 simpa using this
theorem EF.ez {f:FuncId}{x:Operand}{xs:Array Operand}{ts:Array TypeId}{gs caps gs':List G}{stC:List (Nat×ap)}{Q:G→List (Nat×ap)→Prop}{s1:St}(H:List Nat) (vw:Bool) (bk:List Nat) (hc:∀args w,(callFunc f args).run P w=.ok (.enter f args) w)
  (hf:ev s x=some (.aF f caps)) (hx:uf s xs.toList=some gs) (hv:cj.go H (ez s.st H vw) (gs++caps)=some gs') (hl:fF H (ez s.st H vw) s.st H 0=some stC) (cR:n4 H=true) (hcon:GM P f gs' stC Q)
  (hres:∀r st',Q r st'→∃s2 r',nY vw s H st' bk=some s2∧dL vw (jn st' bk) r=some r'∧Sub (s2.put d r') s1) (hW:ye H W=true):
  bN P W s ⟨some d,.call ⟨.value x,xs,ts⟩,ty,pos,after,guard⟩ (·=s1):=by
 refine⟨(fun _ h=>by cases h),?_⟩
 intro N cx μ a w hr hN K Q' hK
 obtain⟨h1,h2⟩:=mq hx
 have hcl:=hr.ev hf
 generalize hav:a.eval x=vf at hcl
 cases hcl with
 | aH h=>cases h
 | aF _ _ us hlu hrc=>
  have hcall:=uY (vs:=xs.toList.map a.eval++us) hr hv hl cR (by simp[h1,hlu]) (fun j g v hg hv=>by
   rw[a9] at hg hv
   rw[aW,←h1] at hv
   split at hg
   ·rename_i hj
    rw[if_pos hj] at hv
    obtain⟨x,hxj,he⟩:=h2 j g hg
    rw[ay,hxj] at hv
    cases hv
    exact hr.ev he
   ·rename_i hj
    rw[if_neg hj] at hv
    exact hrc _ g v hg hv) hcon
  unfold Oper.wp
  have:(execOp a.eval ⟨some d,.call ⟨.value x,xs,ts⟩,ty,pos,after,guard⟩).run P w=.ok (.enter f (xs.toList.map a.eval++us).toArray) w:=by
   have e:xs.map a.eval++us.toArray=(xs.toList.map a.eval++us).toArray:=by rw[←oc,←en]
   simp[execOp,resolve,invoke,Deferred.ofValue,hav,hc,e]
  rw[this]
  refine hcall.mono ?_
  rintro e w' (⟨v,r,st',μ',rfl,hq,hC,hrv⟩ | ⟨_,_,_,_,h,_⟩)
  ·obtain⟨s2,r',hb,hren,hsub⟩:=hres r st' hq
   obtain⟨q1,q2,q3,_⟩:=uv hr hl (lQ cR) hC hb
   exact hK _ _ _ w' ((q1.put (hN d rfl) (q2 r r' v hrv hren)).sub hsub) rfl ((q3 W (yd hW)).sub hsub.2.1)
  ·exact h.elim
end
end Go.AM
/-
 AM,part BC:a handle under another number (a block that was handed in and may move from now on).
-/
namespace Go.AM
def mv (h h' x:Nat):Nat:=bif Nat.beq x h then h' else x
theorem tB (h h':Nat):mv h h' h=h':=by simp[mv,aI]
theorem iH {h h' x:Nat}(e:x≠h):mv h h' x=x:=by
 unfold mv
 cases hb:Nat.beq x h with
 | false=>rfl
 | true=>exact absurd (aa hb) e
def mL (h h':Nat):G→G
 | .loc x off=>.loc (mv h h' x) off
 | .aR x sz off n=>.aR (mv h h' x) sz off n
 | .ct x=>.ct (mv h h' x)
 | .dV x=>.dV (mv h h' x)
 | .kp x i off=>.kp (mv h h' x) i off
 | .ks x i sz n=>.ks (mv h h' x) i sz n
 | .agg gs=>.agg (go gs)
 | .bl gs=>.bl (go gs)
 | .aF f gs=>.aF f (go gs)
 | g=>g
where go:List G→List G
 | []=>[]
 | g::r=>mL h h' g::go r
theorem mb {h h':Nat}{gs:List G}:(mL.go h h' gs).length=gs.length∧∀(j:Nat) (g':G),(mL.go h h' gs)[j]?=some g'→∃g,gs[j]?=some g∧g'=mL h h' g:=by
 induction gs with
 | nil=>exact⟨rfl,fun j g e=>by simp[mL.go] at e⟩
 | cons x r ih=>
  refine⟨by simp[mL.go,ih.1],fun j g' e=>?_⟩
  simp only[mL.go] at e
  cases j with
  | zero=>cases e;exact⟨x,rfl,rfl⟩
  | succ j=>exact ih.2 j g' e
def E0 (h h':Nat) (k:ap):ap:=bif k.pure then k else {k with cells:=mL.go h h' k.cells}
def xh (h h':Nat):List (Nat×G)→List (Nat×G)
 | []=>[]
 | (t,g)::r=>(t,mL h h' g)::xh h h' r
def sw (h h':Nat):List (Nat×ap)→List (Nat×ap)
 | []=>[]
 | (x,k)::r=>(mv h h' x,E0 h h' k)::sw h h' r
theorem OS {h h':Nat}{fr:List (Nat×G)}{t:Nat}{g:G}(hg:get (xh h h' fr) t=some g):∃g0,get fr t=some g0∧g=mL h h' g0:=by
 induction fr with
 | nil=>cases hg
 | cons x r ih=>
  obtain⟨k,g'⟩:=x
  simp only[xh,gH] at hg⊢
  cases hb:Nat.beq k t with
  | true=>rw[hb] at hg;cases hg;exact⟨g',rfl,rfl⟩
  | false=>rw[hb] at hg;exact ih hg
theorem Mk {h h':Nat}(hne:h'≠h){st:List (Nat×ap)}{y:Nat}{k2:ap}(hn:aq st h'=none) (hg:aq (sw h h' st) y=some k2):
  (y=h'∧∃k,aq st h=some k∧k2=E0 h h' k)∨(y≠h'∧y≠h∧∃k,aq st y=some k∧k2=E0 h h' k):=by
 induction st with
 | nil=>cases hg
 | cons x r ih=>
  obtain⟨z,k⟩:=x
  have hz:z≠h':=fun e=>by subst e;rw[dv] at hn;cases hn
  rw[aD _ _ (Ne.symm hz)] at hn
  simp only[sw,ig] at hg
  cases hb:Nat.beq (mv h h' z) y with
  | true=>
   rw[hb] at hg
   cases hg
   have hb:=aa hb
   by_cases e:z=h
   ·subst e
    rw[tB] at hb
    exact .inl ⟨hb.symm,k,dv _ _ _,rfl⟩
   ·rw[iH e] at hb
    subst hb
    exact .inr ⟨hz,e,k,dv _ _ _,rfl⟩
  | false=>
   rw[hb] at hg
   have hbz:mv h h' z≠y:=fun e=>by rw[e,aI] at hb;cases hb
   rcases ih hn hg with ⟨e,k',h1,h2⟩ | ⟨e1,e2,k',h1,h2⟩
   ·refine .inl ⟨e,k',?_,h2⟩
    rw[aD _ _ (fun e'=>by subst e';rw[tB] at hbz;exact hbz e.symm)]
    exact h1
   ·refine .inr ⟨e1,e2,k',?_,h2⟩
    rw[aD _ _ (fun e'=>by subst e';rw[iH e2] at hbz;exact hbz rfl)]
    exact h1
theorem xg {O:Nat→Prop}{base:Nat}{w:World}{μ μ':Mu}{h h':Nat}{g:G}{v:Value}(hv:aY O base w μ g v) (h1:μ' h'=μ h) (h2:∀y,y≠h→g.b9 y=true→μ' y=μ y):aY O base w μ' (mL h h' g) v:=by
 have key:∀{y:Nat}{x:Option (Nat×Mm)},μ y=x→(y≠h→μ' y=μ y)→μ' (mv h h' y)=x:=by
  intro y x hm hy
  by_cases e:y=h
  ·subst e;rw[tB,h1];exact hm
  ·rw[iH e,hy e];exact hm
 have aH:∀{g:G}{v:Value},bG O w g v→aY O base w μ' (mL h h' g) v:=by
  intro g v hi
  induction hi with
  | any v=>exact .aH (.any v)
  | val v=>exact .aH (.val v)
  | nil=>exact .aH .nil
  | gQ a c=>exact .aH (.gQ a c)
  | sl n cells b off cap us h1 h2 h3 h4 h5 ih=>exact .aH (.sl n cells b off cap us h1 h2 h3 h4 h5)
  | ptr cells b off us h1 h2 h3 h4 ih=>exact .aH (.ptr cells b off us h1 h2 h3 h4)
  | agg cells us hl hr ih=>
   refine .agg _ us (by rw[mb.1];exact hl) fun j g v hg hv=>?_
   obtain⟨g0,e1,rfl⟩:=mb.2 j g hg
   exact ih j g0 v e1 hv
 induction hv with
 | aH h=>exact aH h
 | fr h=>exact .fr h
 | loc x off b m hm=>exact .loc _ off b m (key hm fun e=>h2 x e (by simp[G.b9,aI]))
 | eQ x sz hm=>exact .eQ _ sz (key hm fun e=>h2 x e (by simp[G.b9,aI]))
 | aR x sz off n b m cap hm hn hc=>exact .aR _ sz off n b m cap (key hm fun e=>h2 x e (by simp[G.b9,aI])) hn hc
 | dJ x sz off0 b m hm hp=>exact .dJ _ sz off0 b m (key hm fun e=>h2 x e (by simp[G.b9,aI])) hp
 | ct x b m hm=>exact .ct _ b m (key hm fun e=>h2 x e (by simp[G.b9,aI]))
 | dV x b m hm=>exact .dV _ b m (key hm fun e=>h2 x e (by simp[G.b9,aI]))
 | kp x i off b m c n hm hk=>exact .kp _ i off b m c n (key hm fun e=>h2 x e (by simp[G.b9,aI])) hk
 | g9 x i sz a cap hb=>exact .g9 _ i sz a cap hb
 | ks x i sz n b m c k cap hm hk hn hc=>exact .ks _ i sz n b m c k cap (key hm fun e=>h2 x e (by simp[G.b9,aI])) hk hn hc
 | agg cells us hl hr ih=>
  refine .agg _ us (by rw[mb.1];exact hl) fun j g v hg hv=>?_
  obtain⟨g0,e1,rfl⟩:=mb.2 j g hg
  exact ih j g0 v e1 hv fun y hy hh=>h2 y hy (by simp only[G.b9];exact G.pw (ar e1) hh)
 | bl cells us hl hr ih=>
  refine .bl _ us (by rw[mb.1];exact hl) fun j g v hg hv=>?_
  obtain⟨g0,e1,rfl⟩:=mb.2 j g hg
  exact ih j g0 v e1 hv fun y hy hh=>h2 y hy (by simp only[G.b9];exact G.pw (ar e1) hh)
 | aF f cells us hl hr ih=>
  refine .aF f _ us (by rw[mb.1];exact hl) fun j g v hg hv=>?_
  obtain⟨g0,e1,rfl⟩:=mb.2 j g hg
  exact ih j g0 v e1 hv fun y hy hh=>h2 y hy (by simp only[G.b9];exact G.pw (ar e1) hh)
theorem aQ.move {O:Nat→Prop}{base:Nat}{w:World}{μ μ':Mu}{k:ap}{x:Option (Nat×Mm)}{h h':Nat}(hb:aQ O base w μ k x) (h1:μ' h'=μ h) (h2:k.pure=false→∀g∈k.cells,∀y,y≠h→g.b9 y=true→μ' y=μ y):aQ O base w μ' (E0 h h' k) x:=by
 unfold E0
 cases hp:k.pure with
 | true=>exact hb.fH fun hp'=>by rw[hp] at hp';cases hp'
 | false=>
  have h2:=h2 hp
  simp only[cond_false]
  cases x with
  | none=>
   obtain⟨e1,e2⟩:=hb
   refine⟨bp (by simp only;rw[mb.1,e1];rfl),?_⟩
   dsimp only
   split at e2
   ·trivial
   ·exact e2.elim
   ·rw[hp] at e2;cases e2.2
  | some bm=>
   obtain⟨b,m⟩:=bm
   cases hl:k.lp with
   | none=>
    obtain⟨cs1,h4,h5,h6,h7,h8,h9⟩:=hb.cells hl
    refine .mk rfl (hb.kn hl) ⟨cs1,h4,h5,by simp only;rw[mb.1];exact h6,h7,h8,fun j g hg=>?_⟩
    obtain⟨g0,e1,rfl⟩:=mb.2 j g hg
    obtain⟨v,hv,hrv⟩:=h9 j g0 e1
    refine⟨v,hv,?_⟩
    unfold cz at hrv⊢
    rw[hp] at hrv
    simp only
    exact xg hrv h1 (h2 g0 (ar e1))
   | some kd=>
    cases kd with
    | deep d=>have:=((aQ.deep hl).1 hb).2.1;rw[hp] at this;cases this
    | loop lp=>
     obtain⟨D,vs,q1,q2,q3,q4,q5⟩:=(aQ.loop hl).1 hb
     refine(aQ.loop rfl).2 ⟨D,vs,q1,q2,q3,rfl,fun j t g ht hg=>?_⟩
     obtain⟨g0,e1,rfl⟩:=mb.2 j g hg
     obtain⟨v,hv,hrv⟩:=q5 j t g0 ht e1
     exact⟨v,hv,xg hrv h1 (h2 g0 (ar e1))⟩
theorem Oq (h h':Nat) (k:ap):(E0 h h' k).cw=k.cw:=by unfold E0;cases k.pure <;> rfl
section
variable {P:Program}{N:Nat}{cx:Cx}{s:St}{Q:Exit→St→Prop}
theorem Rel.move {μ : Mu} {a : Act} {w : World} (hr : Rel N cx μ s a w) (h h' : Nat) (hf : fresh s h' = true) (hne : Nat.beq h' h = false) :
    Rel N cx (fV μ h' (μ h)) { fr := xh h h' s.fr, st := sw h h' s.st, df := mL.go h h' s.df } a w := by
  have hne : h' ≠ h := fun e => by subst e; rw [aI] at hne; cases hne
  obtain ⟨f1, f2, f3, f4, f5⟩ := fc hf
  have other : ∀ {y}, y ≠ h' → fV μ h' (μ h) y = μ y := fun e => aT e
  have row := fun (y : Nat) (k2 : ap) (e : aq (sw h h' s.st) y = some k2) => Mk hne f1 e
  have yj : ∀ y k2, aq (sw h h' s.st) y = some k2 → ∃ x k, aq s.st x = some k ∧ k2 = E0 h h' k ∧ fV μ h' (μ h) y = μ x ∧ y = mv h h' x := by
    intro y k2 e
    rcases row y k2 e with ⟨rfl, k, e1, e2⟩ | ⟨e0, e1, k, e2, e3⟩
    · exact ⟨h, k, e1, e2, bz _ _ _, (tB _ _).symm⟩
    · exact ⟨y, k, e2, e3, other e0, (iH e1).symm⟩
  have hO : ∀ b, ¬ cx.O s.st μ b → ¬ cx.O (sw h h' s.st) (fV μ h' (μ h)) b := by
    rintro b hn (ho | ⟨y, k2, c, m, e1, e2, hi⟩)
    · exact hn (.inl ho)
    · obtain ⟨x, k, q1, _, q3, _⟩ := yj y k2 e1
      rw [q3] at e2
      exact hn (.inr ⟨x, k, c, m, q1, e2, hi⟩)
  refine { st := { dc := ?_, cE := ?_, bU := ?_, ei := ?_, eg := hr.st.eg, hb := hr.st.hb, os := hr.st.os, tape := hr.st.tape, output := hr.st.output, da := hr.st.da }, nd := ?_, sz := hr.sz, fr := ?_ }
  · intro y k2 e
    obtain ⟨x, k, q1, rfl, q3, _⟩ := yj y k2 e
    rw [q3]
    exact ((hr.st.dc x k q1).mono (fun _ _ _ _ _ => rfl) (Kept.refl _ _) fun b _ => hO b).move (bz _ _ _) fun hp g hg y _ hh => other fun e => by subst e; rw [qE f3 q1 hp hg] at hh; cases hh
  · intro y y' k2 k2' z b m b' m' e1 e2 e3 e4 hi hi'
    obtain ⟨x, k, q1, _, q3, q4⟩ := yj y k2 e1
    obtain ⟨x', k', q1', _, q3', q4'⟩ := yj y' k2' e2
    rw [q3] at e3
    rw [q3'] at e4
    rw [q4, q4', hr.st.cE x x' k k' z b m b' m' q1 q1' e3 e4 hi hi']
  · intro y k2 b m z e1 e2 hi
    obtain ⟨x, k, q1, rfl, q3, _⟩ := yj y k2 e1
    rw [q3] at e2
    obtain ⟨a1, a2, a3, a4⟩ := hr.st.bU x k b m z q1 e2 hi
    exact ⟨a1, a2, a3, fun hm => a4 (by rw [Oq] at hm; exact hm)⟩
  · intro y k2 e hp
    rcases row y k2 e with ⟨rfl, _⟩ | ⟨e0, e1, k, e2, _⟩
    · rw [gW f5] at hp; cases hp
    · rw [other e0]; exact hr.st.ei y k e2 hp
  · have cR := hr.nd.mono (Kept.refl _ _) fun b _ => hO b
    clear hO yj row
    generalize s.df = gs at cR f4
    generalize a.defers = ds at cR
    induction cR with
    | nil => exact .nil
    | mark h1 h2 h3 h4 h5 h6 ih => exact .mark h1 h2 h3 h4 h5 (ih f4)
    | aF h1 h2 ih =>
      simp only [qe, aj, a8] at f4
      exact .aF (xg h1 (bz _ _ _) fun y _ hh => other fun e => by subst e; rw [f4.1] at hh; cases hh) (ih f4.2)
  · intro t g hg
    obtain ⟨g0, e1, rfl⟩ := OS hg
    obtain ⟨v, hv, hrv⟩ := hr.fr t g0 e1
    exact ⟨v, hv, xg (hrv.mono (Kept.refl _ _) (fun b _ => hO b) (az _)) (bz _ _ _) fun y _ hh => other fun e => by subst e; rw [kQ f2 e1] at hh; cases hh⟩
theorem GW.move {c:Code}(h h':Nat) (hf:fresh s h'=true) (hne:Nat.beq h' h=false) (k:GW P N cx c Q {fr:=xh h h' s.fr,st:=sw h h' s.st,df:=mL.go h h' s.df}):GW P N cx c Q s:=fun _ a w hr=>k _ a w (hr.move h h' hf hne)
theorem GL.move {ops:Array Oper}{rest:List Oper}(h h':Nat) (hf:fresh s h'=true) (hne:Nat.beq h' h=false) (k:GL P N cx ops Q rest {fr:=xh h h' s.fr,st:=sw h h' s.st,df:=mL.go h h' s.df}):GL P N cx ops Q rest s:=fun _ a w hr=>k _ a w (hr.move h h' hf hne)
end
end Go.AM
/-
 AM,part BD:loops dm functions:their rounds,the calls of yield,the loop itself.
-/
namespace Go.AM
theorem cO.ro {cx:Cx}{μ:Mu}{st:List (Nat×ap)}{w:World}(h:cO cx μ st w) (r:Option Nat):cO {cx with ro:=r} μ st w:=
 {dc:=h.dc,cE:=h.cE,bU:=h.bU,ei:=h.ei,eg:=h.eg,hb:=h.hb,os:=h.os,tape:=h.tape,output:=h.output,da:=h.da}
def oe:List Nat→List G→List (Nat×G)
 | t::ts,g::gs=>(t,g)::oe ts gs
 | _,_=>[]
theorem BN:∀{ts:List Nat}{gs:List G}{t:Nat}{g:G},get (oe ts gs) t=some g→∃j:Nat,ts[j]?=some t∧gs[j]?=some g
 | [],_,_,_,h=>by cases h
 | _::_,[],_,_,h=>by cases h
 | x::ts,y::gs,t,g,h=>by
  simp only[oe,gH] at h
  cases hb:Nat.beq x t with
  | true=>rw[hb] at h;cases h;have:=aa hb;subst this;exact⟨0,rfl,rfl⟩
  | false=>
   rw[hb] at h
   obtain⟨j,h1,h2⟩:=BN h
   exact⟨j+1,h1,h2⟩
theorem get_append {a b:List (Nat×G)}{t:Nat}:get (a++b) t=(get a t).or (get b t):=by
 induction a with
 | nil=>rfl
 | cons x r ih=>
  obtain⟨y,k⟩:=x
  simp only[bx,get]
  cases Nat.beq y t with
  | true=>rfl
  | false=>exact ih
def NN (Q:Option Code→List (Nat×ap)→Prop):Exit→St→Prop:=fun e s=>s.df=[]∧∃st',kr s.st st'∧match e with
 | .normal=>Q none st'
 | .ret=>Q (some .ret) st'
 | .exit id=>Q (some (.exit id)) st'
 | _=>False
def GY (P : Program) (lp : Lp) (cells args : List G) (st : List (Nat × ap)) (Q : Option Code → List (Nat × ap) → Prop) : Prop :=
 ∀ cx, GW P lp.N cx lp.assign (fun e s => e = .normal ∧ ∀ cx', GW P lp.N cx' lp.body (NN Q) s) { fr := oe lp.ps.toList args ++ oe lp.aA cells, st := st, df := [] }
theorem GY.of {P : Program} {lp : Lp} {cells args : List G} {st : List (Nat × ap)} {Q : Option Code → List (Nat × ap) → Prop} {ly body : Code} (ha : lp.assign = ly) (hb : lp.body = body)
  (h : ∀ cx, GW P lp.N cx ly (fun e s => e = .normal ∧ ∀ cx', GW P lp.N cx' body (NN Q) s) { fr := oe lp.ps.toList args ++ oe lp.aA cells, st := st, df := [] }) : GY P lp cells args st Q := by
 unfold GY; rw [ha, hb]; exact h
section
variable {P:Program}{N:Nat}{cx:Cx}{s:St}
theorem foldl_set (ps:List Nat) (vs:List Value) (tm:Array Value) (t:Nat):((ps.zip vs).foldl (fun (tm:Array Value) (x:Nat×Value)=>tm.setIfInBounds x.1 x.2) tm).size=tm.size∧
  (t∉ps→((ps.zip vs).foldl (fun (tm:Array Value) (x:Nat×Value)=>tm.setIfInBounds x.1 x.2) tm)[t]?=tm[t]?):=by
 induction ps generalizing vs tm with
 | nil=>exact⟨rfl,fun _=>rfl⟩
 | cons p r ih=>
  cases vs with
  | nil=>exact⟨rfl,fun _=>rfl⟩
  | cons v vs=>
   simp only[List.zip_cons_cons,jD]
   obtain⟨h1,h2⟩:=ih vs (tm.setIfInBounds p v)
   refine⟨h1.trans (by simp),fun hn=>?_⟩
   rw[aZ,not_or] at hn
   rw[h2 hn.2,dz (Ne.symm hn.1)]
theorem yp:∀(ps:List Nat) (vs:List Value) (tm:Array Value) (j t:Nat) (v:Value),ps.Nodup→ps[j]?=some t→vs[j]?=some v→t<tm.size→
  ((ps.zip vs).foldl (fun (tm:Array Value) (x:Nat×Value)=>tm.setIfInBounds x.1 x.2) tm)[t]?=some v
 | [],_,_,_,_,_,_,h,_,_=>by cases h
 | _::_,[],_,_,_,_,_,_,h,_=>by cases h
 | p::r,u::vs,tm,j,t,v,hn,h1,h2,hl=>by
  simp only[List.zip_cons_cons,jD]
  cases j with
  | zero=>
   cases h1;cases h2
   rw[(foldl_set r vs _ _).2 (List.nodup_cons.1 hn).1,dF hl]
  | succ j=>exact yp r vs _ j t v (List.nodup_cons.1 hn).2 h1 h2 (by simpa using hl)
theorem Rel.HH {μ:Mu}{a:Act}{w:World}(hr:Rel N cx μ s a w){h:Nat}{k:ap}{lp:Lp}(hk:aq s.st h=some k) (hlp:k.lp=some (.loop lp)):
  ∃l m,μ h=some (l,m)∧Av (cx.O s.st μ) cx.base w μ k lp l:=by
 have hb:=hr.st.dc h k hk
 cases hm:μ h with
 | none=>rw[hm] at hb;have:=hb.2;rw[hlp] at this;exact this.elim
 | some bm=>
  obtain⟨l,m⟩:=bm
  rw[hm] at hb
  exact⟨l,m,rfl,(aQ.loop hlp).1 hb⟩
theorem Av.shut {O Z:Nat→Prop}{base:Nat}{w w':World}{μ:Mu}{k k':ap}{lp lp':Lp}{l:Nat}(hr:Av O base w μ k lp l) (h:gR Z w w') (hl:∀(D:Nat×FuncId) vs,w.heap[l]?=some (.loop {state:=if lp.iR.isNone then .ready else .done,pending:=lp.iR,fn:=D.2,tmps:=vs,params:=lp.ps,assign:=lp.assign,body:=lp.body,defers:=D.1})→
   w'.heap[l]?=some (.loop {state:=if lp'.iR.isNone then .ready else .done,pending:=lp'.iR,fn:=D.2,tmps:=vs,params:=lp'.ps,assign:=lp'.assign,body:=lp'.body,defers:=D.1})) (e1:lp'.N=lp.N) (e2:lp'.aA=lp.aA) (e3:k'.cells=k.cells) (e4:k'.cw=k.cw) (e5:k'.pure=k.pure):Av O base w' μ k' lp' l:=by
 obtain⟨D,vs,h1,h2,h3,h4,h5⟩:=hr
 refine⟨D,vs,hl D vs h1,h2.trans e1.symm,e4.trans h3,e5.trans h4,fun j t g ht hg=>?_⟩
 rw[e2] at ht
 rw[e3] at hg
 obtain⟨v,hv,hrv⟩:=h5 j t g ht hg
 exact⟨v,hv,hrv.shut h⟩
theorem Rel.Qe {μ:Mu}{a:Act}{w:World}(hr:Rel N cx μ s a w){h l:Nat}{m:Mm}{k:ap}{lp:Lp}(hk:aq s.st h=some k) (hlp:k.lp=some (.loop lp)) (hm:μ h=some (l,m)) (j:Option Code){D:Nat×FuncId}{vs:Array Value}
  (hD:w.heap[l]?=some (.loop {state:=if lp.iR.isNone then .ready else .done,pending:=lp.iR,fn:=D.2,tmps:=vs,params:=lp.ps,assign:=lp.assign,body:=lp.body,defers:=D.1})):
  Rel N cx μ {s with st:=bD s.st h {k with lp:=some (.loop {lp with iR:=j})}} a (w.putObj l (.loop {state:=if j.isNone then .ready else .done,pending:=j,fn:=D.2,tmps:=vs,params:=lp.ps,assign:=lp.assign,body:=lp.body,defers:=D.1})):=by
 have hs:gR (fun b=>b=l) w (w.putObj l (.loop {state:=if j.isNone then .ready else .done,pending:=j,fn:=D.2,tmps:=vs,params:=lp.ps,assign:=lp.assign,body:=lp.body,defers:=D.1})):=gR.put _ rfl hD rfl
 have hll:l<w.heap.size:=dt hD
 have hOO:∀b,cx.O (bD s.st h {k with lp:=some (.loop {lp with iR:=j})}) μ b↔cx.O s.st μ b:=fun b=>or_congr Iff.rfl (Own.bD hk)
 have hO:∀b,¬cx.O s.st μ b→¬cx.O (bD s.st h {k with lp:=some (.loop {lp with iR:=j})}) μ b:=fun b hn ho=>hn ((hOO b).1 ho)
 have J9:∀x k1,aq (bD s.st h {k with lp:=some (.loop {lp with iR:=j})}) x=some k1→∃k0,aq s.st x=some k0:=fun x k1 h1=>by
  rcases cI hk h1 with ⟨rfl,rfl⟩ | ⟨_,h1⟩
  ·exact⟨k,hk⟩
  ·exact⟨_,h1⟩
 refine {st:={dc:=?_,cE:=?_,bU:=?_,ei:=?_,eg:=hr.st.eg,hb:=by rw[hs.size];exact hr.st.hb,os:=hr.st.os,tape:=hr.st.tape,output:=hr.st.output,da:=?_},nd:=?_,sz:=hr.sz,fr:=?_}
 ·intro x k1 h1
  rcases cI hk h1 with ⟨rfl,rfl⟩ | ⟨hne,h1⟩
  ·rw[hm]
   have hb:=hr.st.dc x k hk
   rw[hm] at hb
   have hb:=(aQ.loop hlp).1 hb
   refine(aQ.loop rfl).2 ?_
   refine(hb.shut (Z:=fun b=>b=l) (w:=w) (k':=k) (lp':={lp with iR:=j}) hs (fun D' vs' h'=>?_) rfl rfl rfl rfl rfl).imp fun D' hx=>hx.imp fun vs' hx=>⟨hx.1,hx.2.1,hx.2.2.1,hx.2.2.2.1,fun j' t g ht hg=>let ⟨v,hv,hrv⟩:=hx.2.2.2.2 j' t g ht hg;⟨v,hv,hrv.mono (Kept.refl _ _) (fun b _=>hO b) (az _)⟩⟩
   rw[hD] at h'
   obtain⟨_,_⟩:=D
   obtain⟨_,_⟩:=D'
   cases h'
   rw[World.putObj_heap_same hll]
  ·exact((hr.st.dc x k1 h1).shut hs fun b m' hmx _ y hy hb=>hne (hr.st.cE x h k1 k y b m' l m h1 hk hmx hm hy (.inl hb))).mono (fun _ _ _ _ _=>rfl) (Kept.refl _ _) (fun b _=>hO b)
 ·intro x x' k1 k2 y b m1 b2 m2 h1 h2
  obtain⟨k1',h1'⟩:=J9 x k1 h1
  obtain⟨k2',h2'⟩:=J9 x' k2 h2
  exact hr.st.cE x x' k1' k2' y b m1 b2 m2 h1' h2'
 ·intro x k1 b m1 y h1 h2 hi
  rw[hs.size]
  rcases cI hk h1 with ⟨rfl,rfl⟩ | ⟨_,h1⟩
  ·exact hr.st.bU x k b m1 y hk h2 hi
  ·exact hr.st.bU x k1 b m1 y h1 h2 hi
 ·intro x k1 h1 h2
  obtain⟨k1',h1'⟩:=J9 x k1 h1
  exact hr.st.ei x k1' h1' h2
 ·intro b hb hA
  have hne:b≠l:=fun e=>by
   subst e
   rcases(hr.st.out h k b m hk hm).2 with h1 | h1
   ·omega
   ·exact hA h1
  rw[World.putObj_heap_other hne]
  exact hr.st.da b hb hA
 ·refine(gL.shut hr.nd hs fun d hd D' e hz=>?_).mono (Kept.refl _ _) (fun b _=>hO b)
  subst hz
  have key:∀{ds:List Deferred}{gs:List G},gL (cx.O s.st μ) cx.base w μ ds gs→d∈ds→∃x,w.heap[D']?=some (.deferred x):=by
   intro ds gs hdf
   induction hdf with
   | nil=>intro h;cases h
   | mark _ _ _ h4 _ _ ih=>
    intro hd
    rcases aZ.1 hd with rfl | hd
    ·cases e;exact⟨_,h4⟩
    ·exact ih hd
   | aF _ _ ih=>
    intro hd
    rcases aZ.1 hd with rfl | hd
    ·cases e
    ·exact ih hd
  obtain⟨x,hx⟩:=key hr.nd hd
  rw[hD] at hx;cases hx
 ·intro t g hg
  obtain⟨v,hv,hrv⟩:=hr.fr t g hg
  exact⟨v,hv,(hrv.shut hs).mono (Kept.refl _ _) (fun b _=>hO b) (az _)⟩
theorem Hb (w:World) (l:Nat) (o o':Obj):(w.putObj l o).putObj l o'=w.putObj l o':=by
 simp[World.putObj]
variable {ty:TypeId}{pos:String}{after:Array Edge}{guard:Option (Nat×Bool)}{d:Nat}{ops:Array Oper}{rest:List Oper}{R:Exit→St→Prop}
theorem KO {μ : Mu} {a : Act} {w : World} {vs : List Value} {gs gs' cells' : List G} {stC : List (Nat × ap)} {Q : Option Code → List (Nat × ap) → Prop} {h l : Nat} {m : Mm} {k : ap} {lp : Lp} (hr : Rel N cx μ s a w) (hk : aq s.st h = some k) (hlp : k.lp = some (.loop lp)) (hpend : lp.iR = none) (hm : μ h = some (l, m))
  (H : List Nat) (hh : dx H h = none) (hv : cj.go H [] gs = some gs') (hc : cj.go H [] k.cells = some cells') (hl : fF H [] s.st H 0 = some stC) (cR : n4 H = true) (hps : gs'.length = lp.ps.size) (hpn : n4 lp.ps.toList = true) (hpl : lp.ps.toList.all (Nat.blt · lp.N) = true)
  (hvs : vs.length = gs.length) (hrep : ∀ (j : Nat) (g : G) (v : Value), gs[j]? = some g → vs[j]? = some v → aY (cx.O s.st μ) cx.base w μ g v) (hcon : GY P lp cells' gs' stC Q)
  {T : Ending → World → Prop} (hT : ∀ j st' μ'' w3, Q j st' → cO (jz (jd cx s.st μ H false) stC (jk H μ) w) μ'' st' w3 → ∀ (D : Nat × FuncId) tm, w3.heap[l]? = some (.loop { state := .ready, pending := none, fn := D.2, tmps := tm, params := lp.ps, assign := lp.assign, body := lp.body, defers := D.1 }) →
   T (.returned (.bool j.isNone)) (w3.putObj l (.loop { state := if j.isNone then .ready else .done, pending := j, fn := D.2, tmps := tm, params := lp.ps, assign := lp.assign, body := lp.body, defers := D.1 }))) :
  ∃ (tm0 : Array Value) (D : Nat × FuncId), w.heap[l]? = some (.loop { state := .ready, pending := none, fn := D.2, tmps := tm0, params := lp.ps, assign := lp.assign, body := lp.body, defers := D.1 }) ∧
   RoundIn (FF cx.ro) 0 P l D.2 ((lp.ps.zip vs.toArray).foldl (fun tmps (t, a) => tmps.setIfInBounds t a) tm0) lp.assign lp.body w T := by
 obtain ⟨l', m', hm', D, tm0, q1, q2, q3, q4, q5⟩ := hr.HH hk hlp
 rw [hm] at hm'
 cases hm'
 simp only [hpend, Option.isNone_none, if_true] at q1
 refine ⟨tm0, D, q1, ?_⟩
 have hll := dt q1
 have hls : fF H (ez s.st H false) s.st H 0 = some stC := hl
 have hrel := HL hr.st hls (lQ cR)
 have hlX : jd cx s.st μ H false l := .inr ⟨rfl, ⟨h, k, l, m, xc hh hk, hm, .self _ _⟩⟩
 have hlA : ¬ Own stC (jk H μ) l := fun ho => by
  obtain ⟨i, h', k', c', m', e1, e2, e3, e4⟩ := jF hls ho
  exact qP hr.st e1 e2 e3 e4 hh hk hm (.self _ _)
 generalize htm : (lp.ps.zip vs.toArray).foldl (fun tmps (t, a) => tmps.setIfInBounds t a) tm0 = tm
 have htm' : (lp.ps.toList.zip vs).foldl (fun (tm : Array Value) (x : Nat × Value) => tm.setIfInBounds x.1 x.2) tm0 = tm := by
  rw [← htm, ← Array.foldl_toList, Array.toList_zip]
 obtain ⟨v1, v2⟩ := lS hv
 obtain ⟨c1, c2⟩ := lS hc
 have hstart : Rel lp.N { jz (jd cx s.st μ H false) stC (jk H μ) w with ro := some l } (jk H μ) { fr := oe lp.ps.toList gs' ++ oe lp.aA cells', st := stC, df := [] } { tmps := tm, defers := [] } w := by
  refine { st := hrel.ro _, nd := .nil, sz := by rw [← htm']; exact (foldl_set _ _ _ 0).1.trans q2, fr := fun t g hg => ?_ }
  rw [get_append] at hg
  have hslot : ∀ t, t ∈ lp.ps.toList → t < tm0.size := fun t ht => by
   have := dM.1 hpl t ht
   rw [q2]; simpa [fW] using this
  cases hz : get (oe lp.ps.toList gs') t with
  | some g1 =>
   rw [hz] at hg
   cases hg
   obtain ⟨j, e1, e2⟩ := BN hz
   obtain ⟨g0, e3, e4⟩ := v2 j _ e2
   have hj : j < vs.length := by have := (al.1 e3).1; omega
   refine ⟨vs[j], ?_, pY hr.st hls (hrep j g0 _ e3 (ag hj)) e4⟩
   rw [← htm']
   exact yp _ _ _ j t _ (lQ hpn) e1 (ag hj) (hslot t (ar e1))
  | none =>
   rw [hz, Option.none_or] at hg
   obtain ⟨j, e1, e2⟩ := BN hg
   obtain ⟨g0, e3, e4⟩ := c2 j _ e2
   obtain ⟨v, hv0, hrv⟩ := q5 j t g0 e1 e3
   refine ⟨v, ?_, pY hr.st hls hrv e4⟩
   have hnot : t ∉ lp.ps.toList := fun ht => by
    obtain ⟨i, hi, rfl⟩ := List.getElem_of_mem ht
    have hlen : i < gs'.length := by rw [hps]; simpa using hi
    have key : ∀ (ts : List Nat) (gs : List G) (i : Nat) (hi : i < ts.length), i < gs.length → get (oe ts gs) ts[i] ≠ none := by
     intro ts
     induction ts with
     | nil => intro gs i hi; cases hi
     | cons x r ih =>
      intro gs i hi hg
      cases gs with
      | nil => cases hg
      | cons y ys =>
       simp only [oe, gH]
       cases i with
       | zero => simp [aI]
       | succ i =>
        simp only [List.getElem_cons_succ]
        cases Nat.beq x (r[i]'(by simpa using hi)) with
        | true => simp
        | false => exact ih ys i (by simpa using hi) (by simpa using hg)
    exact key _ _ i hi hlen hz
   rw [← htm', (foldl_set _ _ _ t).2 hnot]
   exact hv0
 refine roundIn_of_wpIn trivial ?_
 have hA := hcon { jz (jd cx s.st μ H false) stC (jk H μ) w with ro := some l } (jk H μ) { tmps := tm, defers := [] } w hstart
 refine wpIn_mono (show lp.assign.wpIn ((FF cx.ro).inRound l) 0 P _ _ _ from hA) fun e a1 w1 hq => ?_
 have hnorm : e = .normal := by
  cases e with
  | normal => rfl
  | outgrown => exact hq.elim
  | panic c => obtain ⟨_, _, _, hq, _⟩ := hq; cases hq
  | _ => obtain ⟨_, _, _, hq, _⟩ := hq; exact hq
 subst hnorm
 obtain ⟨μ1, s1, hr1, _, hB⟩ := hq
 have hw1 : w1.heap[l]? = some (.loop { state := .ready, pending := none, fn := D.2, tmps := tm0, params := lp.ps, assign := lp.assign, body := lp.body, defers := D.1 }) := (hr1.st.da l hll hlA).trans q1
 refine ⟨_, run_beginRound hw1 rfl, ?_⟩
 generalize hbusy : (({ state := .busy, pending := none, fn := D.2, tmps := tm0, params := lp.ps, assign := lp.assign, body := lp.body, defers := D.1 } : Loop)) = busy
 have hs1 : gR (fun b => b = l) w1 (w1.putObj l (.loop busy)) := gR.put _ rfl hw1 rfl
 have hl1 := dt hw1
 have hr2 : Rel lp.N { ({ jz (jd cx s.st μ H false) stC (jk H μ) w with ro := some l } : Cx) with w0 := w.putObj l (.loop busy) } μ1 s1 a1 (w1.putObj l (.loop busy)) := by
  have hst2 := hr1.st.shut (w0 := w.putObj l (.loop busy)) hs1 (fun x k1 b m1 h1 h2 _ y hy hz => (hr1.st.bU x k1 b m1 y h1 h2 hy).1 (by rw [hz]; exact hlX)) ⟨rfl, rfl, rfl⟩ fun b hb hnA => by
   by_cases e : b = l
   · subst e; rw [World.putObj_heap_same hl1, World.putObj_heap_same hll]
   · rw [World.putObj_heap_other e, World.putObj_heap_other e]; exact hr1.st.da b hb hnA
  refine { st := hst2, nd := ?_, sz := hr1.sz, fr := fun t g hg => let ⟨v, hv, hrv⟩ := hr1.fr t g hg; ⟨v, hv, hrv.shut hs1⟩ }
  refine gL.shut hr1.nd hs1 fun d hd D' e hz => ?_
  subst hz
  have key : ∀ {ds : List Deferred} {gs : List G} {O : Nat → Prop} {base : Nat}, gL O base w1 μ1 ds gs → d ∈ ds → ∃ x, w1.heap[D']? = some (.deferred x) := by
   intro ds gs O base hdf
   induction hdf with
   | nil => intro h; cases h
   | mark _ _ _ h4 _ _ ih =>
    intro hd
    rcases aZ.1 hd with rfl | hd
    · cases e; exact ⟨_, h4⟩
    · exact ih hd
   | aF _ _ ih =>
    intro hd
    rcases aZ.1 hd with rfl | hd
    · cases e
    · exact ih hd
  obtain ⟨x, hx⟩ := key hr1.nd hd
  rw [hw1] at hx; cases hx
 refine wpIn_mono (show lp.body.wpIn ((FF cx.ro).inRound l) 0 P _ _ _ from hB _ μ1 a1 _ hr2) fun e a3 w3 hq => ?_
 have fin : ∀ (μ3 : Mu) (s3 : St) (j : Option Code), cO { ({ jz (jd cx s.st μ H false) stC (jk H μ) w with ro := some l } : Cx) with w0 := w.putObj l (.loop busy) } μ3 s3.st w3 → (∃ st', kr s3.st st' ∧ Q j st') →
   ∃ v w', (Instr.endRound l j).run P w3 = .ok v w' ∧ T (.returned v) w' := by
  rintro μ3 s3 j hr3 ⟨st', hsub, hQ⟩
  have hw3 : w3.heap[l]? = some (.loop busy) := (hr3.da l hll hlA).trans (World.putObj_heap_same hll)
  have hl3 := dt hw3
  refine ⟨_, _, run_endRound j hw3, ?_⟩
  have hr3 := hr3.sub hsub
  have hs3 : gR (fun b => b = l) w3 (w3.putObj l (.loop { state := .ready, pending := none, fn := D.2, tmps := tm0, params := lp.ps, assign := lp.assign, body := lp.body, defers := D.1 })) := gR.put _ rfl hw3 rfl
  have hr4 := (hr3.shut (w0 := w) hs3 (fun x k1 b m1 h1 h2 _ y hy hz => (hr3.bU x k1 b m1 y h1 h2 hy).1 (by rw [hz]; exact hlX)) ⟨rfl, rfl, rfl⟩ fun b hb hnA => by
   by_cases e : b = l
   · subst e; rw [World.putObj_heap_same hl3]; exact q1.symm
   · rw [World.putObj_heap_other e, hr3.da b hb hnA]; exact World.putObj_heap_other e).ro none
  have := hT j st' μ3 _ hQ hr4 D tm0 (World.putObj_heap_same hl3)
  rw [Hb] at this
  rw [← hbusy]
  exact this
 cases e with
 | normal => obtain ⟨μ3, s3, hr3, _, hq⟩ := hq; exact fin μ3 s3 none hr3.st hq
 | ret => obtain ⟨μ3, s3, hr3, _, hq⟩ := hq; exact fin μ3 s3 (some .ret) hr3.st hq
 | exit id => obtain ⟨μ3, s3, hr3, _, hq⟩ := hq; exact fin μ3 s3 (some (.exit id)) hr3.st hq
 | goto t => obtain ⟨_, _, _, _, _, _, hq⟩ := hq; exact hq.elim
 | panic c => obtain ⟨_, _, _, _, _, _, hq⟩ := hq; exact hq.elim
 | outgrown => exact hq.elim
theorem GL.ct {x:Operand}{xs:Array Operand}{ts:Array TypeId}{gs gs' cells':List G}{stC:List (Nat×ap)}{Q:Option Code→List (Nat×ap)→Prop}{h:Nat}{k:ap}{lp:Lp}(H bk:List Nat) (hx:ev s x=some (.ct h)) (hxs:uf s xs.toList=some gs) (hk:aq s.st h=some k) (hlp:k.lp=some (.loop lp))
  (hpend:lp.iR=none) (hh:dx H h=none) (hv:cj.go H [] gs=some gs') (hc:cj.go H [] k.cells=some cells') (hl:fF H [] s.st H 0=some stC) (cR:n4 H=true) (hps:gs'.length=lp.ps.size) (hpn:n4 lp.ps.toList=true) (hpl:lp.ps.toList.all (Nat.blt · lp.N)=true)
  (hcon:GY P lp cells' gs' stC Q) (hw:cY ops s guard=some true) (hN:Nat.blt d N=true)
  (hres:∀j st',Q j st'→∃s2,nY false s H st' bk=some s2∧∃k2,aq s2.st h=some k2∧k2.lp=some (.loop lp)∧∃b,j.isNone=b∧GL P N cx ops R rest (({s2 with st:=bD s2.st h {k2 with lp:=some (.loop {lp with iR:=j})}}:St).put d (.val (.bool b)))):
  GL P N cx ops R (⟨some d,.call ⟨.value x,xs,ts⟩,ty,pos,after,guard⟩::rest) s:=by
 intro μ a w hr
 unfold wpListIn
 rw[if_pos (dN hr hw)]
 refine⟨fun _ _=>trivial,?_⟩
 rw[Oper.semAt_eq _ _ _ (fun _ h=>by cases h)]
 obtain⟨l,m,hm,hlpr⟩:=hr.HH hk hlp
 obtain⟨e1,e2⟩:=mq hxs
 have hls:fF H (ez s.st H false) s.st H 0=some stC:=hl
 have hxv:a.eval x=.func (.yield l) #[] #[]:=by
  have hv:=hr.ev hx
  generalize a.eval x=v at hv
  cases hv with
  | aH h=>cases h
  | ct _ b m' hm'=>rw[hm] at hm';cases hm';rfl
 obtain⟨tm0,D,q1,hround⟩:=KO (P:=P) (vs:=xs.toList.map a.eval) hr hk hlp hpend hm H hh hv hc hl cR hps hpn hpl (by simp[e1]) (fun j g v hg hv=>by
  obtain⟨x,hxj,he⟩:=e2 j g hg
  rw[ay,hxj] at hv
  cases hv
  exact hr.ev he) hcon (T:=fun
   | .returned v,w''=>wpListIn (FF cx.ro) 0 P ops (lift N cx R) rest (a.put (some d) v) w''
   | .panicked chain,w''=>lift N cx R (.panic chain) a w''
   | .outgrown,_=>LetsOut (lift N cx R)) (by
  intro j st' μ'' w3 hQ hC D tm hw3
  obtain⟨s2,hb,k2,hk2,hk2l,b0,hb0,hgl⟩:=hres j st' hQ
  subst hb0
  obtain⟨r1,_,_,_⟩:=uv hr hls (lQ cR) hC hb
  have hm2:jl μ μ'' st' bk h=some (l,m):=by
   unfold jl
   have hbk:pC st' bk h=none:=by
    unfold nY at hb
    cases hok:oo s H st' bk&&s.df.all (fun g=>!(pb (dT st' H 0) g)) with
    | false=>rw[hok] at hb;cases hb
    | true=>
     simp only[aj] at hok
     cases hI:pC st' bk h with
     | none=>rfl
     | some j'=>
      rcases(l4 hok.1 hI).2.2.2 with ⟨_,e⟩ | ⟨_,_,e | e⟩
      ·exact absurd (lR e) (nk hh)
      ·exact absurd e (nk hh)
      ·rw[(fc e).1] at hk;cases hk
   rw[hbk]
   exact hm
  have r2:=r1.Qe hk2 hk2l hm2 j (D:=D) (vs:=tm) (by rw[hpend];exact hw3)
  exact hgl _ _ _ (r2.put (by simpa[fW] using hN) (.aH (.val _))))
 have hrun:(execOp a.eval ⟨some d,.call ⟨.value x,xs,ts⟩,ty,pos,after,guard⟩).run P w=.ok (.round l D.2 ((lp.ps.zip (xs.toList.map a.eval).toArray).foldl (fun tmps (t,a)=>tmps.setIfInBounds t a) tm0) lp.assign lp.body) w:=by
  have e:xs.map a.eval=(xs.toList.map a.eval).toArray:=by rw[←en]
  have hy:=run_yield (P:=P) (args:=(xs.toList.map a.eval).toArray) q1 (by
   have:=(lS hv).1
   simp only[kD,aW]
   omega)
  simp[execOp,resolve,invoke,Deferred.ofValue,hxv,e,hy]
 rw[hrun]
 exact⟨(fun h=>by cases h),hround⟩
end
end Go.AM
/-
 AM,part BE:the loop dm a function.
-/
namespace Go.AM
section
variable {P:Program}{N:Nat}{cx:Cx}{s:St}
theorem Rel.Sc {μ : Mu} {a : Act} {w : World} (hr : Rel N cx μ s a w) {hd : Nat} (k : ap) (o : Obj) (m : Nat) (hfr : fresh s hd = true)
    (hblk : ∀ O' μ', (∀ b, b < w.heap.size → ¬ cx.O s.st μ b → ¬ O' b) → (∀ y, y ≠ hd → μ' y = μ y) → aQ O' cx.base (w.alloc o) μ' k (some (w.heap.size, m, []))) :
    Rel N cx (fV μ hd (some (w.heap.size, m, []))) { fr := s.fr, st := (hd, k) :: s.st, df := s.df } a (w.alloc o) := by
  obtain ⟨f1, f2, f3, f4, f5⟩ := fc hfr
  have h := hr.st
  have hO : ∀ b, b < w.heap.size → ¬ cx.O s.st μ b → ¬ cx.O ((hd, k) :: s.st) (fV μ hd (some (w.heap.size, m, []))) b := by
    intro b hb hn ho
    rcases ho with ho | ⟨x, k', c, m', h1, h2, hi⟩
    · exact hn (.inl ho)
    · by_cases e : x = hd
      · subst e; rw [bz] at h2; cases h2; rw [In.plain.1 hi] at hb; omega
      · rw [aD k _ e] at h1; rw [aT e] at h2; exact hn (.inr ⟨x, k', c, m', h1, h2, hi⟩)
  have hlt : ∀ x k' b m' y, aq s.st x = some k' → μ x = some (b, m') → In y b m' → y < w.heap.size := fun x k' b m' y h1 h2 h3 => ox h ⟨x, k', b, m', h1, h2, h3⟩
  have hkept := nP (cx.O s.st μ) w o
  refine { st := { dc := ?_, cE := ?_, bU := ?_, ei := ?_, eg := h.eg, hb := ?_, os := h.os, tape := h.tape, output := h.output, da := ?_ }, nd := ?_, sz := hr.sz, fr := ?_ }
  · intro x k' h1
    by_cases e : x = hd
    · subst e
      rw [dv] at h1; cases h1
      rw [bz]
      exact hblk _ _ hO fun y hy => aT hy
    · rw [aD k _ e] at h1
      rw [aT e]
      refine ((h.dc x k' h1).mono (fun b m hm y hy => cJ w _ y (hlt x k' b m y h1 hm hy)) hkept hO).fH fun hp g hg y hy => aT ?_
      intro e
      subst e
      rw [qE f3 h1 hp hg] at hy
      cases hy
  · intro x x' k1 k2 y b m1 b2 m2 h1 h2 h3 h4 hi hi'
    by_cases e : x = hd
    · by_cases e' : x' = hd
      · rw [e, e']
      · subst e
        rw [bz] at h3; rw [aT e'] at h4; rw [aD k _ e'] at h2
        cases h3
        have := hlt x' k2 _ m2 y h2 h4 hi'
        rw [In.plain.1 hi] at this
        omega
    · by_cases e' : x' = hd
      · subst e'
        rw [bz] at h4; rw [aT e] at h3; rw [aD k _ e] at h1
        cases h4
        have := hlt x k1 _ m1 y h1 h3 hi
        rw [In.plain.1 hi'] at this
        omega
      · rw [aD k _ e] at h1; rw [aD k _ e'] at h2; rw [aT e] at h3; rw [aT e'] at h4
        exact h.cE x x' k1 k2 y b m1 b2 m2 h1 h2 h3 h4 hi hi'
  · intro x k' b m1 y h1 h2 hi
    by_cases e : x = hd
    · subst e
      rw [bz] at h2
      cases h2
      rw [In.plain.1 hi]
      refine ⟨fun hx => ?_, .inl h.hb, by simp, fun _ => h.hb⟩
      have := h.eg _ hx
      have := h.hb
      omega
    · rw [aD k _ e] at h1; rw [aT e] at h2
      obtain ⟨a1, a2, a3, a4⟩ := h.bU x k' b m1 y h1 h2 hi
      exact ⟨a1, a2, by simp only [World.size_alloc]; omega, a4⟩
  · intro x k1 h1 h2
    by_cases e : x = hd
    · subst e; rw [gW f5] at h2; cases h2
    · rw [aD k _ e] at h1; rw [aT e]; exact h.ei x k1 h1 h2
  · simp only [World.size_alloc]; have := h.hb; omega
  · intro b hb hA
    rw [cJ w _ b (by have := h.hb; omega)]
    exact h.da b hb hA
  · exact (hr.nd.mono hkept hO).fH (fun g hg y hy => aT fun e => by subst e; rw [lX f4 hg] at hy; cases hy)
  · intro t g hg
    obtain ⟨v, hv, hrv⟩ := hr.fr t g hg
    refine ⟨v, hv, (hrv.mono hkept hO (az _)).fH fun y hy => aT ?_⟩
    intro e
    subst e
    rw [kQ f2 hg] at hy
    cases hy
theorem Rel.marked {μ : Mu} {a : Act} {w : World} (hr : Rel N cx μ s a w) : Rel N cx μ s { a with defers := { target := .collected w.heap.size, args := #[] } :: a.defers } (w.alloc (.deferred (some []))) := by
  have hr1 := hr.kept (w' := w.alloc (.deferred (some []))) (by simp) (fun b hb => cJ w _ b hb) rfl rfl rfl
  refine { st := hr1.st, nd := .mark (D := w.heap.size) ?_ hr.st.hb (by simp) (World.alloc_heap_new _ _) ?_ hr1.nd, sz := hr1.sz, fr := hr1.fr }
  · rintro (ho | ho)
    · have := hr.st.eg _ ho; have := hr.st.hb; omega
    · have := ox hr.st ho; omega
  · intro d hd e
    have key : ∀ {ds : List Deferred} {gs : List G} {O : Nat → Prop} {base : Nat}, gL O base w μ ds gs → d ∈ ds → ∀ D, d.target = .collected D → D < w.heap.size := by
      intro ds gs O base hdf
      induction hdf with
      | nil => intro h; cases h
      | mark _ _ h3 _ _ _ ih =>
        intro hd D e
        rcases aZ.1 hd with rfl | hd
        · cases e; exact h3
        · exact ih hd D e
      | aF _ _ ih =>
        intro hd D e
        rcases aZ.1 hd with rfl | hd
        · cases e
        · exact ih hd D e
    exact absurd (key hr.nd hd _ e) (Nat.lt_irrefl _)
def LQ (s s':St):Prop:=(∀t g,get s'.fr t=some g→get s.fr t=some g)∧(∀t k,aq s'.st t=some k→aq s.st t=some k)∧s.df=s'.df
theorem Rel.SX {N:Nat}{cx:Cx}{μ:Mu}{s s':St}{a:Act}{w:World}(h:Rel N cx μ s a w) (hs:LQ s s'):Rel N cx μ s' a w:=by
 obtain⟨hf,ho,hd⟩:=hs
 have hO:∀b,b<w.heap.size→¬cx.O s.st μ b→¬cx.O s'.st μ b:=fun b _ hn ho'=>hn (ho'.imp id fun ⟨x,k,c,m,h1,h2,hi⟩=>⟨x,k,c,m,ho _ _ h1,h2,hi⟩)
 have hr:=h.st
 refine {st:={dc:=fun x k hk=>(hr.dc x k (ho _ _ hk)).mono (fun _ _ _ _ _=>rfl) (Kept.refl _ _) hO,cE:=fun x x' k k' y b m b' m' h1 h2=>hr.cE x x' k k' y b m b' m' (ho _ _ h1) (ho _ _ h2),bU:=fun x k b m y h1 h2=>hr.bU x k b m y (ho _ _ h1) h2,ei:=fun x k h1 h2=>hr.ei x k (ho _ _ h1) h2,eg:=hr.eg,hb:=hr.hb,os:=hr.os,tape:=hr.tape,output:=hr.output,da:=hr.da},nd:=hd▸h.nd.mono (Kept.refl _ _) hO,sz:=h.sz,fr:=?_}
 intro t g hg
 obtain⟨v,hv,hrv⟩:=h.fr t g (hf _ _ hg)
 exact⟨v,hv,hrv.mono (Kept.refl _ _) hO (az _)⟩
theorem Rel.N5 {μ:Mu}{a:Act}{w:World}(hr:Rel N cx μ s a w){h l:Nat}{m:Mm}{k:ap}{s3:St}{o o':Obj}(hk:aq s.st h=some k) (hm:μ h=some (l,m)) (ho:w.heap[l]?=some o) (hc:Lm o=false) (hd:∀x,o≠.deferred x) (hb:cx.base≤l) (hs:LQ s s3) (hn:aq s3.st h=none):
  Rel N cx μ s3 a (w.putObj l o'):=by
 have h1:=hr.SX hs
 have hs':gR (fun b=>b=l) w (w.putObj l o'):=gR.put _ rfl ho hc
 refine {st:=h1.st.shut (w0:=cx.w0) hs' (fun x k1 b m1 q1 q2 _ y hy hz=>?_) ⟨rfl,rfl,rfl⟩ (fun b hb' hA=>?_),nd:=gL.shut h1.nd hs' fun d hd' D e hz=>?_,sz:=h1.sz,fr:=fun t g hg=>let ⟨v,hv,hrv⟩:=h1.fr t g hg;⟨v,hv,hrv.shut hs'⟩}
 ·subst hz
  have:=hr.st.cE x h k1 k y b m1 y m (hs.2.1 _ _ q1) hk q2 hm hy (.self _ _)
  subst this
  rw[hn] at q1;cases q1
 ·rw[World.putObj_heap_other (by omega)];exact h1.st.da b hb' hA
 ·subst hz
  have key:∀{ds:List Deferred}{gs:List G}{O:Nat→Prop}{base:Nat},gL O base w μ ds gs→d∈ds→∃x,w.heap[D]?=some (.deferred x):=by
   intro ds gs O base hdf
   induction hdf with
   | nil=>intro h;cases h
   | mark _ _ _ h4 _ _ ih=>
    intro hd
    rcases aZ.1 hd with rfl | hd
    ·cases e;exact⟨_,h4⟩
    ·exact ih hd
   | aF _ _ ih=>
    intro hd
    rcases aZ.1 hd with rfl | hd
    ·cases e
    ·exact ih hd
  obtain⟨x,hx⟩:=key h1.nd hd'
  rw[ho] at hx
  exact hd x (kA hx)
def s9 (cells:List G) (lp:Lp):ap:=⟨0,false,false,false,0,cells,some (.loop lp)⟩
def F9 (R:Exit→St→Prop) (s:St):Option Code→Prop
 | none=>R .normal s
 | some .ret=>R .ret s
 | some (.exit id)=>R (.exit id) s
 | _=>False
def getAll (fr:List (Nat×G)):List Nat→Option (List G)
 | []=>some []
 | t::r=>match get fr t,getAll fr r with
  | some g,some gs=>some (g::gs)
  | _,_=>none
theorem C4 {fr:List (Nat×G)}:∀{ts:List Nat}{gs:List G},getAll fr ts=some gs→∀{j:Nat}{g:G},gs[j]?=some g→∃t,ts[j]?=some t∧get fr t=some g
 | [],_,h,j,g,e=>by cases h;simp at e
 | t::r,gs,h,j,g,e=>by
  simp only[getAll] at h
  cases h1:get fr t with
  | none=>rw[h1] at h;cases h
  | some g1=>
   rw[h1] at h
   cases h2:getAll fr r with
   | none=>rw[h2] at h;cases h
   | some r1=>
    rw[h2] at h
    cases h
    cases j with
    | zero=>cases e;exact⟨t,rfl,h1⟩
    | succ j=>exact C4 h2 e
theorem aY.Nz {O:Nat→Prop}{base:Nat}{w:World}{μ:Mu}{f:FuncId}{caps:List G}{v:Value}(h:aY O base w μ (.aF f caps) v):
  ∃us:List Value,v=.func (.func f) #[] us.toArray∧us.length=caps.length∧∀(j:Nat) (g:G) (v:Value),caps[j]?=some g→us[j]?=some v→aY O base w μ g v:=by
 cases h with
 | aH h=>cases h
 | aF _ _ us hl hr=>exact⟨us,rfl,hl,hr⟩
theorem GW.rangeFunc {g : Operand} {ps : Array Tmp} {ly body : Code} {f : FuncId} {caps cells gs' : List G} {stC : List (Nat × ap)} {Q : G → List (Nat × ap) → Prop} {f0 : FuncId} {R : Exit → St → Prop} (hro : cx.ro = none) (lp : Option Code → Lp) (hd : Nat) (aA : List Nat) (H : List Nat) (vw : Bool) (bk : List Nat)
    (hlp : ∀ j, lp j = ⟨f0, N, aA, ps, ly, body, j⟩) (hg : ev s g = some (.aF f caps)) (hc : ∀ args w, (callFunc f args).run P w = .ok (.enter f args) w) (hcells : getAll s.fr aA = some cells) (hfr : fresh s hd = true)
    (hl : fF H (ez ((hd, s9 cells (lp none)) :: s.st) H vw) ((hd, s9 cells (lp none)) :: s.st) H 0 = some stC) (cR : n4 H = true) (hdH : hd ∈ H) (hcon : GM P f gs' stC Q)
    (hv : cj.go H (ez ((hd, s9 cells (lp none)) :: s.st) H vw) (.ct hd :: caps) = some gs')
    (hres : ∀ r st', Q r st' → ∃ s2 s3 j k2, nY vw { fr := s.fr, st := (hd, s9 cells (lp none)) :: s.st, df := s.df } H st' bk = some s2 ∧ (dT st' H 0).contains hd = false ∧ aq s2.st hd = some k2 ∧ k2.lp = some (.loop (lp j)) ∧ LQ s2 s3 ∧ aq s3.st hd = none ∧ F9 R s3 j) :
    GW P N cx (.rangeFunc g ps ly body) R s := by
  intro μ a w hr
  refine wpIn_rangeFunc ?_
  intro fn _
  have hround : (FF cx.ro).round = none := hro
  rw [hround]
  obtain ⟨us, hav, hlu, _⟩ := (hr.ev hg).Nz
  refine ⟨w.heap.size + 1, _, (w.alloc (.deferred (some []))).alloc (.loop { state := .ready, pending := none, fn := fn, tmps := a.tmps, params := ps, assign := ly, body := body, defers := w.heap.size }), { target := .fn (.func f) us.toArray, args := #[.func (.yield (w.heap.size + 1)) #[] #[]] }, (w.alloc (.deferred (some []))).alloc (.loop { state := .ready, pending := none, fn := fn, tmps := a.tmps, params := ps, assign := ly, body := body, defers := w.heap.size }), f, #[.func (.yield (w.heap.size + 1)) #[] #[]] ++ us.toArray, (w.alloc (.deferred (some []))).alloc (.loop { state := .ready, pending := none, fn := fn, tmps := a.tmps, params := ps, assign := ly, body := body, defers := w.heap.size }), run_enterLoop_outer _ _ _ _ _, ?_, fun _ _ => trivial, ?_, fun h => (by cases h), ?_⟩
  · simp only [resolve, hav]
    simp [go_sem]
  · simp [invoke, go_sem, hc]
  ·
    generalize hW : (w.alloc (.deferred (some []))).alloc (.loop { state := .ready, pending := none, fn := fn, tmps := a.tmps, params := ps, assign := ly, body := body, defers := w.heap.size }) = W1
    have hr1 := hr.marked
    have hsz1 : (w.alloc (.deferred (some []))).heap.size = w.heap.size + 1 := by simp
    have hr2 := hr1.Sc (hd := hd) (s9 cells (lp none)) (.loop { state := .ready, pending := none, fn := fn, tmps := a.tmps, params := ps, assign := ly, body := body, defers := w.heap.size }) 0 hfr (fun O' μ' hO hμ => by
      unfold aQ
      simp only [s9]
      refine ⟨(w.heap.size, fn), a.tmps, ?_, ?_, rfl, rfl, fun j t g ht hg => ?_⟩
      · rw [hlp]; exact World.alloc_heap_new _ _
      · rw [hlp]; exact hr.sz
      · rw [hlp] at ht
        obtain ⟨t', e1, e2⟩ := C4 hcells hg
        rw [ht] at e1
        cases e1
        obtain ⟨v, hv, hrv⟩ := hr1.fr t g e2
        refine ⟨v, hv, (hrv.mono (nP _ _ _) hO (az _)).fH fun y hy => hμ y fun e => ?_⟩
        subst e
        rw [kQ (fc hfr).2.1 e2] at hy; cases hy)
    rw [hW, hsz1] at hr2
    have hgv2 := hr2.ev (x := g) (g := .aF f caps) (by cases g <;> exact hg)
    rw [show ({ a with defers := { target := .collected w.heap.size, args := #[] } :: a.defers } : Act).eval g = .func (.func f) #[] us.toArray from hav] at hgv2
    obtain ⟨us', e1, _, hrc⟩ := hgv2.Nz
    have e2 : us' = us := by
      injection e1 with _ _ e3
      have := congrArg Array.toList e3
      simpa using this.symm
    subst e2
    have hcall := uY (P := P) (f := f) (vs := .func (.yield (w.heap.size + 1)) #[] #[] :: us') hr2 hv hl cR (by simp [hlu]) (fun j g v hg hv => by
      cases j with
      | zero => cases hg; cases hv; exact .ct hd _ (0, []) (bz _ _ _)
      | succ j => exact hrc j g v hg hv) hcon
    have hargs : (Value.func (.yield (w.heap.size + 1)) #[] #[] :: us').toArray = #[.func (.yield (w.heap.size + 1)) #[] #[]] ++ us'.toArray := by simp
    rw [hargs] at hcall
    refine xP.2 (hcall.mono ?_)
    rintro e w2 (⟨v, r, st', μ'', rfl, hq, hC, _⟩ | ⟨_, _, _, _, h, _⟩)
    rotate_left
    · exact h.elim
    obtain ⟨s2, s3, j, k2, hb, hdd, hk2, hk2l, hsub, hn3, hR⟩ := hres r st' hq
    obtain ⟨r2, _, _, r4⟩ := uv hr2 hl (lQ cR) hC hb
    have hm2 := r4 hd hdH (by simpa using hdd)
    rw [bz] at hm2
    obtain ⟨l, m, hm3, D, vs, q1, q2, _, _, _⟩ := r2.HH hk2 hk2l
    obtain ⟨mE, hmE, _⟩ := hm2.get rfl
    rw [hmE] at hm3
    cases hm3
    have hend := run_endLoop (P := P) q1 (by cases (lp j).iR <;> simp)
    refine ⟨_, _, hend, ?_⟩
    have r5 := r2.N5 (o' := .loop { state := .exhausted, pending := (lp j).iR, fn := D.2, tmps := vs, params := (lp j).ps, assign := (lp j).assign, body := (lp j).body, defers := D.1 }) hk2 hmE q1 rfl (fun x h => by cases h) (by have := hr.st.hb; omega) hsub hn3
    have hpend : (lp j).iR = j := by rw [hlp]
    simp only [hpend] at r5 ⊢
    cases j with
    | none => exact ⟨_, s3, r5, hR⟩
    | some c =>
      cases c with
      | ret => exact wpIn_ret ⟨_, s3, r5, hR⟩
      | exit id => exact wpIn_exit ⟨_, s3, r5, hR⟩
      | _ => exact hR.elim
end
end Go.AM
/-
 AM,part BF:how a round was left,as data;lists of a callee's own;structs in slices of the call's own.
-/
namespace Go.AM
inductive Jp where
 | go
 | ex
 | rt
 deriving DecidableEq
def Jp.Te:Jp→Bool
 | .rt=>true
 | _=>false
def Td (id:Nat):Jp→Option Code
 | .go=>none
 | .ex=>some (.exit id)
 | .rt=>some .ret
theorem F9.rt {R:Exit→St→Prop}{s:St}{id:Nat}{j:Jp}(hj:j.Te=true) (h:R .ret s):F9 R s (Td id j):=by
 cases j with
 | rt=>exact h
 | _=>cases hj
section
variable {P:Program}{N:Nat}{cx:Cx}{Q:Exit→St→Prop}{s:St}{ops:Array Oper}{rest:List Oper}
theorem Mg {s:St}{hh:Nat}{k:ap}{lp:Lp}(hk:aq s.st hh=some k) (hl:k.lp=some (.loop lp)) (hp:lp.iR=none) (μ:Mu) (a:Act) (w:World) (hr:Rel N cx μ s a w):
  Rel N cx μ {s with st:=bD s.st hh {k with lp:=some (.loop {lp with iR:=none})}} a w:=by
 have e:({k with lp:=some (.loop {lp with iR:=none})}:ap)=k:=by
  obtain⟨_,_,_,_,_,_,l⟩:=k
  simp only at hl
  subst hl
  obtain⟨_,_,_,_,_,_,_⟩:=lp
  simp only at hp
  subst hp
  rfl
 have e2:∀(st:List (Nat×ap)),aq st hh=some k→bD st hh k=st:=by
  intro st
  induction st with
  | nil=>intro h;cases h
  | cons x r ih=>
   obtain⟨y,k'⟩:=x
   intro h
   simp only[aq] at h
   simp only[bD]
   cases hb:Nat.beq y hh with
   | true=>rw[hb] at h;cases h;rfl
   | false=>rw[hb] at h;rw[cond_false,ih h]
 rw[e,e2 s.st hk]
 exact hr
theorem GL.iR (hh:Nat){k:ap}{lp:Lp}(hk:aq s.st hh=some k) (hl:k.lp=some (.loop lp)) (hp:lp.iR=none) (h:GL P N cx ops Q rest {s with st:=bD s.st hh {k with lp:=some (.loop {lp with iR:=none})}}):GL P N cx ops Q rest s:=
 fun μ a w hr=>h μ a w (Mg hk hl hp μ a w hr)
theorem GW.iR {c:Code}(hh:Nat){k:ap}{lp:Lp}(hk:aq s.st hh=some k) (hl:k.lp=some (.loop lp)) (hp:lp.iR=none) (h:GW P N cx c Q {s with st:=bD s.st hh {k with lp:=some (.loop {lp with iR:=none})}}):GW P N cx c Q s:=
 fun μ a w hr=>h μ a w (Mg hk hl hp μ a w hr)
end
section
variable {α:Type}[aL α]
variable {P:Program}{N:Nat}{cx:Cx}{Q:Exit→St→Prop}{s:St}{ops:Array Oper}{rest:List Oper}
theorem GW.qH [Flat α]{c:Code}(hh:Nat){k:ap}{l:List α}(hk:aq s.st hh=some k) (hc:k.cells=c8 l) (hp:k.pure=true) (h:GW P N cx c Q {fr:=s.fr,st:=bD s.st hh {k with fresh:=true},df:=s.df}) (hlp:k.lp=none:=by rfl):GW P N cx c Q s:=
 fun μ a w hr=>h μ a w (hr.qH hk hc hp hlp)
variable {W:List Nat}{dst:Option Tmp}{ty:TypeId}{pos:String}{after:Array Edge}{guard:Option (Nat×Bool)}
theorem Nt {l:List α}{i:Nat}(x:α) (h:i<l.length):(c8 l).take (0+i*aL.sz α)++aL.cells x++(c8 l).drop (0+i*aL.sz α+aL.sz α)=c8 (l.set i x):=by
 have e:0+i*aL.sz α+aL.sz α=(i+1)*aL.sz α:=by rw[bT,dD,Nat.one_mul]
 rw[e,zz,bT,zy,cL,if_pos h,A3,Nu,aC]
theorem Fl {l:List α}{i j:Nat}{x x':α}{g:G}(h:l[i]?=some x) (hj:j<aL.sz α) (hx:aL.cells x'=(aL.cells x).set j g):(c8 l).set (0+i*aL.sz α+j) g=c8 (l.set i x'):=by
 rw[bT]
 apply kF
 intro n
 have hil:=(al.1 h).1
 rw[dr]
 have hset:c8 (l.set i x')=(c8 l).take (0+i*aL.sz α)++aL.cells x'++(c8 l).drop (0+i*aL.sz α+aL.sz α):=(Nt x' hil).symm
 rw[hset,hx,aC,a9,aX,eT,bT]
 have hm:i*aL.sz α+aL.sz α≤l.length*aL.sz α:=by rw[←Nat.succ_mul];exact b7 _ hil
 rw[dy (by omega)]
 by_cases e:i*aL.sz α+j=n
 ·rw[if_pos e,if_pos (by omega),if_neg (by omega),a9,cW,aL.len,if_pos (by omega),dr,if_pos (by omega),if_pos (by rw[aL.len];omega)]
 ·rw[if_neg e]
  split
  ·rename_i h1;rw[bf,if_pos h1]
  ·rename_i h1
   rw[a9,cW,aL.len]
   split
   ·rename_i h2
    rw[dr,if_neg (by omega),←oZ h (by omega)]
    congr 1;omega
   ·rename_i h2
    rw[bj]
    congr 1;omega
end
end Go.AM
/-
 AM,part BG:make of elements of any make.
-/
namespace Go.AM
section
variable {α:Type}[aL α]
variable {P:Program}{N:Nat}{cx:Cx}{s:St}{W:List Nat}{d:Nat}
variable {ty:TypeId}{pos:String}{after:Array Edge}{guard:Option (Nat×Bool)}
variable {dst:Option Tmp}
end
end Go.AM
/-
 AM,part BH:a slice of the call's own in the place of one that was lent.
-/
namespace Go.AM
section
variable {P:Program}{N:Nat}{cx:Cx}{Q:Exit→St→Prop}{s:St}{ops:Array Oper}{rest:List Oper}
def CC:G→G
 | .val v=>iE v
 | g=>l7 g
theorem Rel.plain {μ:Mu}{a:Act}{w:World}(h:Rel N cx μ s a w){hh:Nat}{k:ap}(hk:aq s.st hh=some k) (hp:k.pure=false) (hlp:k.lp=none):
  Rel N cx μ {fr:=s.fr,st:=bD s.st hh {k with cells:=k.cells.map CC},df:=s.df} a w:=by
 refine h.vV hk rfl rfl rfl (Nat.le_of_eq (by simp)) hlp hlp fun j g' hg'=>?_
 simp only[ay,av] at hg'
 obtain⟨g,h1,rfl⟩:=hg'
 refine⟨g,h1,fun v hv=>?_⟩
 unfold cz at hv⊢
 simp only[hp] at hv⊢
 cases g with
 | val u=>
  cases hv with
  | aH hi=>
   cases hi with
   | val _=>exact .aH (rO _)
 | _=>exact hv.Co
theorem GL.plain (hh:Nat){k:ap}(hk:aq s.st hh=some k) (hp:k.pure=false) (h:GL P N cx ops Q rest {fr:=s.fr,st:=bD s.st hh {k with cells:=k.cells.map CC},df:=s.df}) (hlp:k.lp=none:=by rfl):GL P N cx ops Q rest s:=
 fun μ a w hr=>h μ a w (hr.plain hk hp hlp)
theorem dS.plain {W:List Nat}{aK:Nat}{listed:Array Bool}(hh:Nat){k:ap}(hk:aq s.st hh=some k) (hp:k.pure=false)
  (h:dS P N cx ops Q W aK listed {fr:=s.fr,st:=bD s.st hh {k with cells:=k.cells.map CC},df:=s.df}) (hlp:k.lp=none:=by rfl):dS P N cx ops Q W aK listed s:=fun ws Wb μ a w hr hS hW=>
 h ws Wb μ a w (hr.plain hk hp hlp) hS fun x k' c m b h1 h2 h3 h4=>by
  rcases cI hk h2 with ⟨rfl,rfl⟩ | ⟨_,h2⟩
  ·exact hW x k c m b h1 hk h3 h4
  ·exact hW x k' c m b h1 h2 h3 h4
theorem kr.trans {a b:List (Nat×ap)}(h:kr a b):∀{c:List (Nat×ap)},kr b c→kr a c
 | [],_=>trivial
 | (t,g)::r,hc=>⟨h.get hc.1,h.trans hc.2⟩
variable {dst:Option Tmp}{ty:TypeId}{pos:String}{after:Array Edge}{guard:Option (Nat×Bool)}
end
end Go.AM
/-
 AM,part BI:make with a capacity;an append of a make to the nil slice.
-/
namespace Go.AM
section
variable {P:Program}
theorem GW.plain {N:Nat}{cx:Cx}{s:St}{c:Code}{Q:Exit→St→Prop}(hh:Nat){k:ap}(hk:aq s.st hh=some k) (hp:k.pure=false) (h:GW P N cx c Q {fr:=s.fr,st:=bD s.st hh {k with cells:=k.cells.map CC},df:=s.df}) (hlp:k.lp=none:=by rfl):GW P N cx c Q s:=
 fun μ a w hr=>h μ a w (hr.plain hk hp hlp)
end
section
variable {α:Type}[aL α]
variable {P:Program}{N:Nat}{cx:Cx}{s:St}{W:List Nat}{d:Nat}
variable {ty:TypeId}{pos:String}{after:Array Edge}{guard:Option (Nat×Bool)}
theorem K9 {O:Nat→Prop}{base:Nat}{w:World}{μ:Mu}{x:α}{z:Value}{e:TypeId}{m:Nat}{cs:Array Value}(hzs:z.cells.size=aL.sz α) (he:z.cells.toList.map iE=aL.cells x)
  (hcs:∀j,j<m*aL.sz α→cs[j]?=(madeCells z.cells (m*aL.sz α))[j]?) (j:Nat) (g':G) (hg':(c8 (List.replicate m x))[j]?=some g'):
  ∃v,cs[j]?=some v∧cz O base w μ ⟨e,true,true,true,aL.sz α,c8 (List.replicate m x),none⟩ g' v:=by
 have hpos:0<aL.sz α:=aL.pos
 unfold c8 at hg'
 rw[oA aL.cells (aL.sz α) hpos (List.replicate m x) (fun a _=>aL.len a) j,ff] at hg'
 split at hg'
 ·rename_i hj
  simp only[ae] at hg'
  rw[←he,ay] at hg'
  have hlt:j%aL.sz α<z.cells.toList.length:=by rw[Array.length_toList,hzs];exact mP _ hpos
  rw[ag hlt] at hg'
  cases hg'
  have hjn:j<m*aL.sz α:=(Nat.div_lt_iff_lt_mul hpos).1 hj
  refine⟨z.cells.toList[j%aL.sz α],?_,?_⟩
  ·rw[hcs j hjn]
   have hmod:j%z.cells.size=j%aL.sz α:=by rw[hzs]
   rw[Array.length_toList] at hlt
   simp[madeCells,hjn,hmod,hlt]
  ·unfold cz
   exact rO _
 ·cases hg'
theorem ET.CR {x:α}{t e:TypeId}{xo yo:Operand}{z:Value}{bt sz:Nat}{k k':IntKind}{n c:Int}(hd:Nat) (hx:ev s xo=some (.val (.int k n))) (hy:ev s yo=some (.val (.int k' c)))
  (ht:P.underlying t=some (.slice e)) (hi:(P.info? e).map (fun i=>(i.zero,i.size,i.bytes))=some (some z,sz,bt)) (hzs:z.cells.size=sz) (hsz:aL.sz α=sz) (he:z.cells.toList.map iE=aL.cells x)
  (h0:0≤n) (hnc:n≤c) (hb:(bt:Int)*c≤281474976710656) (h63:c≤9223372036854775807) (hfr:fresh s hd=true):
  bN P W s ⟨some d,.makeSlice t xo yo,ty,pos,after,guard⟩ (·={fr:=(d,.aR hd (aL.sz α) 0 (List.replicate n.toNat x).length)::s.fr,st:=(hd,⟨e,true,true,true,aL.sz α,c8 (List.replicate n.toNat x),none⟩)::s.st,df:=s.df}):=by
 subst hsz
 refine bN.of (s1:={fr:=s.fr,st:=(hd,⟨e,true,true,true,aL.sz α,c8 (List.replicate n.toNat x),none⟩)::s.st,df:=s.df}) (g:=.aR hd (aL.sz α) 0 (List.replicate n.toNat x).length) rfl (fun _ h=>by cases h) ?_
 intro N cx μ a w hr
 obtain⟨i,hi1,lC⟩:=av.1 hi
 simp only[ja] at lC
 obtain⟨hz,hs1,hb1⟩:=lC
 have hms:(madeCells z.cells (c.toNat*i.size)).size=c.toNat*aL.sz α:=by rw[size_madeCells,hs1]
 have hle:n.toNat*aL.sz α≤c.toNat*aL.sz α:=b7 _ (by omega)
 obtain⟨μ',w',rfl,h1,h2,h3⟩:=hr.uy (k:=⟨e,true,true,true,aL.sz α,c8 (List.replicate n.toNat x),none⟩) (cs:=madeCells z.cells (c.toNat*i.size)) hfr rfl (by rw[hms];simp only[eT,eY];exact hle)
  (fun _=>by rw[hms];exact b7 _ (by unfold maxLen;omega))
  (fun j g' hg'=>K9 hzs he (fun j hj=>by
   rw[hs1]
   have h5:j<c.toNat*aL.sz α:=bW hj hle
   simp[madeCells,hj,h5]) j g' hg')
  (fun h=>by cases h) W
 have hrun:=run_make (P:=P) w t e i z ht hi1 hz k k' n c h0 hnc (by rw[hb1];exact hb) h63
 rw[hms] at h2
 refine⟨_,μ',_,?_,h1,.aR hd (aL.sz α) 0 _ _ _ c.toNat h2 (by simp;omega) (by simp),h3⟩
 simp[execOp,hr.val hx,hr.val hy,hrun]
end
section
variable {P:Program}{s:St}{W:List Nat}{d:Nat}{ty:TypeId}{pos:String}{after:Array Edge}{guard:Option (Nat×Bool)}
end
end Go.AM
/-
 AM,part BJ:copy.
-/
namespace Go.AM
section
variable {P:Program}{N:Nat}{cx:Cx}{s:St}
variable {ty:TypeId}{pos:String}{after:Array Edge}{guard:Option (Nat×Bool)}{W:List Nat}{d:Nat}
theorem EF.copy {t t' e:TypeId}{x y:Operand}{h off n m:Nat}{k:ap}{gy:G}{newsG:List G}{f:Bool}(hx:ev s x=some (.aR h 1 off n)) (hy:ev s y=some gy) (hk:aq s.st h=some k) (hp:k.pure=true)
  (hfit:off+n≤k.cells.length) (hsrc:oT s.st 1 gy=some (newsG,m,f)) (hlen:newsG.length=m*1) (hone:∀g,g∈newsG→g.one=true)
  (ht:P.underlying t=some (.slice e)) (hi:(P.info? e).map (·.size)=some 1) (hW:W.contains h=true) (hlp:k.lp=none:=by rfl):
  bN P W s ⟨some d,.call ⟨.builtin .copy,#[x,y],#[t,t']⟩,ty,pos,after,guard⟩
   (fun s'=>s'={fr:=(d,.val (.int .i64 (Nat.min m n:Nat)))::s.fr,st:=bD s.st h {k with fresh:=k.fresh&&f,cells:=k.cells.take off++newsG.take (Nat.min m n)++k.cells.drop (off+Nat.min m n)},df:=s.df}∨
    (Nat.min m n=0∧s'=s.put d (.val (.int .i64 0)))):=by
 refine⟨(fun _ h=>by cases h),?_⟩
 intro N cx μ a w hr hN K Q hK
 have hlen:newsG.length=m:=by rw[hlen,ed]
 have idle:∀(o1 o2:Option Addr) (c1 c2:Nat),Nat.min m n=0→a.eval x=.slice o1 n c1→a.eval y=.slice o2 m c2→(Oper.wp P ⟨some d,.call ⟨.builtin .copy,#[x,y],#[t,t']⟩,ty,pos,after,guard⟩ a w K Q):=by
  intro o1 o2 c1 c2 h0 e1 e2
  have hrun:=run_copy_none (P:=P) w t t' ty e o1 o2 n c1 m c2 ht hi h0
  unfold Oper.wp
  have:(execOp a.eval ⟨some d,.call ⟨.builtin .copy,#[x,y],#[t,t']⟩,ty,pos,after,guard⟩).run P w=.ok (.value (goInt 0)) w:=by
   simp only[execOp,resolve,invoke,builtin,Sem.run_bind,Sem.run_pure,Result.andThen_ok,jW,aJ,iB,e1,e2,hrun]
  rw[this]
  refine hK μ _ _ w (hr.put (d:=d) (g:=.val (.int .i64 0)) (hN d rfl) (.aH (.val _))) (.inr ⟨h0,rfl⟩) ⟨az _,fun _ _ _=>rfl,fun x k1 c1 m1 b1 hw h1 h2 hi=>.inl ⟨x,k1,c1,m1,hw,h1,h2,hi⟩⟩
 have hv:=hr.ev hx
 have hy1:(∃o2 c2,a.eval y=.slice o2 m c2∧Nat.min m n=0)∨∃(b off c:Nat) (news:List Value),a.eval y=.slice (some ⟨b,off,none⟩) m c∧news.length=m∧(∀(j:Nat) (u:Value),news[j]?=some u→w.cell? ⟨b,off+j,none⟩=some u)∧(∀u∈news,u.oneCell'=true)∧
   (∀(j:Nat) (g:G),newsG[j]?=some g→∃u,news[j]?=some u∧bG (bif f then eA (cx.O s.st μ) cx.base else cx.O s.st μ) w g u):=by
  rcases hr.src hy hsrc (by rw[hlen,ed]) hone with ⟨⟨o2,c2,h1⟩,h2⟩ | ⟨b2,off2,c2,news,e1,e2,e3,e4,e5,e6⟩
  ·subst h2;exact .inl ⟨o2,c2,h1,Nat.zero_min _⟩
  ·exact .inr ⟨b2,off2,c2,news,e1,by rw[e2,ed],e3,e4,e5⟩
 generalize hav:a.eval x=v at hv
 have small:n=0→(∃o1 c1,v=.slice o1 0 c1)→(Oper.wp P ⟨some d,.call ⟨.builtin .copy,#[x,y],#[t,t']⟩,ty,pos,after,guard⟩ a w K Q):=by
  rintro h0 ⟨o1,c1,h1⟩
  subst h0
  rcases hy1 with ⟨o2,c2,h2,h3⟩ | ⟨b2,off2,c2,news,e1,e2,e3,e4,e5⟩
  ·exact idle _ _ _ _ h3 (hav.trans h1) h2
  ·exact idle _ _ _ _ (Nat.min_zero _) (hav.trans h1) e1
 cases hv with
 | aH h=>cases h
 | eQ _ _ hm=>exact small rfl ⟨_,_,rfl⟩
 | dJ _ _ off0 b _ hm hpos=>exact small rfl ⟨_,_,rfl⟩
 | aR _ _ _ _ b m0 cap hm hn hc=>
  rcases hy1 with ⟨o2,c2,h2,h3⟩ | ⟨b2,off2,c2,news,e1,e2,e3,e4,e5⟩
  ·exact idle _ _ _ _ h3 hav h2
  obtain⟨cs,h1,h2,h3,h4,h5,h6⟩:=hr.own hk hm hlp
  have hmn:Nat.min m n≤m:=Nat.min_le_left _ _
  have hmn2:Nat.min m n≤n:=Nat.min_le_right _ _
  have hl:(news.take (Nat.min m n)).length=Nat.min m n:=by rw[aX,e2];exact dy hmn
  have hrun:=run_copy_row (P:=P) w t t' ty e b off n cap ⟨b2,off2,none⟩ m c2 cs k.bP (news.take (Nat.min m n)) ht hi h1 hl
   (fun j u hu=>by
    rw[Addr.iY]
    rw[bf] at hu
    split at hu
    ·exact e3 j u hu
    ·cases hu) (by rw[hl];omega) (fun u hu=>e4 u (List.mem_of_mem_take hu))
  unfold Oper.wp
  have:(execOp a.eval ⟨some d,.call ⟨.builtin .copy,#[x,y],#[t,t']⟩,ty,pos,after,guard⟩).run P w=.ok (.value (goInt (Nat.min m n:Nat))) (w.setRow b (cs.toList.take off++news.take (Nat.min m n)++cs.toList.drop (off+Nat.min m n)).toArray):=by
   rw[hl] at hrun
   simp only[execOp,resolve,invoke,builtin,Sem.run_bind,Sem.run_pure,Result.andThen_ok,jW,aJ,iB,hav,e1,hrun]
  rw[this]
  have hwr:=hr.write (k':={k with fresh:=k.fresh&&f,cells:=k.cells.take off++newsG.take (Nat.min m n)++k.cells.drop (off+Nat.min m n)}) (w':=w.setRow b (cs.toList.take off++news.take (Nat.min m n)++cs.toList.drop (off+Nat.min m n)).toArray) hk hm (fY h1) (by
    simp only[kD,ak,aX,cr,Array.length_toList];omega) (setRow_size _ _ _) (fun b' hb'=>setRow_other w b b' _ hb') rfl rfl rfl id (by
    simp only[ak,aX,cr];omega) h5 (by
    intro j g' hg'
    have fo:∀(j:Nat),(cs.toList.take off++news.take (Nat.min m n)++cs.toList.drop (off+Nat.min m n)).toArray[j]?=if j<off then cs[j]? else if j<off+Nat.min m n then news[j-off]? else cs[j]?:=by
     intro j
     rw[km,aC,a9,aX,Array.length_toList,dy (by omega:off≤cs.size)]
     split
     ·rename_i hj;rw[bf,if_pos hj,bq]
     ·rw[a9,hl]
      split
      ·rename_i hj1 hj2;rw[if_pos (by omega),bf,if_pos hj2]
      ·rename_i hj1 hj2;rw[if_neg (by omega),bj,bq];congr 1;omega
    have hlG:(newsG.take (Nat.min m n)).length=Nat.min m n:=by rw[aX,hlen];exact dy hmn
    dsimp only at hg'
    rw[aC,a9,aX,dy (by omega:off≤k.cells.length)] at hg'
    rw[fo]
    have rY:∀{j:Nat}{g':G},k.cells[j]?=some g'→∃v,cs[j]?=some v∧cz (cx.O s.st μ) cx.base w μ {k with fresh:=k.fresh&&f,cells:=k.cells.take off++newsG.take (Nat.min m n)++k.cells.drop (off+Nat.min m n)} g' v:=by
     intro j g' hg'
     obtain⟨v,hv,hrv⟩:=h6 j g' hg'
     refine⟨v,hv,?_⟩
     unfold cz at hrv⊢
     dsimp only at hrv⊢
     rw[hp] at hrv⊢
     exact hrv.flag (fun h=>by simp at h;exact h.1)
    split at hg'
    ·rename_i hj
     rw[if_pos hj]
     rw[bf,if_pos hj] at hg'
     exact rY hg'
    ·rename_i hj
     rw[if_neg hj]
     rw[a9,hlG] at hg'
     split at hg'
     ·rename_i hj2
      rw[if_pos (by omega)]
      rw[bf,if_pos hj2] at hg'
      obtain⟨u,hu,hru⟩:=e5 _ g' hg'
      refine⟨u,hu,?_⟩
      unfold cz
      dsimp only
      rw[hp]
      exact hru.flag (fun h=>by simp at h;exact h.2)
     ·rename_i hj2
      rw[if_neg (by omega)]
      rw[bj] at hg'
      have:off+Nat.min m n+(j-off-Nat.min m n)=j:=by omega
      rw[this] at hg'
      exact rY hg') W hW hlp
  exact hK μ _ _ _ (hwr.1.put (d:=d) (g:=.val (.int .i64 (Nat.min m n:Nat))) (hN d rfl) (.aH (.val _))) (.inl rfl) hwr.2
end
end Go.AM
/-
 AM:pointers that may be nil;slices of slices,told as a whole.
-/
namespace Go.AM
section
variable {P:Program}{N:Nat}{cx:Cx}{s:St}{W:List Nat}
variable {dst:Option Tmp}{ty:TypeId}{pos:String}{after:Array Edge}{guard:Option (Nat×Bool)}
def tQ:G→Option Bool
 | .val (.pointer none)=>some true
 | .kp _ _ _=>some false
 | .loc _ _=>some false
 | _=>none
theorem aY.tQ {O:Nat→Prop}{base:Nat}{w:World}{μ:Mu}{g:G}{v:Value}{b:Bool}(h:aY O base w μ g v) (hn:AM.tQ g=some b):∃p,v=.pointer p∧p.isNone=b:=by
 cases g with
 | val u=>
  cases h with
  | aH h=>
   cases h
   cases v with
   | pointer p=>cases p with
    | none=>cases hn;exact⟨none,rfl,rfl⟩
    | some _=>cases hn
   | _=>cases hn
 | kp h' i off=>
  cases hn
  cases h with
  | aH h=>cases h
  | kp _ _ _ b m c n hm hk=>exact⟨_,rfl,rfl⟩
 | loc h' off=>
  cases hn
  cases h with
  | aH h=>cases h
  | loc _ _ b m hm=>exact⟨_,rfl,rfl⟩
 | _=>cases hn
theorem Cu {t e:TypeId}(ht:P.underlying t=some (.pointer e)) (p:Option Addr) (w:World):(Op.equal t (.pointer p) (.pointer none)).run P w=.ok p.isNone w:=by
 have key:∀d,(Op.equalIn (d+1) t (.pointer p) (.pointer none)).run P w=.ok p.isNone w:=fun d=>by
  cases p with
  | none=>simp[Op.equalIn,run_underlying ht]
  | some a=>simp[Op.equalIn,run_underlying ht]
 exact key 9999
theorem PY.ptrEq {t t' e:TypeId}{x:Operand}{g:G}{b:Bool}(hx:ev s x=some g) (hn:AM.tQ g=some b) (ht:P.underlying t=some (.pointer e)):
  PY P s ⟨dst,.binOp .eql t x (.const (.pointer none)) t',ty,pos,after,guard⟩ (.val (.bool b)):=fun N cx μ a w hr=>by
 obtain⟨p,e1,rfl⟩:=(hr.ev hx).tQ hn
 refine⟨_,.aH (.val _),fun w'=>?_⟩
 have h:=Cu (P:=P) ht p w'
 have hg:(eqGuard .eql t x (.const (.pointer none)) (.pointer p) (.pointer none)).run P w'=.ok () w':=by simp[eqGuard]
 simp only[execOp,e1,show a.eval (.const (.pointer none))=.pointer none from rfl,Sem.run_bind,hg,Result.andThen_ok]
 simp[binOp,h]
theorem PY.Sx {t t' e:TypeId}{x:Operand}{g:G}{b:Bool}(hx:ev s x=some g) (hn:AM.tQ g=some b) (ht:P.underlying t=some (.pointer e)):
  PY P s ⟨dst,.binOp .neq t x (.const (.pointer none)) t',ty,pos,after,guard⟩ (.val (.bool (!b))):=fun N cx μ a w hr=>by
 obtain⟨p,e1,rfl⟩:=(hr.ev hx).tQ hn
 refine⟨_,.aH (.val _),fun w'=>?_⟩
 have h:=Cu (P:=P) ht p w'
 have hg:(eqGuard .neq t x (.const (.pointer none)) (.pointer p) (.pointer none)).run P w'=.ok () w':=by simp[eqGuard]
 simp only[execOp,e1,show a.eval (.const (.pointer none))=.pointer none from rfl,Sem.run_bind,hg,Result.andThen_ok]
 simp[binOp,h]
theorem PY.EV {x:Operand}{h i off:Nat}(hx:ev s x=some (.kp h i off)):PY P s ⟨dst,.nilCheck x,ty,pos,after,guard⟩ (.kp h i off):=fun N cx μ a w hrel=>by
 have hr:=hrel.ev hx
 refine⟨_,hr,fun w'=>?_⟩
 generalize e1:a.eval x=v at hr
 cases hr with
 | aH h=>cases h
 | kp _ _ _ b m c n hm hk=>simp[execOp,e1]
def rN (O:Nat→Prop) (w:World) (kty:TypeId) (sz:Nat) (n:Nat) (gs:List G) (u:Value):Option (Nat×Nat)→Prop
 | none=>n=0∧gs=[]∧∃a cap,u=.slice a 0 cap∧(a=none→cap=0)
 | some (c,k)=>∃cap cs,u=.slice (some ⟨c,0,none⟩) n cap∧n≤cap∧cap*sz=k∧w.heap[c]?=some (.cells cs kty (0,0))∧cs.size=k∧k≤maxLen*sz∧gs.length=n*sz∧
   ∀(j:Nat) (g:G),gs[j]?=some g→∃v,cs[j]?=some v∧bG O w g v
structure PS (bP kty:TypeId) (sz:Nat) (rows:List (Nat×List G)) (O:Nat→Prop) (w:World) (b:Nat) (m:Mm) (cs:Array Value):Prop where
 len:m.2.length=rows.length
 root:∀(i c k:Nat),m.2[i]?=some (some (c,k))→c≠b∧c<w.heap.size
 inj:∀(i j c k k':Nat),m.2[i]?=some (some (c,k))→m.2[j]?=some (some (c,k'))→i=j
 heap:w.heap[b]?=some (.cells cs bP (0,0))
 size:cs.size=m.1
 le:rows.length≤m.1
 max:m.1≤maxLen
 row:∀(i n:Nat) (gs:List G),rows[i]?=some (n,gs)→∃u x,cs[i]?=some u∧m.2[i]?=some x∧rN O w kty sz n gs u x
theorem rN.mono {O O':Nat→Prop}{w w':World}{kty:TypeId}{sz n:Nat}{gs:List G}{u:Value}{x:Option (Nat×Nat)}(h:rN O w kty sz n gs u x) (hk:Kept O w w') (hO:∀x,x<w.heap.size→¬O x→¬O' x)
  (hc:∀c k,x=some (c,k)→w'.heap[c]?=w.heap[c]?):rN O' w' kty sz n gs u x:=by
 cases x with
 | none=>exact h
 | some ck=>
  obtain⟨c,k⟩:=ck
  obtain⟨cap,cs,h1,h2,h3,h4,h5,h6,h7,h8⟩:=h
  exact⟨cap,cs,h1,h2,h3,(hc c k rfl).trans h4,h5,h6,h7,fun j g hg=>let ⟨v,hv,hr⟩:=h8 j g hg;⟨v,hv,hr.mono hk hO⟩⟩
theorem rN.shut {O Z:Nat→Prop}{w w':World}{kty:TypeId}{sz n:Nat}{gs:List G}{u:Value}{x:Option (Nat×Nat)}(h:rN O w kty sz n gs u x) (hs:gR Z w w'):rN O w' kty sz n gs u x:=by
 cases x with
 | none=>exact h
 | some ck=>
  obtain⟨c,k⟩:=ck
  obtain⟨cap,cs,h1,h2,h3,h4,h5,h6,h7,h8⟩:=h
  exact⟨cap,cs,h1,h2,h3,hs.cells h4,h5,h6,h7,fun j g hg=>let ⟨v,hv,hr⟩:=h8 j g hg;⟨v,hv,hr.shut hs⟩⟩
theorem In.lq {b:Nat}{m:Mm}{i c k:Nat}(h:m.2[i]?=some (some (c,k))):In c b m:=.inr ⟨k,ar h⟩
def iu (bP kty:TypeId) (sz:Nat) (rows:List (Nat×List G)):Dp where
 φ:=fun O w b m=>∃cs,PS bP kty sz rows O w b m cs
 gQ:=rows=[]
 mono:=by
  rintro O O' w w' b m ⟨cs,h⟩ hk hO hb
  refine⟨cs,{len:=h.len,root:=fun i c k e=>⟨(h.root i c k e).1,bW (h.root i c k e).2 hk.size⟩,inj:=h.inj,heap:=(hb b (.self _ _)).trans h.heap,size:=h.size,le:=h.le,max:=h.max,row:=fun i n gs e=>?_}⟩
  obtain⟨u,x,h1,h2,h3⟩:=h.row i n gs e
  exact⟨u,x,h1,h2,h3.mono hk hO fun c k e=>hb c (.lq (k:=k) (by rw[h2,e]))⟩
 shut:=by
  rintro O Z w w' b m ⟨cs,h⟩ hs _
  refine⟨cs,{len:=h.len,root:=fun i c k e=>⟨(h.root i c k e).1,by rw[hs.size];exact(h.root i c k e).2⟩,inj:=h.inj,heap:=hs.cells h.heap,size:=h.size,le:=h.le,max:=h.max,row:=fun i n gs e=>?_}⟩
  obtain⟨u,x,h1,h2,h3⟩:=h.row i n gs e
  exact⟨u,x,h1,h2,h3.shut hs⟩
 live:=by
  rintro O w b m ⟨cs,h⟩ x hx
  rcases hx with rfl | ⟨n,hn⟩
  ·exact dt h.heap
  ·obtain⟨i,hi⟩:=bR hn
   exact(h.root i x n hi).2
theorem Rel.dK {μ:Mu}{a:Act}{w:World}(hr:Rel N cx μ s a w){h:Nat}{k:ap}{bP kty:TypeId}{sz:Nat}{rows:List (Nat×List G)}(hk:aq s.st h=some k) (hl:k.lp=some (.deep (iu bP kty sz rows))){b:Nat}{m:Mm}(hm:μ h=some (b,m)):
  ∃cs,PS bP kty sz rows (bif k.fresh then eA (cx.O s.st μ) cx.base else cx.O s.st μ) w b m cs:=by
 have:=hr.st.dc h k hk
 rw[hm] at this
 exact((aQ.deep hl).1 this).1
theorem Rel.wI {μ:Mu}{a:Act}{w w':World}(hrel:Rel N cx μ s a w){h:Nat}{k:ap}(hk:aq s.st h=some k){b:Nat}{m:Mm}(hm:μ h=some (b,m))
  (hW:W.contains h=false) (hag:LX W s μ w w'){c:Nat}(hi:In c b m):w'.heap[c]?=w.heap[c]?:=by
 refine hag.2 c (hrel.st.bU h k b m c hk hm hi).2.2.1 ?_
 intro h' k' c' m' hin hk' hm' hi'
 have:=hrel.st.cE h h' k k' c b m c' m' hk hk' hm hm' hi hi'
 subst this
 simp at hW
 exact hW hin
theorem Kj {i:Nat}(h:i<maxLen):i≠iK:=by unfold iK;simp only[maxLen] at h;omega
theorem YL.RV {t:TypeId}{x:Operand}{h i sz n:Nat}{k:ap}{bP kty:TypeId}{rows:List (Nat×List G)}{gs:List G}(hx:ev s x=some (.loc h i)) (hk:aq s.st h=some k) (hl:k.lp=some (.deep (iu bP kty sz rows))) (hi:rows[i]?=some (n,gs))
  (hag:∀w,(isAgg t).run P w=.ok false w) (hW:W.contains h=false):fB P W s ⟨dst,.load t x,ty,pos,after,guard⟩ (.ks h i sz n):=fun N cx μ a w hrel=>by
 obtain⟨b,m,e1,hm⟩:=hrel.loc hx
 obtain⟨cs,hf⟩:=hrel.dK hk hl hm
 obtain⟨u,x',h1,h2,h3⟩:=hf.row i n gs hi
 refine⟨u,?_,fun w' hs hw'=>?_⟩
 ·cases x' with
  | none=>obtain⟨rfl,_,a',cap,rfl,_⟩:=h3;exact .g9 h i sz a' cap (fun e=>absurd e (Kj (bW (al.1 hi).1 (cB hf.le hf.max))))
  | some ck=>
   obtain⟨c,kk⟩:=ck
   obtain⟨cap,cs',rfl,h4,h5,_⟩:=h3
   exact .ks h i sz n b m c kk cap hm h2 h4 h5
 ·have hb:=hrel.wI hk hm hW ⟨hs,hw'⟩ (.self b m)
  rw[hf.heap] at hb
  have hc:w'.cell? ⟨b,i,none⟩=some u:=by rw[cell_of hb,h1]
  simp[execOp,e1,Instr.loadAt,Instr.sureAddr,loadVar,hag,hc]
theorem Rel.kp {μ:Mu}{a:Act}{w:World}(hrel:Rel N cx μ s a w){x:Operand}{h i off:Nat}(hx:AM.ev s x=some (.kp h i off)):∃b m c n,a.eval x=.pointer (some ⟨c,off,none⟩)∧μ h=some (b,m)∧m.2[i]?=some (some (c,n)):=by
 have hr:=hrel.ev hx
 generalize a.eval x=v at hr
 cases hr with
 | aH h=>cases h
 | kp _ _ _ b m c n hm hk=>exact⟨b,m,c,n,rfl,hm,hk⟩
def Ni (f:Bool):G→G
 | .val v=>.val v
 | g=>bif f then .fr g else g
theorem bG.Ni {O:Nat→Prop}{base:Nat}{w:World}{μ:Mu}{f:Bool}{g:G}{v:Value}(h:bG (bif f then eA O base else O) w g v):aY O base w μ (AM.Ni f g) v:=by
 have key:aY O base w μ (bif f then .fr g else g) v:=by
  cases f with
  | false=>exact .aH h
  | true=>exact .fr h
 cases g with
 | val u=>cases h;exact .aH (.val _)
 | _=>exact key
theorem YL.Eg {t:TypeId}{x:Operand}{h i off sz n:Nat}{k:ap}{bP kty:TypeId}{rows:List (Nat×List G)}{gs:List G}{g:G}(hx:ev s x=some (.kp h i off)) (hk:aq s.st h=some k) (hl:k.lp=some (.deep (iu bP kty sz rows)))
  (hi:rows[i]?=some (n,gs)) (hg:gs[off]?=some g) (hag:∀w,(isAgg t).run P w=.ok false w) (hW:W.contains h=false):fB P W s ⟨dst,.load t x,ty,pos,after,guard⟩ (Ni k.fresh g):=fun N cx μ a w hrel=>by
 obtain⟨b,m,c,n',e1,hm,hc⟩:=hrel.kp hx
 obtain⟨cs,hf⟩:=hrel.dK hk hl hm
 obtain⟨u,x',h1,h2,h3⟩:=hf.row i n gs hi
 rw[hc] at h2
 cases h2
 obtain⟨cap,cs',_,_,_,h6,_,_,_,h10⟩:=h3
 obtain⟨v,hv,hr⟩:=h10 off g hg
 refine⟨v,hr.Ni,fun w' hs hw'=>?_⟩
 have hb:=hrel.wI hk hm hW ⟨hs,hw'⟩ (.lq hc)
 rw[h6] at hb
 have hcell:w'.cell? ⟨c,off,none⟩=some v:=by rw[cell_of hb,hv]
 simp[execOp,e1,Instr.loadAt,Instr.sureAddr,loadVar,hag,hcell]
theorem cO.rewrite {μ:Mu}{st:List (Nat×ap)}{w w':World}(h:cO cx μ st w){hh:Nat}{k k':ap}{b c:Nat}{m:Mm}(hk:aq st hh=some k) (hm:μ hh=some (b,m)) (hc:In c b m)
  (hsz:w'.heap.size=w.heap.size) (hoth:∀b',b'≠c→w'.heap[b']?=w.heap[b']?) (hos:w'.os=w.os) (htape:w'.tape=w.tape) (hout:w'.output=w.output) (hmine:k'.cw=true→k.cw=true)
  (hb:∀O',(∀x,cx.O st μ x↔O' x)→aQ O' cx.base w' μ k' (some (b,m))):
  cO cx μ (bD st hh k') w'∧Kept (cx.O st μ) w w'∧∀b,cx.O (bD st hh k') μ b↔cx.O st μ b:=by
 have hOO:∀b,cx.O (bD st hh k') μ b↔cx.O st μ b:=fun b=>or_congr Iff.rfl (Own.bD hk)
 have hown:cx.O st μ c:=.inr ⟨hh,k,b,m,hk,hm,hc⟩
 have hkept:Kept (cx.O st μ) w w':=⟨by rw[hsz];exact az _,fun b' _ hn=>hoth b' fun e=>hn (e▸hown)⟩
 have hO:∀b,b<w.heap.size→¬cx.O st μ b→¬cx.O (bD st hh k') μ b:=fun b _ hn ho=>hn ((hOO b).1 ho)
 obtain⟨hx,hbA,_⟩:=h.bU hh k b m c hk hm hc
 refine⟨{dc:=?_,cE:=?_,bU:=?_,ei:=?_,eg:=h.eg,hb:=by rw[hsz];exact h.hb,os:=hos.trans h.os,tape:=htape.trans h.tape,output:=hout.trans h.output,da:=?_},hkept,hOO⟩
 ·intro x k1 h1
  rcases cI hk h1 with ⟨rfl,rfl⟩ | ⟨hne,h1⟩
  ·rw[hm];exact hb _ fun x=>(hOO x).symm
  ·exact(h.dc x k1 h1).mono (fun b1 m1 hmx y hy=>hoth y fun e=>hne (h.cE x hh k1 k y b1 m1 b m h1 hk hmx hm hy (e▸hc))) hkept hO
 ·intro x x' k1 k2 y b1 m1 b2 m2 h1 h2
  have f:∀x k1,aq (bD st hh k') x=some k1→∃k1,aq st x=some k1:=fun x k1 h1=>by
   rcases cI hk h1 with ⟨rfl,rfl⟩ | ⟨_,h1⟩
   ·exact⟨k,hk⟩
   ·exact⟨_,h1⟩
  obtain⟨k1',h1'⟩:=f x k1 h1
  obtain⟨k2',h2'⟩:=f x' k2 h2
  exact h.cE x x' k1' k2' y b1 m1 b2 m2 h1' h2'
 ·intro x k1 b1 m1 y h1 h2 h3
  rw[hsz]
  rcases cI hk h1 with ⟨rfl,rfl⟩ | ⟨_,h1⟩
  ·exact let ⟨a1,a2,a3,a4⟩:=h.bU x k b1 m1 y hk h2 h3;⟨a1,a2,a3,fun hm=>a4 (hmine hm)⟩
  ·exact h.bU x k1 b1 m1 y h1 h2 h3
 ·intro x k1 h1 h2
  rcases cI hk h1 with ⟨rfl,rfl⟩ | ⟨_,h1⟩
  ·exact h.ei x k hk h2
  ·exact h.ei x k1 h1 h2
 ·intro b' hb1 hA
  rw[hoth b' (fun e=>by subst e;exact hbA.elim (fun h1=>by omega) (fun h1=>hA h1))]
  exact h.da b' hb1 hA
theorem Rel.rewrite {μ:Mu}{a:Act}{w w':World}(h:Rel N cx μ s a w){hh:Nat}{k k':ap}{b c:Nat}{m:Mm}(hk:aq s.st hh=some k) (hm:μ hh=some (b,m)) (hc:In c b m)
  (hsz:w'.heap.size=w.heap.size) (hoth:∀b',b'≠c→w'.heap[b']?=w.heap[b']?) (hos:w'.os=w.os) (htape:w'.tape=w.tape) (hout:w'.output=w.output) (hmine:k'.cw=true→k.cw=true)
  (hb:∀O',(∀x,cx.O s.st μ x↔O' x)→aQ O' cx.base w' μ k' (some (b,m))) (hW:W.contains hh=true):
  Rel N cx μ {fr:=s.fr,st:=bD s.st hh k',df:=s.df} a w'∧Step W s.st μ (bD s.st hh k') μ w w':=by
 obtain⟨h1,h2,h3⟩:=h.st.rewrite hk hm hc hsz hoth hos htape hout hmine hb
 refine⟨{st:=h1,nd:=h.nd.mono h2 (fun b _ hn ho=>hn ((h3 b).1 ho)),sz:=h.sz,fr:=fun t g hg=>?_},?_⟩
 ·obtain⟨v,hv,hr⟩:=h.fr t g hg
  exact⟨v,hv,hr.mono h2 (fun b _ hn ho=>hn ((h3 b).1 ho)) (az _)⟩
 ·refine⟨by rw[hsz];exact az _,fun b' _ hn=>hoth b' fun e=>?_,fun x k1 c1 m1 y hw h1 h2 hy=>?_⟩
  ·subst e
   exact hn hh k b m (by simpa using hW) hk hm hc
  ·rcases cI hk h1 with ⟨rfl,rfl⟩ | ⟨_,h1⟩
   ·exact .inl ⟨x,k,c1,m1,hw,hk,h2,hy⟩
   ·exact .inl ⟨x,k1,c1,m1,hw,h1,h2,hy⟩
theorem EF.Eg {t:TypeId}{x y:Operand}{h i off sz n:Nat}{k:ap}{bP kty:TypeId}{rows:List (Nat×List G)}{gs:List G}{g g':G}{f:Bool}(hx:ev s x=some (.kp h i off)) (hy:ev s y=some g) (hk:aq s.st h=some k)
  (hl:k.lp=some (.deep (iu bP kty sz rows))) (hi:rows[i]?=some (n,gs)) (hoff:off<gs.length) (hig:BM g=some (g',f)) (hone:g.one=true) (hsz:∀w,(sizeOf t).run P w=.ok 1 w) (hW:W.contains h=true):
  bN P W s ⟨none,.store t x y,ty,pos,after,guard⟩ (·={fr:=s.fr,st:=bD s.st h {k with fresh:=k.fresh&&f,lp:=some (.deep (iu bP kty sz (rows.set i (n,gs.set off g'))))},df:=s.df}):=by
 refine bN.skip rfl (fun _ h=>by cases h) ?_
 intro N cx μ a w hr
 obtain⟨b,m,c,n',e1,hm,hc⟩:=hr.kp hx
 obtain⟨cs0,hf⟩:=hr.dK hk hl hm
 obtain⟨u,x',h1,h2,h3⟩:=hf.row i n gs hi
 rw[hc] at h2
 cases h2
 obtain⟨cap,cs,q1,q2,q3,q4,q5,q6,q7,q8⟩:=h3
 have hlen:off<cs.size:=by rw[q5,←q3];have:=b7 sz q2;omega
 have hv:=hr.ev hy
 have hvone:=hv.one hone
 have hcells:=ma hvone
 have hrun:=run_storeCells_at P c off kty [a.eval y] 0 cs w q4 (by simp;omega) (fun v hv=>by simp at hv;subst hv;exact hvone)
 simp only[dq,bA,cX,bT] at hrun
 refine⟨μ,w.setRow c (cs.toList.take off++[a.eval y]++cs.toList.drop (off+1)).toArray,?_,?_⟩
 ·simp only[execOp,Instr.storeAt,Instr.sureAddr,e1,storeVar,hsz,Sem.run_bind,Sem.run_pure,Result.andThen_ok]
  rw[if_neg (by rw[hcells];simp)]
  rw[hcells]
  show((storeCells ⟨c,off,none⟩ [a.eval y] 0).run P w).andThen _=_
  rw[hrun]
  rfl
 ·have hset:(cs.toList.take off++[a.eval y]++cs.toList.drop (off+1)).toArray=cs.setIfInBounds off (a.eval y):=by
   apply Array.ext'
   rw[jY,cL,if_pos (by rw[Array.length_toList];omega)]
   simp
  rw[hset]
  refine hr.rewrite (k':={k with fresh:=k.fresh&&f,lp:=some (.deep (iu bP kty sz (rows.set i (n,gs.set off g'))))}) hk hm (.lq hc) (setRow_size _ _ _) (fun b' hb'=>setRow_other w c b' _ hb') rfl rfl rfl id (fun O' hO=>?_) hW
  have hb0:=hr.st.dc h k hk
  rw[hm] at hb0
  obtain⟨_,p2,p3,p4⟩:=(aQ.deep hl).1 hb0
  refine(aQ.deep (d:=iu bP kty sz (rows.set i (n,gs.set off g'))) rfl).2 ⟨⟨cs0,?_⟩,p2,p3,p4⟩
  have hOk:∀x,(bif (k.fresh&&f) then eA O' cx.base else O') x→(bif k.fresh then eA (cx.O s.st μ) cx.base else cx.O s.st μ) x∨k.fresh=true∧x<cx.base:=by
   intro x hx
   cases hkf:k.fresh with
   | false=>rw[hkf] at hx;exact .inl ((hO x).2 hx)
   | true=>
    rw[hkf] at hx
    cases f with
    | true=>
     rcases hx with hx | hx
     ·exact .inr ⟨rfl,hx⟩
     ·exact .inl (.inr ((hO x).2 hx))
    | false=>exact .inl (.inr ((hO x).2 hx))
  have hOk':∀x,(bif (k.fresh&&f) then eA O' cx.base else O') x→(bif k.fresh then eA (cx.O s.st μ) cx.base else cx.O s.st μ) x:=by
   intro x hx
   rcases hOk x hx with h | ⟨h1,h2⟩
   ·exact h
   ·rw[h1];exact .inl h2
  have hkept:Kept (bif k.fresh then eA (cx.O s.st μ) cx.base else cx.O s.st μ) w (w.setRow c (cs.setIfInBounds off (a.eval y))):=by
   refine⟨by rw[setRow_size];exact az _,fun b' _ hn=>setRow_other w c b' _ fun e=>hn ?_⟩
   subst e
   have:cx.O s.st μ b':=.inr ⟨h,k,b,m,hk,hm,.lq hc⟩
   cases k.fresh with
   | false=>exact this
   | true=>exact .inr this
  have hne:b≠c:=fun e=>(hf.root i c n' hc).1 e.symm
  refine {len:=by rw[cW];exact hf.len,root:=fun i c k e=>⟨(hf.root i c k e).1,by rw[setRow_size];exact(hf.root i c k e).2⟩,inj:=hf.inj,heap:=(setRow_other w c b _ hne).trans hf.heap,size:=hf.size,le:=by rw[cW];exact hf.le,max:=hf.max,row:=fun j nj gj hj=>?_}
  rw[dr] at hj
  split at hj
  ·rename_i e
   subst e
   split at hj
   ·cases hj
    refine⟨u,_,h1,hc,cap,cs.setIfInBounds off (a.eval y),q1,q2,q3,fY q4,by simp[q5],q6,by simp[q7],fun j g1 hg1=>?_⟩
    rw[dr] at hg1
    split at hg1
    ·rename_i hj
     subst hj
     cases hg1
     refine⟨a.eval y,by rw[dF hlen],?_⟩
     have:=u4 hv hig
     refine this.mono (w':=w.setRow c (cs.setIfInBounds off (a.eval y))) ⟨by rw[setRow_size];exact az _,fun b' hb' hn=>setRow_other w c b' _ fun e=>hn ?_⟩ fun x _ hn hx=>hn ?_
     ·subst e
      have hown:cx.O s.st μ b':=.inr ⟨h,k,b,m,hk,hm,.lq hc⟩
      cases f with
      | false=>exact hown
      | true=>exact .inr hown
     ·cases f with
      | false=>rw[Bool.and_false] at hx;exact(hO x).2 hx
      | true=>
       rw[jb] at hx
       cases hkf:k.fresh with
       | false=>rw[hkf] at hx;exact .inr ((hO x).2 hx)
       | true=>rw[hkf] at hx;exact hx.imp id (hO x).2
    ·rename_i hj
     obtain⟨v,hv1,hrv⟩:=q8 j g1 hg1
     refine⟨v,by rw[dz hj];exact hv1,hrv.mono hkept fun x _ hn hx=>hn (hOk' x hx)⟩
   ·cases hj
  ·rename_i hne'
   obtain⟨u',y',r1,r2,r3⟩:=hf.row j nj gj hj
   refine⟨u',y',r1,r2,r3.mono hkept (fun x _ hn hx=>hn (hOk' x hx)) fun c' k' e=>setRow_other w c c' _ fun e'=>?_⟩
   subst e'
   exact hne' (hf.inj i j c' n' k' hc (by rw[r2,e]))
end
end Go.AM
/-
 AM:what belongs to a block is told anew:slices of slices that are empty,that are handed dm,that are written no more.
-/
namespace Go.AM
def eJ (h:Nat):G→G
 | .kp x i off=>bif Nat.beq x h then .any else .kp x i off
 | .ks x i sz n=>bif Nat.beq x h then .any else .ks x i sz n
 | .agg gs=>.agg (go gs)
 | .bl gs=>.bl (go gs)
 | .aF f gs=>.aF f (go gs)
 | g=>g
where go:List G→List G
 | []=>[]
 | g::r=>eJ h g::go r
theorem l6 {h:Nat}{gs:List G}:(eJ.go h gs).length=gs.length∧∀(j:Nat) (g':G),(eJ.go h gs)[j]?=some g'→∃g,gs[j]?=some g∧g'=eJ h g:=by
 induction gs with
 | nil=>exact⟨rfl,fun j g e=>by simp[eJ.go] at e⟩
 | cons x r ih=>
  refine⟨by simp[eJ.go,ih.1],fun j g' e=>?_⟩
  simp only[eJ.go] at e
  cases j with
  | zero=>cases e;exact⟨x,rfl,rfl⟩
  | succ j=>exact ih.2 j g' e
def qD (h:Nat) (k:ap):ap:=bif k.pure then k else {k with cells:=eJ.go h k.cells}
def mC (h:Nat):List (Nat×G)→List (Nat×G)
 | []=>[]
 | (t,g)::r=>(t,eJ h g)::mC h r
def jr (h:Nat):List (Nat×ap)→List (Nat×ap)
 | []=>[]
 | (t,k)::r=>(t,qD h k)::jr h r
theorem Fg {h:Nat}{fr:List (Nat×G)}{t:Nat}{g:G}(hg:get (mC h fr) t=some g):∃g0,get fr t=some g0∧g=eJ h g0:=by
 induction fr with
 | nil=>cases hg
 | cons x r ih=>
  obtain⟨y,g'⟩:=x
  simp only[mC,gH] at hg⊢
  cases hb:Nat.beq y t with
  | true=>rw[hb] at hg;cases hg;exact⟨g',rfl,rfl⟩
  | false=>rw[hb] at hg;exact ih hg
theorem Cs {h:Nat}{st:List (Nat×ap)}{t:Nat}{k:ap}(hg:aq (jr h st) t=some k):∃k0,aq st t=some k0∧k=qD h k0:=by
 induction st with
 | nil=>cases hg
 | cons x r ih=>
  obtain⟨y,k'⟩:=x
  simp only[jr,ig] at hg⊢
  cases hb:Nat.beq y t with
  | true=>rw[hb] at hg;cases hg;exact⟨k',rfl,rfl⟩
  | false=>rw[hb] at hg;exact ih hg
theorem EC (h:Nat) (k:ap):(qD h k).cw=k.cw∧(qD h k).lp=k.lp∧(qD h k).pure=k.pure:=by
 unfold qD;cases hp:k.pure <;> simp[hp]
def F8 (μ μ':Mu) (h:Nat):Prop:=(∀y,y≠h→μ' y=μ y)∧match μ h with
 | none=>μ' h=none
 | some (b,m)=>∃m':Mm,μ' h=some (b,m')∧m'.1=m.1
theorem aY.eJ {O:Nat→Prop}{base:Nat}{w:World}{μ μ':Mu}{h:Nat}{g:G}{v:Value}(hv:aY O base w μ g v) (hr:F8 μ μ' h):aY O base w μ' (AM.eJ h g) v:=by
 have key:∀{y:Nat}{b:Nat}{m:Mm},μ y=some (b,m)→∃m':Mm,μ' y=some (b,m')∧m'.1=m.1:=by
  intro y b m hm
  by_cases e:y=h
  ·subst e
   have:=hr.2
   rw[hm] at this
   exact this
  ·exact⟨m,(hr.1 y e).trans hm,rfl⟩
 have aH:∀{g:G}{v:Value},bG O w g v→aY O base w μ' (AM.eJ h g) v:=by
  intro g v hi
  induction hi with
  | any v=>exact .aH (.any v)
  | val v=>exact .aH (.val v)
  | nil=>exact .aH .nil
  | gQ a c=>exact .aH (.gQ a c)
  | sl n cells b off cap us h1 h2 h3 h4 h5 ih=>exact .aH (.sl n cells b off cap us h1 h2 h3 h4 h5)
  | ptr cells b off us h1 h2 h3 h4 ih=>exact .aH (.ptr cells b off us h1 h2 h3 h4)
  | agg cells us hl hr ih=>
   refine .agg _ us (by rw[l6.1];exact hl) fun j g v hg hv=>?_
   obtain⟨g0,e1,rfl⟩:=l6.2 j g hg
   exact ih j g0 v e1 hv
 induction hv with
 | aH h=>exact aH h
 | fr h=>exact .fr h
 | loc x off b m hm=>obtain⟨m',e,_⟩:=key hm;exact .loc x off b m' e
 | eQ x sz hm=>
  refine .eQ x sz ?_
  by_cases e:x=h
  ·subst e
   have:=hr.2
   rw[hm] at this
   exact this
  ·exact(hr.1 x e).trans hm
 | aR x sz off n b m cap hm hn hc=>obtain⟨m',e,e1⟩:=key hm;exact .aR x sz off n b m' cap e hn (hc.trans e1.symm)
 | dJ x sz off0 b m hm hp=>
  obtain⟨⟨m',ks⟩,e,e1⟩:=key hm
  dsimp only at e1
  subst e1
  exact .dJ x sz off0 b m' e hp
 | ct x b m hm=>obtain⟨m',e,_⟩:=key hm;exact .ct x b m' e
 | dV x b m hm=>obtain⟨m',e,_⟩:=key hm;exact .dV x b m' e
 | kp x i off b m c n hm hk=>
  simp only[AM.eJ]
  cases hb:Nat.beq x h with
  | true=>exact .aH (.any _)
  | false=>exact .kp x i off b m c n ((hr.1 x fun e=>by subst e;rw[aI] at hb;cases hb).trans hm) hk
 | g9 x i sz a cap hi=>
  simp only[AM.eJ]
  cases hb:Nat.beq x h with
  | true=>exact .aH (.any _)
  | false=>exact .g9 x i sz a cap hi
 | ks x i sz n b m c k cap hm hk hn hc=>
  simp only[AM.eJ]
  cases hb:Nat.beq x h with
  | true=>exact .aH (.any _)
  | false=>exact .ks x i sz n b m c k cap ((hr.1 x fun e=>by subst e;rw[aI] at hb;cases hb).trans hm) hk hn hc
 | agg cells us hl hr' ih=>
  refine .agg _ us (by rw[l6.1];exact hl) fun j g v hg hv=>?_
  obtain⟨g0,e1,rfl⟩:=l6.2 j g hg
  exact ih j g0 v e1 hv
 | bl cells us hl hr' ih=>
  refine .bl _ us (by rw[l6.1];exact hl) fun j g v hg hv=>?_
  obtain⟨g0,e1,rfl⟩:=l6.2 j g hg
  exact ih j g0 v e1 hv
 | aF f cells us hl hr' ih=>
  refine .aF f _ us (by rw[l6.1];exact hl) fun j g v hg hv=>?_
  obtain⟨g0,e1,rfl⟩:=l6.2 j g hg
  exact ih j g0 v e1 hv
theorem aQ.eJ {O:Nat→Prop}{base:Nat}{w:World}{μ μ':Mu}{h:Nat}{k:ap}{x:Option (Nat×Mm)}(hb:aQ O base w μ k x) (hr:F8 μ μ' h):aQ O base w μ' (qD h k) x:=by
 unfold qD
 cases hp:k.pure with
 | true=>exact hb.fH fun hp'=>by rw[hp] at hp';cases hp'
 | false=>
  simp only[cond_false]
  cases x with
  | none=>
   obtain⟨h1,h2⟩:=hb
   refine⟨bp (by simp only;rw[l6.1,h1];rfl),?_⟩
   dsimp only
   split at h2
   ·trivial
   ·exact h2.elim
   ·rw[hp] at h2;cases h2.2
  | some bm=>
   obtain⟨b,m⟩:=bm
   cases hl:k.lp with
   | none=>
    obtain⟨cs1,h4,h5,h6,h7,h8,h9⟩:=hb.cells hl
    refine .mk rfl (hb.kn hl) ⟨cs1,h4,h5,by simp only;rw[l6.1];exact h6,h7,h8,fun j g hg=>?_⟩
    obtain⟨g0,e1,rfl⟩:=l6.2 j g hg
    obtain⟨v,hv,hrv⟩:=h9 j g0 e1
    refine⟨v,hv,?_⟩
    unfold cz at hrv⊢
    rw[hp] at hrv
    simp only
    exact hrv.eJ hr
   | some kd=>
    cases kd with
    | deep d=>have:=((aQ.deep hl).1 hb).2.1;rw[hp] at this;cases this
    | loop lp=>
     obtain⟨D,vs,q1,q2,q3,q4,q5⟩:=(aQ.loop hl).1 hb
     refine(aQ.loop rfl).2 ⟨D,vs,q1,q2,q3,rfl,fun j t g ht hg=>?_⟩
     obtain⟨g0,e1,rfl⟩:=l6.2 j g hg
     obtain⟨v,hv,hrv⟩:=q5 j t g0 ht e1
     exact⟨v,hv,hrv.eJ hr⟩
section
variable {P:Program}{N:Nat}{cx:Cx}{s:St}{W:List Nat}
theorem Rel.KR {μ : Mu} {a : Act} {w w' : World} (hr : Rel N cx μ s a w) {hh : Nat} {k k' : ap} {b c : Nat} {m m' : Mm} {rm : List Nat} {st' : List (Nat × ap)} (hk : aq s.st hh = some k) (hm : μ hh = some (b, m)) (hm1 : m'.1 = m.1)
    (hk' : aq st' hh = some k') (hst : ∀ x k1, x ≠ hh → aq st' x = some k1 → x ∉ rm ∧ ∃ k0, aq s.st x = some k0 ∧ k1 = qD hh k0)
    (hin : ∀ y, In y b m' → In y b m ∨ ∃ x k0 c n, x ∈ rm ∧ aq s.st x = some k0 ∧ μ x = some (c, n) ∧ In y c n ∧ (k'.cw = true → k0.cw = true))
    (hc : In c b m) (hsz : w'.heap.size = w.heap.size) (hoth : ∀ b', b' ≠ c → w'.heap[b']? = w.heap[b']?) (hos : w'.os = w.os) (htape : w'.tape = w.tape) (hout : w'.output = w.output) (hmine : k'.cw = true → k.cw = true)
    (hpn : pinned hh = false ∨ m' = m) (hb : ∀ O', (∀ x, O' x → cx.O s.st μ x) → (∀ x, O' x → cx.X x ∨ In x b m' ∨ ∃ y k0 c n, y ≠ hh ∧ y ∉ rm ∧ aq s.st y = some k0 ∧ μ y = some (c, n) ∧ In x c n) → aQ O' cx.base w' (fV μ hh (some (b, m'))) k' (some (b, m'))) (hW : ∀ x ∈ hh :: rm, W.contains x = true) :
    Rel N cx (fV μ hh (some (b, m'))) { fr := mC hh s.fr, st := st', df := eJ.go hh s.df } a w' ∧ Step W s.st μ st' (fV μ hh (some (b, m'))) w w' := by
  have hre : F8 μ (fV μ hh (some (b, m'))) hh := ⟨fun y hy => aT hy, by rw [hm]; exact ⟨m', bz _ _ _, hm1⟩⟩
  have hO : ∀ x, cx.O st' (fV μ hh (some (b, m'))) x → cx.O s.st μ x := by
    rintro x (ho | ⟨y, k1, c1, m1, h1, h2, h3⟩)
    · exact .inl ho
    · by_cases e : y = hh
      · subst e
        rw [bz] at h2
        cases h2
        rcases hin x h3 with h4 | ⟨z, k0, c2, n2, _, q1, q2, q3, _⟩
        · exact .inr ⟨y, k, b, m, hk, hm, h4⟩
        · exact .inr ⟨z, k0, c2, n2, q1, q2, q3⟩
      · rw [aT e] at h2
        obtain ⟨_, k0, h4, _⟩ := hst y k1 e h1
        exact .inr ⟨y, k0, c1, m1, h4, h2, h3⟩
  have hO' : ∀ x, cx.O st' (fV μ hh (some (b, m'))) x → cx.X x ∨ In x b m' ∨ ∃ y k0 c n, y ≠ hh ∧ y ∉ rm ∧ aq s.st y = some k0 ∧ μ y = some (c, n) ∧ In x c n := by
    rintro x (ho | ⟨y, k1, c1, m1, h1, h2, h3⟩)
    · exact .inl ho
    · by_cases e : y = hh
      · subst e
        rw [bz] at h2
        cases h2
        exact .inr (.inl h3)
      · rw [aT e] at h2
        obtain ⟨h5, k0, h4, _⟩ := hst y k1 e h1
        exact .inr (.inr ⟨y, k0, c1, m1, e, h5, h4, h2, h3⟩)
  have hOn : ∀ b, b < w.heap.size → ¬ cx.O s.st μ b → ¬ cx.O st' (fV μ hh (some (b, m'))) b ∨ True := fun _ _ _ => .inr trivial
  have hown : cx.O s.st μ c := .inr ⟨hh, k, b, m, hk, hm, hc⟩
  have hkept : Kept (cx.O s.st μ) w w' := ⟨by rw [hsz]; exact az _, fun b' _ hn => hoth b' fun e => hn (e ▸ hown)⟩
  have hOm : ∀ x, x < w.heap.size → ¬ cx.O s.st μ x → ¬ cx.O st' (fV μ hh (some (b, m'))) x := fun x _ hn ho => hn (hO x ho)
  obtain ⟨_, hcA, hcl, _⟩ := hr.st.bU hh k b m c hk hm hc
  have was : ∀ x k1 b1 m1 y, aq st' x = some k1 → fV μ hh (some (b, m')) x = some (b1, m1) → In y b1 m1 →
      ∃ z k0 c0 m0, aq s.st z = some k0 ∧ μ z = some (c0, m0) ∧ In y c0 m0 ∧ (k1.cw = true → k0.cw = true) ∧ ((x ≠ hh ∧ z = x ∧ z ∉ rm) ∨ (x = hh ∧ (z = hh ∨ z ∈ rm))) := by
    intro x k1 b1 m1 y h1 h2 h3
    by_cases e : x = hh
    · subst e
      rw [bz] at h2
      cases h2
      rw [hk'] at h1
      cases h1
      rcases hin y h3 with h4 | ⟨z, k0, c2, n2, q0, q1, q2, q3, q4⟩
      · exact ⟨x, k, b, m, hk, hm, h4, hmine, .inr ⟨rfl, .inl rfl⟩⟩
      · exact ⟨z, k0, c2, n2, q1, q2, q3, q4, .inr ⟨rfl, .inr q0⟩⟩
    · rw [aT e] at h2
      obtain ⟨q0, k0, h4, rfl⟩ := hst x k1 e h1
      exact ⟨x, k0, b1, m1, h4, h2, h3, fun h => by rw [(EC hh k0).1] at h; exact h, .inl ⟨e, rfl, q0⟩⟩
  refine ⟨{ st := { dc := ?_, cE := ?_, bU := ?_, ei := ?_, eg := hr.st.eg, hb := by rw [hsz]; exact hr.st.hb, os := hos.trans hr.st.os, tape := htape.trans hr.st.tape, output := hout.trans hr.st.output, da := ?_ }, nd := ?_, sz := hr.sz, fr := ?_ }, ?_⟩
  · intro x k1 h1
    by_cases e : x = hh
    · subst e
      rw [hk'] at h1
      cases h1
      rw [bz]
      exact hb _ hO hO'
    · rw [aT e]
      obtain ⟨_, k0, h4, rfl⟩ := hst x k1 e h1
      exact ((hr.st.dc x k0 h4).mono (fun b1 m1 hmx y hy => hoth y fun e' => e (hr.st.cE x hh k0 k y b1 m1 b m h4 hk hmx hm hy (e' ▸ hc))) hkept hOm).eJ hre
  · intro x x' k1 k2 y b1 m1 b2 m2 h1 h2 h3 h4 h5 h6
    obtain ⟨z, k0, c0, m0, q1, q2, q3, _, q4⟩ := was x k1 b1 m1 y h1 h3 h5
    obtain ⟨z', k0', c0', m0', r1, r2, r3, _, r4⟩ := was x' k2 b2 m2 y h2 h4 h6
    have := hr.st.cE z z' k0 k0' y c0 m0 c0' m0' q1 r1 q2 r2 q3 r3
    subst this
    rcases q4 with ⟨e1, e2, e3⟩ | ⟨e1, e2⟩ <;> rcases r4 with ⟨f1, f2, f3⟩ | ⟨f1, f2⟩
    · exact e2.symm.trans f2
    · rcases f2 with f2 | f2
      · exact absurd (e2.symm.trans f2) e1
      · exact absurd f2 e3
    · rcases e2 with e2 | e2
      · exact absurd (f2.symm.trans e2) f1
      · exact absurd e2 f3
    · rw [e1, f1]
  · intro x k1 b1 m1 y h1 h2 h3
    obtain ⟨z, k0, c0, m0, q1, q2, q3, q5, _⟩ := was x k1 b1 m1 y h1 h2 h3
    obtain ⟨a1, a2, a3, a4⟩ := hr.st.bU z k0 c0 m0 y q1 q2 q3
    exact ⟨a1, a2, by rw [hsz]; exact a3, fun h => a4 (q5 h)⟩
  · intro x k1 h1 h2
    by_cases e : x = hh
    · subst e
      rw [bz]
      rcases hpn with hpn | rfl
      · rw [hpn] at h2; cases h2
      · rw [← hm]; exact hr.st.ei x k hk h2
    · rw [aT e]
      obtain ⟨_, k0, h4, _⟩ := hst x k1 e h1
      exact hr.st.ei x k0 h4 h2
  · intro b' hb1 hA
    rw [hoth b' (fun e => by subst e; exact hcA.elim (fun h1 => by omega) (fun h1 => hA h1))]
    exact hr.st.da b' hb1 hA
  · have cR := hr.nd.mono hkept hOm
    clear hOn hO hO' was hb
    generalize s.df = gs at cR
    generalize a.defers = ds at cR
    induction cR with
    | nil => exact .nil
    | mark h1 h2 h3 h4 h5 h6 ih => exact .mark h1 h2 h3 h4 h5 ih
    | aF h1 h2 ih => exact .aF (h1.eJ hre) ih
  · intro t g hg
    obtain ⟨g0, h1, rfl⟩ := Fg hg
    obtain ⟨v, hv, hrv⟩ := hr.fr t g0 h1
    exact ⟨v, hv, (hrv.mono hkept hOm (az _)).eJ hre⟩
  · refine ⟨by rw [hsz]; exact az _, fun b' _ hn => hoth b' fun e => ?_, fun x k1 c1 m1 y hw h1 h2 hy => ?_⟩
    · subst e
      exact hn hh k b m (by simpa using hW hh au) hk hm hc
    · obtain ⟨z, k0, c0, m0, q1, q2, q3, _, q4⟩ := was x k1 c1 m1 y h1 h2 hy
      refine .inl ⟨z, k0, c0, m0, ?_, q1, q2, q3⟩
      rcases q4 with ⟨_, e2, _⟩ | ⟨_, e2 | e2⟩
      · exact e2 ▸ hw
      · subst e2; simpa using hW z au
      · simpa using hW z (ao _ e2)
theorem iO {h x:Nat}{st:List (Nat×ap)}{k:ap}(hk:aq st x=some k):aq (jr h st) x=some (qD h k):=by
 induction st with
 | nil=>cases hk
 | cons y r ih=>
  obtain⟨z,k'⟩:=y
  simp only[jr,ig] at hk⊢
  cases hb:Nat.beq z x with
  | true=>rw[hb] at hk;cases hk;rfl
  | false=>rw[hb] at hk;exact ih hk
theorem yI {st:List (Nat×ap)}{hh:Nat}{k k':ap}(hk:aq st hh=some k):aq (bD (jr hh st) hh k') hh=some k'∧
  ∀x k1,x≠hh→aq (bD (jr hh st) hh k') x=some k1→x∉([]:List Nat)∧∃k0,aq st x=some k0∧k1=qD hh k0:=by
 have h1:=iO (h:=hh) hk
 refine⟨fg h1,fun x k1 hne h=>?_⟩
 rw[eO hne] at h
 exact⟨by simp,Cs h⟩
theorem Rel.Jv {μ:Mu}{a:Act}{w:World}(hr:Rel N cx μ s a w){hh:Nat}{k k':ap}(hk:aq s.st hh=some k) (hm:μ hh=none) (hb:aQ (cx.O s.st μ) cx.base w μ k' none):
  Rel N cx μ {fr:=mC hh s.fr,st:=bD (jr hh s.st) hh k',df:=eJ.go hh s.df} a w:=by
 have hre:F8 μ μ hh:=⟨fun _ _=>rfl,by rw[hm]⟩
 obtain⟨r1,r2⟩:=yI (k':=k') hk
 have hO:∀x,cx.O (bD (jr hh s.st) hh k') μ x→cx.O s.st μ x:=by
  rintro x (ho | ⟨y,k1,c1,m1,h1,h2,h3⟩)
  ·exact .inl ho
  ·by_cases e:y=hh
   ·subst e;rw[hm] at h2;cases h2
   ·obtain⟨_,k0,h4,_⟩:=r2 y k1 e h1
    exact .inr ⟨y,k0,c1,m1,h4,h2,h3⟩
 have hOm:∀x,x<w.heap.size→¬cx.O s.st μ x→¬cx.O (bD (jr hh s.st) hh k') μ x:=fun x _ hn ho=>hn (hO x ho)
 have ne:∀{x k1 b m},aq (bD (jr hh s.st) hh k') x=some k1→μ x=some (b,m)→∃k0,aq s.st x=some k0∧k1=qD hh k0:=by
  intro x k1 b m h1 h2
  have e:x≠hh:=fun e=>by subst e;rw[hm] at h2;cases h2
  exact(r2 x k1 e h1).2
 refine {st:={dc:=?_,cE:=?_,bU:=?_,ei:=?_,eg:=hr.st.eg,hb:=hr.st.hb,os:=hr.st.os,tape:=hr.st.tape,output:=hr.st.output,da:=hr.st.da},nd:=?_,sz:=hr.sz,fr:=?_}
 ·intro x k1 h1
  by_cases e:x=hh
  ·subst e
   rw[r1] at h1
   cases h1
   rw[hm]
   exact hb.tS rfl rfl rfl
  ·obtain⟨_,k0,h4,rfl⟩:=r2 x k1 e h1
   exact((hr.st.dc x k0 h4).mono (fun _ _ _ _ _=>rfl) (Kept.refl _ _) hOm).eJ hre
 ·intro x x' k1 k2 y b1 m1 b2 m2 h1 h2 h3 h4 h5 h6
  obtain⟨k0,q1,_⟩:=ne h1 h3
  obtain⟨k0',q1',_⟩:=ne h2 h4
  exact hr.st.cE x x' k0 k0' y b1 m1 b2 m2 q1 q1' h3 h4 h5 h6
 ·intro x k1 b1 m1 y h1 h2 h3
  obtain⟨k0,q1,rfl⟩:=ne h1 h2
  obtain⟨a1,a2,a3,a4⟩:=hr.st.bU x k0 b1 m1 y q1 h2 h3
  exact⟨a1,a2,a3,fun h=>a4 (by rw[(EC hh k0).1] at h;exact h)⟩
 ·intro x k1 h1 h2
  by_cases e:x=hh
  ·subst e;exact hr.st.ei x k hk h2
  ·obtain⟨_,k0,h4,_⟩:=r2 x k1 e h1
   exact hr.st.ei x k0 h4 h2
 ·have cR:=hr.nd.mono (Kept.refl _ _) hOm
  clear hO ne
  generalize s.df=gs at cR
  generalize a.defers=ds at cR
  induction cR with
  | nil=>exact .nil
  | mark h1 h2 h3 h4 h5 h6 ih=>exact .mark h1 h2 h3 h4 h5 ih
  | aF h1 h2 ih=>exact .aF (h1.eJ hre) ih
 ·intro t g hg
  obtain⟨g0,h1,rfl⟩:=Fg hg
  obtain⟨v,hv,hrv⟩:=hr.fr t g0 h1
  exact⟨v,hv,(hrv.mono (Kept.refl _ _) hOm (az _)).eJ hre⟩
theorem Rel.SW {μ : Mu} {a : Act} {w : World} (hr : Rel N cx μ s a w) {hh : Nat} {k : ap} (hk : aq s.st hh = some k) (hlp : k.lp = none) (hp : k.pure = true) (hsz : k.sz = 1) (hc : ∀ g ∈ k.cells, g = .sl 0 []) (hpn : pinned hh = false) (kty : TypeId) (sz : Nat) :
    ∃ μ', Rel N cx μ' { fr := mC hh s.fr, st := bD (jr hh s.st) hh { k with cells := [], lp := some (.deep (iu k.bP kty sz (k.cells.map fun _ => (0, [])))) }, df := eJ.go hh s.df } a w ∧
      ∀ x k1 c m y, aq (bD (jr hh s.st) hh { k with cells := [], lp := some (.deep (iu k.bP kty sz (k.cells.map fun _ => (0, [])))) }) x = some k1 → μ' x = some (c, m) → In y c m → ∃ k0 c0 m0, aq s.st x = some k0 ∧ μ x = some (c0, m0) ∧ In y c0 m0 := by
  have hb := hr.st.dc hh k hk
  obtain ⟨r1, r2⟩ := yI (k' := { k with cells := [], lp := some (.deep (iu k.bP kty sz (k.cells.map fun _ => (0, [])))) }) hk
  cases hm : μ hh with
  | none =>
    rw [hm] at hb
    refine ⟨μ, hr.Jv hk hm ⟨rfl, ?_⟩, ?_⟩
    · exact ⟨by show List.map _ _ = []; rw [hb.1]; rfl, hp⟩
    · intro x k1 c m y h1 h2 h3
      have e : x ≠ hh := fun e => by subst e; rw [hm] at h2; cases h2
      obtain ⟨_, k0, h4, _⟩ := r2 x k1 e h1
      exact ⟨k0, c, m, h4, h2, h3⟩
  | some bm =>
    obtain ⟨b, m⟩ := bm
    rw [hm] at hb
    have hnk := hb.kn hlp
    obtain ⟨cs, h1, h2, h3, h4, h5, h6⟩ := hb.cells hlp
    have hin : ∀ y, In y b ((m.1, List.replicate k.cells.length none) : Mm) → y = b := by
      rintro y (h | ⟨n, h⟩)
      · exact h
      · exact absurd (gO h) (by simp)
    refine ⟨_, (hr.KR (w' := w) (W := [hh]) (c := b) (rm := []) (m' := (m.1, List.replicate k.cells.length none)) hk hm rfl r1 r2 (fun y h => .inl (.inl (hin y h))) (.self _ _) rfl (fun _ _ => rfl) rfl rfl rfl id (.inl hpn) (fun O' hO _ => ?_) (by simp)).1, ?_⟩
    · refine (aQ.deep (d := iu k.bP kty sz (k.cells.map fun _ => (0, []))) rfl).2 ⟨⟨cs, ?_⟩, hp, rfl, h4⟩
      refine { len := by simp, root := fun i c kk e => ?_, inj := fun i j c kk kk' e => ?_, heap := h1, size := h2, le := by simpa using h3, max := ?_, row := fun i n gs e => ?_ }
      · exact absurd (gO (ar e)) (by simp)
      · exact absurd (gO (ar e)) (by simp)
      · have := h5 (by rw [hsz]; simp)
        rw [hsz] at this
        omega
      · rw [ay] at e
        cases hg : k.cells[i]? with
        | none => rw [hg] at e; cases e
        | some g =>
          rw [hg] at e
          cases e
          obtain ⟨v, hv, hrv⟩ := h6 i g hg
          have hil := (al.1 hg).1
          refine ⟨v, none, hv, by rw [ff, if_pos hil], rfl, rfl, ?_⟩
          rw [hc g (ar hg)] at hrv
          unfold cz at hrv
          rw [hp] at hrv
          dsimp only at hrv
          cases hrv with
          | nil => exact ⟨none, 0, rfl, fun _ => rfl⟩
          | gQ a' cap => exact ⟨some a', cap, rfl, fun h => by cases h⟩
          | sl _ _ b' off cap us hn hO hb hc hr => exact ⟨_, cap, rfl, fun h => by cases h⟩
    · intro x k1 c m1 y q1 q2 q3
      by_cases e : x = hh
      · subst e
        rw [bz] at q2
        cases q2
        exact ⟨k, b, m, hk, hm, .inl (hin y q3)⟩
      · rw [aT e] at q2
        obtain ⟨_, k0, q4, _⟩ := r2 x k1 e q1
        exact ⟨k0, c, m1, q4, q2, q3⟩
theorem Rel.Sm {μ : Mu} {a : Act} {w : World} (hr : Rel N cx μ s a w) {hh : Nat} {k : ap} {bP kty : TypeId} {sz : Nat} {rows : List (Nat × List G)} (hk : aq s.st hh = some k) (hl : k.lp = some (.deep (iu bP kty sz rows))) (hety : k.bP = bP) (hsz : k.sz = 1) (hmine : k.cw = true) (hpn : pinned hh = false) :
    ∃ μ', Rel N cx μ' { fr := mC hh s.fr, st := bD (jr hh s.st) hh { k with cells := rows.map (fun r => .sl r.1 r.2), lp := none }, df := eJ.go hh s.df } a w ∧
      ∀ x k1 c m y, aq (bD (jr hh s.st) hh { k with cells := rows.map (fun r => .sl r.1 r.2), lp := none }) x = some k1 → μ' x = some (c, m) → In y c m → ∃ k0 c0 m0, aq s.st x = some k0 ∧ μ x = some (c0, m0) ∧ In y c0 m0 := by
  have hb := hr.st.dc hh k hk
  obtain ⟨r1, r2⟩ := yI (k' := { k with cells := rows.map (fun r => .sl r.1 r.2), lp := none }) hk
  cases hm : μ hh with
  | none =>
    rw [hm] at hb
    obtain ⟨_, hb⟩ := hb
    rw [hl] at hb
    have hrows : rows = [] := hb.1
    refine ⟨μ, hr.Jv hk hm (.nil (by show List.map _ _ = []; rw [hrows]; rfl) rfl), ?_⟩
    intro x k1 c m y h1 h2 h3
    have e : x ≠ hh := fun e => by subst e; rw [hm] at h2; cases h2
    obtain ⟨_, k0, h4, _⟩ := r2 x k1 e h1
    exact ⟨k0, c, m, h4, h2, h3⟩
  | some bm =>
    obtain ⟨b, m⟩ := bm
    rw [hm] at hb
    obtain ⟨⟨cs, hf⟩, hp, hcn, hmb⟩ := (aQ.deep hl).1 hb
    refine ⟨_, (hr.KR (w' := w) (W := [hh]) (c := b) (rm := []) (m' := (m.1, [])) hk hm rfl r1 r2 (fun y h => .inl (.inl (In.plain.1 h))) (.self _ _) rfl (fun _ _ => rfl) rfl rfl rfl id (.inl hpn) (fun O' hO hO' => ?_) (by simp)).1, ?_⟩
    · refine .mk rfl rfl ⟨cs, by dsimp only; rw [hety]; exact hf.heap, hf.size, by simpa using hf.le, hmb, fun _ => by dsimp only; rw [hsz]; have := hf.max; omega, fun i g hg => ?_⟩
      dsimp only at hg
      rw [ay] at hg
      cases hr0 : rows[i]? with
      | none => rw [hr0] at hg; cases hg
      | some r =>
        obtain ⟨n, gs⟩ := r
        rw [hr0] at hg
        cases hg
        obtain ⟨u, x, e1, e2, e3⟩ := hf.row i n gs hr0
        refine ⟨u, e1, ?_⟩
        unfold cz
        dsimp only
        rw [hp]
        dsimp only
        cases x with
        | none =>
          obtain ⟨rfl, rfl, a', cap, rfl, hcap⟩ := e3
          cases a' with
          | none => rw [hcap rfl]; exact .nil
          | some a' => exact .gQ a' cap
        | some ck =>
          obtain ⟨c, kk⟩ := ck
          obtain ⟨cap, cs', rfl, e4, e5, e6, e7, _, e8, e9⟩ := e3
          have hcl := hr.st.bU hh k b m c hk hm (.lq e2)
          have hnO : ¬ (bif k.fresh then eA O' cx.base else O') c := by
            have hn : ¬ O' c := by
              intro ho
              rcases hO' c ho with ho | ho | ⟨y, k0, c0, n0, q1, _, q2, q3, q4⟩
              · exact hcl.1 ho
              · exact (hf.root i c kk e2).1 (In.plain.1 ho)
              · exact q1 (hr.st.cE y hh k0 k c c0 n0 b m q2 hk q3 hm q4 (.lq e2))
            cases k.fresh with
            | false => exact hn
            | true =>
              rintro (h | h)
              · have := hcl.2.2.2 hmine; omega
              · exact hn h
          refine .sl n gs c 0 cap (fun j => (cs'[j]?).getD Go.undef) e4 hnO (dt e6) (fun j hj => ?_) (fun j g hg => ?_)
          · rw [cell_of e6, bT]
            have : j < cs'.size := by rw [e7, ← e5]; have := b7 sz e4; omega
            rw [kw this]; rfl
          · obtain ⟨v, hv, hrv⟩ := e9 j g hg
            rw [hv]
            refine hrv.mono (Kept.refl _ _) fun x _ hn ho => hn ?_
            cases hkf : k.fresh with
            | false => rw [hkf] at ho; exact hO x ho
            | true => rw [hkf] at ho; exact ho.imp id (hO x)
    · intro x k1 c m1 y q1 q2 q3
      by_cases e : x = hh
      · subst e
        rw [bz] at q2
        cases q2
        exact ⟨k, b, m, hk, hm, .inl (In.plain.1 q3)⟩
      · rw [aT e] at q2
        obtain ⟨_, k0, q4, _⟩ := r2 x k1 e q1
        exact ⟨k0, c, m1, q4, q2, q3⟩
variable {ty:TypeId}{pos:String}{after:Array Edge}{guard:Option (Nat×Bool)}
theorem k8 {st:List (Nat×ap)}{h h':Nat}{k:ap}(hne:h'≠h) (hk:aq st h'=some k):aq (oP st h) h'=some k:=by
 induction st with
 | nil=>cases hk
 | cons x r ih=>
  obtain⟨y,g⟩:=x
  simp only[ig] at hk
  simp only[oP]
  cases hb:Nat.beq y h' with
  | true=>
   rw[hb] at hk
   have:=aa hb
   subst this
   have h3:Nat.beq y h=false:=by
    cases h3:Nat.beq y h with
    | false=>rfl
    | true=>exact absurd (aa h3) hne
   rw[h3,cond_false,ig,aI]
   exact hk
  | false=>
   rw[hb] at hk
   cases Nat.beq y h with
   | true=>exact ih hk
   | false=>rw[cond_false,ig,hb];exact ih hk
theorem EF.OZ {t : TypeId} {x y : Operand} {h h2 i sz n : Nat} {k k2 : ap} {bP kty : TypeId} {rows : List (Nat × List G)} (hx : ev s x = some (.loc h i)) (hy : ev s y = some (.aR h2 sz 0 n)) (hne : Nat.beq h2 h = false) (hk : aq s.st h = some k)
    (hl : k.lp = some (.deep (iu bP kty sz rows))) (hi : i < rows.length) (hpn : pinned h = false) (hk2 : aq s.st h2 = some k2) (hp2 : k2.pure = true) (hlp2 : k2.lp = none) (hety : k2.bP = kty) (hsz2 : k2.sz = sz) (hsz0 : 0 < sz) (hn : k2.cells.length = n * sz)
    (hmine : k.cw = true → k2.cw = true) (hsz : ∀ w, (sizeOf t).run P w = .ok 1 w) (hW : W.contains h = true) (hW2 : W.contains h2 = true) :
    bN P W s ⟨none, .store t x y, ty, pos, after, guard⟩ (· = { fr := mC h s.fr, st := bD (jr h (oP s.st h2)) h { k with fresh := k.fresh && k2.fresh, lp := some (.deep (iu bP kty sz (rows.set i (n, k2.cells)))) }, df := eJ.go h s.df }) := by
  have hne : h2 ≠ h := fun e => by subst e; rw [aI] at hne; cases hne
  refine bN.skip rfl (fun _ h => by cases h) ?_
  intro N cx μ a w hr
  obtain ⟨b, m, e1, hm⟩ := hr.loc hx
  obtain ⟨cs, hf⟩ := hr.dK hk hl hm
  have hv := hr.ev hy
  have hnew : ∃ x2, (∀ c kk, x2 = some (c, kk) → ∃ m2, μ h2 = some (c, m2)) ∧ (a.eval y).oneCell' = true ∧ rN (bif k2.fresh then eA (cx.O s.st μ) cx.base else cx.O s.st μ) w kty sz n k2.cells (a.eval y) x2 := by
    generalize a.eval y = v at hv
    cases hv with
    | aH h => cases h
    | eQ _ _ hm2 =>
      have hb := hr.st.dc h2 k2 hk2
      rw [hm2] at hb
      exact ⟨none, (fun c kk e => by cases e), rfl, rfl, hb.1, none, 0, rfl, fun _ => rfl⟩
    | aR _ _ _ _ c m2 cap hm2 hn2 hc2 =>
      obtain ⟨cs2, q1, q2, q3, q4, q5, q6⟩ := hr.own hk2 hm2 hlp2
      refine ⟨some (c, m2.1), fun c' kk e => by cases e; exact ⟨m2, hm2⟩, rfl, cap, cs2, rfl, hn2, by omega, by rw [← hety]; exact q1, q2, by rw [← hsz2]; exact q5 (by omega), hn, fun j g hg => ?_⟩
      obtain ⟨v, hv, hrv⟩ := q6 j g hg
      refine ⟨v, hv, ?_⟩
      unfold cz at hrv
      rw [hp2] at hrv
      exact hrv
    | dJ _ _ off0 c _ hm2 hpos => exact absurd hpos (Nat.lt_irrefl _)
  obtain ⟨x2, hx2, hone, hrow⟩ := hnew
  have hcells := ma hone
  have hlt : i < cs.size := by rw [hf.size]; exact bW hi hf.le
  have hrun := run_storeCells_at P b i bP [a.eval y] 0 cs w hf.heap (by simp; omega) (fun v hv => by simp at hv; subst hv; exact hone)
  simp only [dq, bA, cX, bT] at hrun
  have hset : (cs.toList.take i ++ [a.eval y] ++ cs.toList.drop (i + 1)).toArray = cs.setIfInBounds i (a.eval y) := by
    apply Array.ext'
    rw [jY, cL, if_pos (by rw [Array.length_toList]; omega)]
    simp
  rw [hset] at hrun
  have hb0 := hr.st.dc h k hk
  rw [hm] at hb0
  obtain ⟨_, p2, p3, p4⟩ := (aQ.deep hl).1 hb0
  have hk' : aq (oP s.st h2) h = some k := k8 (fun e => hne e.symm) hk
  have hnc : ∀ c kk, x2 = some (c, kk) → ∀ (j c' k' : Nat), m.2[j]? = some (some (c', k')) → c' ≠ c := by
    intro c kk e j c' k' hj e'
    obtain ⟨m2, hm2⟩ := hx2 c kk e
    exact hne (hr.st.cE h2 h k2 k c c m2 b m hk2 hk hm2 hm (.self _ _) (e' ▸ .lq hj))
  have hcb : ∀ c kk, x2 = some (c, kk) → c ≠ b := by
    intro c kk e e'
    obtain ⟨m2, hm2⟩ := hx2 c kk e
    exact hne (hr.st.cE h2 h k2 k c c m2 b m hk2 hk hm2 hm (.self _ _) (.inl e'))
  have hil : i < m.2.length := by rw [hf.len]; exact hi
  have hr1 := hr.KR (W := W) (w' := w.setRow b (cs.setIfInBounds i (a.eval y))) (k' := { k with fresh := k.fresh && k2.fresh, lp := some (.deep (iu bP kty sz (rows.set i (n, k2.cells)))) }) (c := b) (m' := (m.1, m.2.set i x2)) (rm := [h2])
    (st' := bD (jr h (oP s.st h2)) h { k with fresh := k.fresh && k2.fresh, lp := some (.deep (iu bP kty sz (rows.set i (n, k2.cells)))) }) hk hm rfl (fg (iO hk')) (fun x k1 hxh h1 => by
      rw [eO hxh] at h1
      obtain ⟨k0, h3, h4⟩ := Cs h1
      obtain ⟨h5, h6⟩ := EH h3
      exact ⟨by simpa using h5, k0, h6, h4⟩) (fun y' hy' => by
      rcases hy' with e | ⟨kk, hkk⟩
      · exact .inl (.inl e)
      · rcases kv hkk with h3 | h3
        · exact .inl (.inr ⟨kk, h3⟩)
        · obtain ⟨m2, hm2⟩ := hx2 y' kk h3.symm
          exact .inr ⟨h2, k2, y', m2, by simp, hk2, hm2, .self _ _, hmine⟩) (.self _ _) (setRow_size _ _ _) (fun b' hb' => setRow_other w b b' _ hb') rfl rfl rfl id (.inl hpn) (fun O' hO _ => by
      refine (aQ.deep (d := iu bP kty sz (rows.set i (n, k2.cells))) rfl).2 ⟨⟨cs.setIfInBounds i (a.eval y), ?_⟩, p2, p3, p4⟩
      have hOf : ∀ (f : Bool), ((k.fresh && k2.fresh) = true → f = true) → ∀ x, (bif k.fresh && k2.fresh then eA O' cx.base else O') x → (bif f then eA (cx.O s.st μ) cx.base else cx.O s.st μ) x := by
        intro f hf' x hx
        cases hff : (k.fresh && k2.fresh) with
        | true =>
          rw [hff] at hx
          rw [hf' hff]
          exact hx.imp id (hO x)
        | false =>
          rw [hff] at hx
          cases f with
          | false => exact hO x hx
          | true => exact .inr (hO x hx)
      have hkept : ∀ (f : Bool), Kept (bif f then eA (cx.O s.st μ) cx.base else cx.O s.st μ) w (w.setRow b (cs.setIfInBounds i (a.eval y))) := by
        intro f
        refine ⟨by rw [setRow_size]; exact az _, fun b' _ hn => setRow_other w b b' _ fun e => hn ?_⟩
        subst e
        have hown : cx.O s.st μ b' := .inr (.root hk hm)
        cases f with
        | false => exact hown
        | true => exact .inr hown
      have hset' : ∀ (j : Nat) (x : Option (Nat × Nat)), (m.2.set i x2)[j]? = some x → (j = i ∧ x = x2) ∨ (j ≠ i ∧ m.2[j]? = some x) := by
        intro j x hj
        rw [dr] at hj
        split at hj
        · rename_i e
          subst e
          cases hj
          exact .inl ⟨rfl, rfl⟩
        · rename_i e
          exact .inr ⟨fun h => e h.symm, hj⟩
      refine { len := by rw [cW, cW]; exact hf.len, root := fun j c kk e => ?_, inj := fun j j' c kk kk' e e' => ?_, heap := fY hf.heap, size := by simp [hf.size], le := by rw [cW]; exact hf.le, max := hf.max, row := fun j nj gj hj => ?_ }
      · rcases hset' j _ e with ⟨_, e1⟩ | ⟨_, e1⟩
        · refine ⟨hcb c kk e1.symm, ?_⟩
          obtain ⟨m2, hm2⟩ := hx2 c kk e1.symm
          rw [setRow_size]
          exact (hr.st.bU h2 k2 c m2 c hk2 hm2 (.self _ _)).2.2.1
        · exact ⟨(hf.root j c kk e1).1, by rw [setRow_size]; exact (hf.root j c kk e1).2⟩
      · rcases hset' j _ e with ⟨q1, q2⟩ | ⟨q1, q2⟩ <;> rcases hset' j' _ e' with ⟨r1, r2⟩ | ⟨r1, r2⟩
        · rw [q1, r1]
        · exact absurd rfl (hnc c kk q2.symm j' c kk' r2)
        · exact absurd rfl (hnc c kk' r2.symm j c kk q2)
        · exact hf.inj j j' c kk kk' q2 r2
      · rw [dr] at hj
        split at hj
        · rename_i e
          subst e
          cases hj
          refine ⟨a.eval y, x2, by rw [dF hlt], by rw [cG hil], hrow.mono (hkept _) (fun x _ hn ho => hn (hOf k2.fresh (fun e => by simp at e; exact e.2) x ho)) fun c kk e => setRow_other w b c _ (hcb c kk e)⟩
        · rename_i e
          obtain ⟨u, x, q1, q2, q3⟩ := hf.row j nj gj hj
          exact ⟨u, x, by rw [dz e]; exact q1, by rw [eG e]; exact q2, q3.mono (hkept _) (fun x _ hn ho => hn (hOf k.fresh (fun e => by simp at e; exact e.1) x ho)) fun c kk e => setRow_other w b c _ (hf.root j c kk (by rw [q2, e])).1⟩) (fun x hx => by
      rcases aZ.1 hx with rfl | hx
      · exact hW
      · rcases aZ.1 hx with rfl | hx
        · exact hW2
        · cases hx)
  refine ⟨_, _, ?_, hr1.1, hr1.2⟩
  simp only [execOp, Instr.storeAt, Instr.sureAddr, e1, storeVar, hsz, Sem.run_bind, Sem.run_pure, Result.andThen_ok]
  rw [if_neg (by rw [hcells]; simp)]
  rw [hcells]
  show ((storeCells ⟨b, i, none⟩ [a.eval y] 0).run P w).andThen _ = _
  rw [hrun]
  rfl
end
end Go.AM
/-
 AM:slices of slices grow:one made of a slice of the call's own;one appended to another.
-/
namespace Go.AM
section
variable {P:Program}{N:Nat}{cx:Cx}{s:St}{W:List Nat}
theorem Step.andThen {st st1 st2:List (Nat×ap)}{μ μ1 μ2:Mu}{w w1 w2:World}(h:Step W st μ st1 μ1 w w1) (h':Step W st1 μ1 st2 μ2 w1 w2):Step W st μ st2 μ2 w w2:=by
 refine⟨cB h.size h'.size,fun b hb hn=>(h'.block b (bW hb h.size) fun x k c m hx hk hm hi=>?_).trans (h.block b hb hn),fun x k c m b hx hk hm hi=>?_⟩
 ·rcases h.hand x k c m b hx hk hm hi with ⟨h0,k0,c0,m0,q1,q2,q3,q4⟩ | h3
  ·exact hn h0 k0 c0 m0 q1 q2 q3 q4
  ·omega
 ·rcases h'.hand x k c m b hx hk hm hi with ⟨h0,k0,c0,m0,q1,q2,q3,q4⟩ | h3
  ·exact h.hand h0 k0 c0 m0 b q1 q2 q3 q4
  ·exact .inr (cB h.size h3)
theorem bN.after {o:Oper}{s1 s2:St}(he:bN P W s o (·=s1)) (hg:∀(N:Nat) (cx:Cx) (μ:Mu) (a:Act) (w:World),Rel N cx μ s1 a w→∃μ',Rel N cx μ' s2 a w∧Step W s1.st μ s2.st μ' w w):bN P W s o (·=s2):=by
 refine⟨he.1,fun N cx μ a w hr hd K Q hK=>he.2 N cx μ a w hr hd K Q fun μ1 s' a' w' hr' e hst=>?_⟩
 subst e
 obtain⟨μ2,h1,h2⟩:=hg N cx μ1 a' w' hr'
 exact hK μ2 s2 a' w' h1 rfl (hst.andThen h2)
variable {ty:TypeId}{pos:String}{after:Array Edge}{guard:Option (Nat×Bool)}{d:Nat}
end
end Go.AM
/-
 AM:parts of a slice beyond its end,append within the same block.
-/
namespace Go.AM
section
variable {P:Program}{N:Nat}{cx:Cx}{s:St}{W:List Nat}
variable {dst:Option Tmp}{ty:TypeId}{pos:String}{after:Array Edge}{guard:Option (Nat×Bool)}{d:Nat}
theorem aY.R7 {O:Nat→Prop}{base:Nat}{w:World}{μ:Mu}{h sz off n:Nat}{v:Value}(hv:aY O base w μ (.aR h sz off n) v):∃a cap,v=.slice a n cap∧n≤cap:=by
 cases hv with
 | aH hv=>cases hv
 | eQ _ _ hm=>exact⟨none,0,rfl,az _⟩
 | aR _ _ _ _ b m cap hm hn hc=>exact⟨_,cap,rfl,hn⟩
 | dJ _ _ off0 b m hm hpos=>exact⟨_,0,rfl,az _⟩
theorem MC {O:Nat→Prop}{base:Nat}{w:World}{μ:Mu}{h sz off n i j:Nat}{v:Value}(hv:aY O base w μ (.aR h sz off n) v) (h1:i≤j) (h2:j≤n):
  ∃(a:Option Addr) (cap:Nat),v=.slice a n cap∧n≤cap∧aY O base w μ (.aR h sz (off+i*sz) (j-i)) (sliced a i j cap sz):=by
 cases hv with
 | aH hv=>cases hv
 | eQ _ _ hm=>
  obtain rfl:i=0:=by omega
  obtain rfl:j=0:=by omega
  refine⟨none,0,rfl,az _,?_⟩
  simp only[sliced,ey,dq,if_true]
  exact .eQ h sz hm
 | aR _ _ _ _ b m cap hm hn hc=>
  refine⟨_,cap,rfl,hn,?_⟩
  unfold sliced
  by_cases e:cap=i
  ·rw[if_pos e]
   have hj:j-i=0:=by omega
   have hci:cap-i=0:=by omega
   rw[hj,hci]
   by_cases hpos:0<m.1
   ·have:off+i*sz=m.1:=by rw[←e];exact hc
    rw[this]
    exact .dJ h sz off b m.1 hm hpos
   ·have h5:off=0:=by omega
    have h6:i*sz=0:=by rw[←e];omega
    rw[h5,h6]
    exact .aR h sz 0 0 b m 0 hm (az _) (by omega)
  ·rw[if_neg e]
   simp only[bL,Addr.iY]
   refine .aR h sz _ _ b m _ hm (by omega) ?_
   have:i*sz+(cap-i)*sz=cap*sz:=by rw[←dD];congr 1;omega
   omega
 | dJ _ _ off0 b m hm hpos=>
  obtain rfl:i=0:=by omega
  obtain rfl:j=0:=by omega
  refine⟨_,0,rfl,az _,?_⟩
  simp only[sliced,ey,dq,if_true]
  exact .dJ h sz off0 b _ hm hpos
theorem PY.slice3 {t e:TypeId}{x lo hi mx:Operand}{h sz off n z:Nat}{k1 k2 k3:IntKind}{i j m:Int}(hx:ev s x=some (.aR h sz off n)) (hl:ev s lo=some (.val (.int k1 i))) (hh:ev s hi=some (.val (.int k2 j))) (hm:ev s mx=some (.val (.int k3 m)))
  (ht:P.underlying t=some (.slice e)) (hsz:∀w,(sizeOf e).run P w=.ok z w) (h0:0≤i) (h1:i≤j) (h2:j≤m) (h3:m≤n):PY P s ⟨dst,.slice t x (some lo) (some hi) (some mx),ty,pos,after,guard⟩ .any:=fun N cx μ a w hr=>by
 obtain⟨ad,cap,e1,e2⟩:=(hr.ev hx).R7
 have he:P.underlying t=some (.slice (P.elem t)):=by unfold Program.elem;rw[ht]
 have e:P.elem t=e:=by unfold Program.elem;rw[ht]
 refine⟨sliced ad i.toNat j.toNat m.toNat z,.aH (.any _),fun w'=>?_⟩
 have hrun:=run_slice_lhm w' t ad n cap he k1 k2 k3 i j m h0 h1 h2 (by omega)
 rw[e,hsz w'] at hrun
 simp[execOp,e1,hr.val hl,hr.val hh,hr.val hm,run_sliceAt_slice _ _ _ _ _ _ he,hrun]
theorem PY.sliceB {t e:TypeId}{x lo hi:Operand}{h sz off n i j:Nat}{k1 k2:IntKind}{k:ap}(hx:ev s x=some (.aR h sz off n)) (hk:aq s.st h=some k) (hlp:k.lp=none) (hl:ev s lo=some (.val (.int k1 (i:Nat)))) (hh:ev s hi=some (.val (.int k2 (j:Nat))))
  (ht:P.underlying t=some (.slice e)) (hsz:∀w,(sizeOf e).run P w=.ok sz w) (hs0:0<sz) (h1:i≤j) (h2:off+j*sz≤k.cells.length):PY P s ⟨dst,.slice t x (some lo) (some hi) none,ty,pos,after,guard⟩ (.aR h sz (off+i*sz) (j-i)):=fun N cx μ a w hr=>by
 have hv:=hr.ev hx
 have he:P.underlying t=some (.slice (P.elem t)):=by unfold Program.elem;rw[ht]
 have e:P.elem t=e:=by unfold Program.elem;rw[ht]
 have key:∃(ad:Option Addr) (cap:Nat),a.eval x=.slice ad n cap∧j≤cap∧aY (cx.O s.st μ) cx.base w μ (.aR h sz (off+i*sz) (j-i)) (sliced ad i j cap sz):=by
  generalize a.eval x=v at hv
  cases hv with
  | aH hv=>cases hv
  | eQ _ _ hm=>
   have hb:=hr.st.dc h k hk
   rw[hm] at hb
   have hc:k.cells=[]:=hb.1
   rw[hc] at h2
   have hj:j=0:=by
    rcases fx j with h | h
    ·exact h
    ·have:=b7 sz h;simp at h2;omega
   subst hj
   obtain rfl:i=0:=by omega
   refine⟨none,0,rfl,az _,?_⟩
   simp only[sliced,ey,dq,if_true]
   exact .eQ h sz hm
  | aR _ _ _ _ b m cap hm hn hc=>
   obtain⟨cs,q1,q2,q3,_⟩:=hr.own hk hm hlp
   have hjc:j≤cap:=by
    have:j*sz≤cap*sz:=by omega
    exact Nat.le_of_mul_le_mul_right this hs0
   have hv2:aY (cx.O s.st μ) cx.base w μ (.aR h sz off cap) (.slice (some ⟨b,off,none⟩) cap cap):=.aR h sz off cap b m cap hm (az _) hc
   obtain⟨ad,cap2,q4,q5,q6⟩:=Go.AM.MC hv2 h1 hjc
   cases q4
   exact⟨_,cap,rfl,hjc,q6⟩
  | dJ _ _ off0 b m hm hpos=>
   obtain⟨cs,q1,q2,q3,_⟩:=hr.own hk hm hlp
   have hj:j=0:=by
    rcases fx j with h | h
    ·exact h
    ·have:=b7 sz h
     simp only at q3
     omega
   subst hj
   obtain rfl:i=0:=by omega
   refine⟨_,0,rfl,az _,?_⟩
   simp only[sliced,ey,dq,if_true]
   exact .dJ h sz off0 b _ hm hpos
 obtain⟨ad,cap,e1,e2,e3⟩:=key
 refine⟨_,e3,fun w'=>?_⟩
 have hrun:=run_slice_lh w' t ad n cap he k1 k2 (i:Int) (j:Int) (by omega) (by omega) (by omega)
 rw[e,hsz w'] at hrun
 simp only[bc] at hrun
 simp[execOp,e1,hr.val hl,hr.val hh,run_sliceAt_slice _ _ _ _ _ _ he,hrun]
end
end Go.AM
/-
 AM:cells of an owned block written in a row:append within the block,clear.
-/
namespace Go.AM
section
variable {P:Program}{N:Nat}{cx:Cx}{s:St}{W:List Nat}
variable {ty:TypeId}{pos:String}{after:Array Edge}{guard:Option (Nat×Bool)}{d:Nat}
theorem Rel.dm {μ:Mu}{a:Act}{w:World}(hr:Rel N cx μ s a w){h b:Nat}{m0:Mm}{k:ap}{cs:Array Value}{p:Nat}{newsG:List G}{news:List Value}{f:Bool}(hk:aq s.st h=some k) (hm:μ h=some (b,m0)) (hlp:k.lp=none) (hp:k.pure=true)
  (hW:W.contains h=true) (hcs:w.heap[b]?=some (.cells cs k.bP (0,0))) (hl:news.length=newsG.length) (hfit:p+newsG.length≤k.cells.length)
  (hrep:∀(j:Nat) (g:G),newsG[j]?=some g→∃u,news[j]?=some u∧bG (bif f then eA (cx.O s.st μ) cx.base else cx.O s.st μ) w g u):
  Rel N cx μ {fr:=s.fr,st:=bD s.st h {k with fresh:=k.fresh&&f,cells:=k.cells.take p++newsG++k.cells.drop (p+newsG.length)},df:=s.df} a (w.setRow b (cs.toList.take p++news++cs.toList.drop (p+news.length)).toArray)∧
   Step W s.st μ (bD s.st h {k with fresh:=k.fresh&&f,cells:=k.cells.take p++newsG++k.cells.drop (p+newsG.length)}) μ w (w.setRow b (cs.toList.take p++news++cs.toList.drop (p+news.length)).toArray):=by
 obtain⟨cs',h1,h2,h3,h4,h5,h6⟩:=hr.own hk hm hlp
 rw[hcs] at h1
 cases h1
 refine hr.write (k':={k with fresh:=k.fresh&&f,cells:=k.cells.take p++newsG++k.cells.drop (p+newsG.length)}) hk hm (fY hcs) (by
    simp only[kD,ak,aX,cr,Array.length_toList];omega) (setRow_size _ _ _) (fun b' hb'=>setRow_other w b b' _ hb') rfl rfl rfl id (by
    simp only[ak,aX,cr];omega) h5 (by
    intro j g' hg'
    have fo:∀(j:Nat),(cs.toList.take p++news++cs.toList.drop (p+news.length)).toArray[j]?=if j<p then cs[j]? else if j<p+news.length then news[j-p]? else cs[j]?:=by
     intro j
     rw[km,aC,a9,aX,Array.length_toList,dy (by omega:p≤cs.size)]
     split
     ·rename_i hj;rw[bf,if_pos hj,bq]
     ·rw[a9]
      split
      ·rename_i hj1 hj2;rw[if_pos (by omega)]
      ·rename_i hj1 hj2;rw[if_neg (by omega),bj,bq];congr 1;omega
    dsimp only at hg'
    rw[aC,a9,aX,dy (by omega:p≤k.cells.length)] at hg'
    rw[fo]
    have rY:∀{j:Nat}{g':G},k.cells[j]?=some g'→∃v,cs[j]?=some v∧cz (cx.O s.st μ) cx.base w μ {k with fresh:=k.fresh&&f,cells:=k.cells.take p++newsG++k.cells.drop (p+newsG.length)} g' v:=by
     intro j g' hg'
     obtain⟨v,hv,hrv⟩:=h6 j g' hg'
     refine⟨v,hv,?_⟩
     unfold cz at hrv⊢
     dsimp only at hrv⊢
     rw[hp] at hrv⊢
     exact hrv.flag (fun h=>by simp at h;exact h.1)
    split at hg'
    ·rename_i hj
     rw[if_pos hj]
     rw[bf,if_pos hj] at hg'
     exact rY hg'
    ·rename_i hj
     rw[if_neg hj]
     rw[a9] at hg'
     split at hg'
     ·rename_i hj2
      rw[if_pos (by omega)]
      obtain⟨u,hu,hru⟩:=hrep _ g' hg'
      refine⟨u,hu,?_⟩
      unfold cz
      dsimp only
      rw[hp]
      exact hru.flag (fun h=>by simp at h;exact h.2)
     ·rename_i hj2
      rw[if_neg (by omega)]
      rw[bj] at hg'
      have:p+newsG.length+(j-p-newsG.length)=j:=by omega
      rw[this] at hg'
      exact rY hg') W hW hlp
theorem EF.Pq {t e:TypeId}{x y:Operand}{h sz n m:Nat}{k:ap}{gy:G}{newsG:List G}{f:Bool}(hx:ev s x=some (.aR h sz 0 n)) (hy:ev s y=some gy) (hk:aq s.st h=some k) (hp:k.pure=true) (hety:k.bP=e)
  (hfit:(n+m)*sz≤k.cells.length) (hs0:0<sz) (hsrc:oT s.st sz gy=some (newsG,m,f)) (hlen:newsG.length=m*sz) (hone:∀g,g∈newsG→g.one=true)
  (ht:P.underlying t=some (.slice e)) (hi:(P.info? e).map (·.size)=some sz) (hW:W.contains h=true) (hlp:k.lp=none:=by rfl):
  bN P W s ⟨some d,.call ⟨.builtin .append,#[x,y],#[t,t]⟩,ty,pos,after,guard⟩
   (fun s'=>s'={fr:=(d,.aR h sz 0 (n+m))::s.fr,st:=bD s.st h {k with fresh:=k.fresh&&f,cells:=k.cells.take (n*sz)++newsG++k.cells.drop (n*sz+newsG.length)},df:=s.df}∨
    (m=0∧s'=s.put d (.aR h sz 0 n))):=by
 subst hety
 refine⟨(fun _ h=>by cases h),?_⟩
 intro N cx μ a w hr hN K Q hK
 obtain⟨i,hi1,lC⟩:=av.1 hi
 have hv:=hr.ev hx
 have idle:∀(b2:Option Addr) (c2:Nat),m=0→a.eval y=.slice b2 0 c2→(Oper.wp P ⟨some d,.call ⟨.builtin .append,#[x,y],#[t,t]⟩,ty,pos,after,guard⟩ a w K Q):=by
  intro b2 c2 hm0 hyv
  obtain⟨ad,cap,h1,h2⟩:=hv.R7
  have hrun:=tN (P:=P) w t ty k.bP i ht hi1 ad n cap h2 b2 c2
  unfold Oper.wp
  have:(execOp a.eval ⟨some d,.call ⟨.builtin .append,#[x,y],#[t,t]⟩,ty,pos,after,guard⟩).run P w=.ok (.value (.slice ad n cap)) w:=by
   simp only[execOp,resolve,invoke,builtin,Sem.run_bind,Sem.run_pure,Result.andThen_ok,jW,aJ,iB,h1,hyv,hrun]
  rw[this]
  rw[h1] at hv
  exact hK μ _ _ w (hr.put (d:=d) (hN d rfl) hv) (.inr ⟨hm0,rfl⟩) ⟨az _,fun _ _ _=>rfl,fun x k1 c1 m1 b1 hw h1 h2 hi=>.inl ⟨x,k1,c1,m1,hw,h1,h2,hi⟩⟩
 rcases hr.src hy hsrc hlen hone with ⟨⟨o2,c2,h1⟩,h2⟩ | ⟨b2,off2,c2,news,e1,e2,e3,e4,e5,e6⟩
 ·exact idle o2 c2 h2 h1
 rcases fx m with hm0 | hm0
 ·subst hm0
  exact idle _ c2 rfl e1
 have hpos:0<(n+m)*sz:=Nat.mul_pos (by omega) hs0
 generalize hav:a.eval x=v at hv
 cases hv with
 | aH h=>cases h
 | eQ _ _ hm=>
  have:=hr.st.dc h k hk
  rw[hm] at this
  have hc:k.cells=[]:=this.1
  rw[hc] at hfit
  exact absurd hfit (by simp only[cX];omega)
 | dJ _ _ off0 b _ hm hp0=>exact absurd hp0 (Nat.lt_irrefl _)
 | aR _ _ _ _ b m0 cap hm hn hc=>
  obtain⟨cs,h1,h2,h3,h4,h5,h6⟩:=hr.own hk hm hlp
  have hcap:n+m≤cap:=by
   have:(n+m)*sz≤cap*sz:=by omega
   exact Nat.le_of_mul_le_mul_right this hs0
  have hnm:n*sz+m*sz=(n+m)*sz:=(dD _ _ _).symm
  have hrun:=run_append_room (P:=P) w t ty k.bP i ht hi1 b n cap cs h1 ⟨b2,off2,none⟩ m c2 news (by rw[lC];exact e2) (fun j u hu=>by rw[Addr.iY];exact e3 j u hu) e4 hcap (by rw[lC,e2];omega)
  rw[lC] at hrun
  unfold Oper.wp
  have:(execOp a.eval ⟨some d,.call ⟨.builtin .append,#[x,y],#[t,t]⟩,ty,pos,after,guard⟩).run P w=.ok (.value (.slice (some ⟨b,0,none⟩) (n+m) cap)) (w.setRow b (cs.toList.take (n*sz)++news++cs.toList.drop (n*sz+news.length)).toArray):=by
   simp only[execOp,resolve,invoke,builtin,Sem.run_bind,Sem.run_pure,Result.andThen_ok,jW,aJ,iB,hav,e1,hrun]
  rw[this]
  have hwr:=hr.dm (W:=W) (p:=n*sz) hk hm hlp hp hW h1 (by rw[e2,hlen]) (by rw[hlen];omega) e5
  exact hK μ _ _ _ (hwr.1.put (d:=d) (g:=.aR h sz 0 (n+m)) (hN d rfl) (.aR _ _ _ _ b m0 cap hm hcap hc)) (.inl rfl) hwr.2
theorem Fy (z:Array Value) (n j:Nat) (v:Value) (h:(Builtin.zeroCells z n).toList[j]?=some v):∃i:Nat,z[i]?=some v:=by
 unfold Builtin.zeroCells at h
 simp only[en,Array.toList_range,ay,av] at h
 obtain⟨q,h1,h2⟩:=h
 have hq:q<n*z.size:=by
  have:=ar h1
  simpa using this
 have hz:0<z.size:=by
  rcases fx z.size with h | h
  ·rw[h,Nat.mul_zero] at hq;omega
  ·exact h
 have hlt:q%z.size<z.size:=mP _ hz
 refine⟨q%z.size,?_⟩
 rw[←h2,kw hlt]
 simp[hlt]
theorem EF.clear {t e:TypeId}{x:Operand}{h sz off n:Nat}{k:ap}{z:Value}(hx:ev s x=some (.aR h sz off n)) (hk:aq s.st h=some k) (hp:k.pure=true)
  (hfit:off+n*sz≤k.cells.length) (ht:P.underlying t=some (.slice e)) (hz:(P.info? e).map (·.zero)=some (some z)) (hzs:z.cells.size=sz) (hone:∀(i:Nat) (v:Value),z.cells[i]?=some v→v.oneCell'=true)
  (hW:W.contains h=true) (hlp:k.lp=none:=by rfl):
  bN P W s ⟨none,.call ⟨.builtin .clear,#[x],#[t]⟩,ty,pos,after,guard⟩
   (fun s'=>s'={fr:=s.fr,st:=bD s.st h {k with fresh:=k.fresh&&true,cells:=k.cells.take off++(Builtin.zeroCells z.cells n).toList.map iE++k.cells.drop (off+n*sz)},df:=s.df}∨
    (n=0∧s'=s)):=by
 refine⟨(fun _ h=>by cases h),?_⟩
 intro N cx μ a w hr hN K Q hK
 obtain⟨i,hi1,lC⟩:=av.1 hz
 have hv:=hr.ev hx
 have idle:∀(ad:Option Addr) (c:Nat),n=0→a.eval x=.slice ad 0 c→(Oper.wp P ⟨none,.call ⟨.builtin .clear,#[x],#[t]⟩,ty,pos,after,guard⟩ a w K Q):=by
  intro ad c hn0 hav
  unfold Oper.wp
  have:(execOp a.eval ⟨none,.call ⟨.builtin .clear,#[x],#[t]⟩,ty,pos,after,guard⟩).run P w=.ok (.value (.tuple #[])) w:=by
   cases ad <;> simp[execOp,resolve,invoke,builtin,Builtin.clear_,run_underlying ht,hav]
  rw[this]
  exact hK μ _ _ w hr (.inr ⟨hn0,rfl⟩) ⟨az _,fun _ _ _=>rfl,fun x k1 c1 m1 b1 hw h1 h2 hi=>.inl ⟨x,k1,c1,m1,hw,h1,h2,hi⟩⟩
 generalize hav:a.eval x=v at hv
 cases hv with
 | aH h=>cases h
 | eQ _ _ hm=>exact idle _ _ rfl hav
 | dJ _ _ off0 b _ hm hp0=>exact idle _ _ rfl hav
 | aR _ _ _ _ b m0 cap hm hn hc=>
  rcases fx n with hn0 | hn0
  ·subst hn0;exact idle _ _ rfl hav
  obtain⟨cs,h1,h2,h3,h4,h5,h6⟩:=hr.own hk hm hlp
  have hl:(Builtin.zeroCells z.cells n).toList.length=n*sz:=by rw[Array.length_toList,size_zeroCells,hzs]
  have hst:=run_storeCells_at P b off k.bP (Builtin.zeroCells z.cells n).toList 0 cs w h1 (by rw[hl];omega) (fun v hv=>by
   obtain⟨j,hj⟩:=List.mem_iff_getElem?.1 hv
   obtain⟨q,hq⟩:=Fy _ _ _ _ hj
   exact hone q v hq)
  simp only[dq] at hst
  obtain⟨n',rfl⟩:∃n',n=n'+1:=⟨n-1,by omega⟩
  have hzv:(zeroValue e).run P w=.ok z w:=by simp[zeroValue,typeInfo,hi1,lC]
  unfold Oper.wp
  have:(execOp a.eval ⟨none,.call ⟨.builtin .clear,#[x],#[t]⟩,ty,pos,after,guard⟩).run P w=.ok (.value (.tuple #[])) (w.setRow b (cs.toList.take off++(Builtin.zeroCells z.cells (n'+1)).toList++cs.toList.drop (off+(Builtin.zeroCells z.cells (n'+1)).toList.length)).toArray):=by
   simp[execOp,resolve,invoke,builtin,Builtin.clear_,run_underlying ht,hav,hzv,-Array.length_toList]
   rw[hst]
   simp
  rw[this]
  have hwr:=hr.dm (W:=W) (p:=off) (f:=true) (newsG:=(Builtin.zeroCells z.cells (n'+1)).toList.map iE) (news:=(Builtin.zeroCells z.cells (n'+1)).toList) hk hm hlp hp hW h1 (by rw[aW]) (by rw[aW,hl];omega) (fun j g hg=>by
   rw[ay,av] at hg
   obtain⟨u,hu,rfl⟩:=hg
   exact⟨u,hu,rO u⟩)
  rw[aW,hl] at hwr
  rw[hl]
  exact hK μ _ _ _ hwr.1 (.inl rfl) hwr.2
end
end Go.AM
/-
 AM:slices that belong to a block of structs (or of slices),each nothing or with a block of its own:one is taken out,and put back.
-/
namespace Go.AM
def To (O:Nat→Prop) (w:World) (kty:TypeId) (sz:Nat) (n:Nat) (gs:List G) (u:Value) (x:Option (Nat×Nat)):Prop:=rN O w kty sz n gs u x∧(x=none→u=.slice none 0 0)
structure NM (bP kty:TypeId) (sz z:Nat) (rows:List (Nat×List G)) (ho:Option Nat) (O:Nat→Prop) (w:World) (b:Nat) (m:Mm) (cs:Array Value):Prop where
 len:m.2.length=rows.length
 root:∀(i c k:Nat),m.2[i]?=some (some (c,k))→c≠b∧c<w.heap.size
 inj:∀(i j c k k':Nat),m.2[i]?=some (some (c,k))→m.2[j]?=some (some (c,k'))→i=j
 heap:w.heap[b]?=some (.cells cs bP (0,0))
 size:cs.size=m.1
 le:rows.length≤m.1
 max:m.1≤maxLen*z
 row:∀(i n:Nat) (gs:List G),rows[i]?=some (n,gs)→ho≠some i→∃u x,cs[i]?=some u∧m.2[i]?=some x∧To O w kty sz n gs u x
 hole:∀i,ho=some i→i<rows.length→m.2[i]?=some none
def Mv (bP kty:TypeId) (sz z:Nat) (rows:List (Nat×List G)) (ho:Option Nat):Dp where
 φ:=fun O w b m=>∃cs,NM bP kty sz z rows ho O w b m cs
 gQ:=rows=[]
 mono:=by
  rintro O O' w w' b m ⟨cs,h⟩ hk hO hb
  refine⟨cs,{len:=h.len,root:=fun i c k e=>⟨(h.root i c k e).1,bW (h.root i c k e).2 hk.size⟩,inj:=h.inj,heap:=(hb b (.self _ _)).trans h.heap,size:=h.size,le:=h.le,max:=h.max,row:=fun i n gs e hn=>?_,hole:=h.hole}⟩
  obtain⟨u,x,h1,h2,h3,h4⟩:=h.row i n gs e hn
  exact⟨u,x,h1,h2,h3.mono hk hO fun c k e=>hb c (.lq (k:=k) (by rw[h2,e])),h4⟩
 shut:=by
  rintro O Z w w' b m ⟨cs,h⟩ hs _
  refine⟨cs,{len:=h.len,root:=fun i c k e=>⟨(h.root i c k e).1,by rw[hs.size];exact(h.root i c k e).2⟩,inj:=h.inj,heap:=hs.cells h.heap,size:=h.size,le:=h.le,max:=h.max,row:=fun i n gs e hn=>?_,hole:=h.hole}⟩
  obtain⟨u,x,h1,h2,h3,h4⟩:=h.row i n gs e hn
  exact⟨u,x,h1,h2,h3.shut hs,h4⟩
 live:=by
  rintro O w b m ⟨cs,h⟩ x hx
  rcases hx with rfl | ⟨n,hn⟩
  ·exact dt h.heap
  ·obtain⟨i,hi⟩:=bR hn
   exact(h.root i x n hi).2
section
variable {P:Program}{N:Nat}{cx:Cx}{s:St}{W:List Nat}
variable {ty:TypeId}{pos:String}{after:Array Edge}{guard:Option (Nat×Bool)}
theorem Rel.rows {μ:Mu}{a:Act}{w:World}(hr:Rel N cx μ s a w){h:Nat}{k:ap}{bP kty:TypeId}{sz z:Nat}{rows:List (Nat×List G)}{ho:Option Nat}(hk:aq s.st h=some k) (hl:k.lp=some (.deep (Mv bP kty sz z rows ho))){b:Nat}{m:Mm}(hm:μ h=some (b,m)):
  ∃cs,NM bP kty sz z rows ho (bif k.fresh then eA (cx.O s.st μ) cx.base else cx.O s.st μ) w b m cs:=by
 have:=hr.st.dc h k hk
 rw[hm] at this
 exact((aQ.deep hl).1 this).1
end
end Go.AM
/-
 AM:one of the slices of a block is taken out;one is put in.
-/
namespace Go.AM
section
variable {P:Program}{N:Nat}{cx:Cx}{s:St}{W:List Nat}
variable {ty:TypeId}{pos:String}{after:Array Edge}{guard:Option (Nat×Bool)}
end
end Go.AM
/-
 AM:arrays of numbers:an element's address,equality.
-/
namespace Go.AM
def Dd:List Int→List Int→Bool
 | [],[]=>true
 | x::xs,y::ys=>x==y&&Dd xs ys
 | _,_=>false
section
variable {P:Program}{s:St}{dst:Option Tmp}{ty:TypeId}{pos:String}{after:Array Edge}{guard:Option (Nat×Bool)}
theorem PY.OM {t e:TypeId}{x y:Operand}{h off n:Nat}{k:IntKind}{i:Int}(hx:ev s x=some (.loc h off)) (hy:ev s y=some (.val (.int k i))) (h0:0≤i) (hn:i<n) (ht:P.underlying t=some (.array n e)) (hsz:∀w,(sizeOf e).run P w=.ok 1 w):
  PY P s ⟨dst,.indexAddr t x y,ty,pos,after,guard⟩ (.loc h (i.toNat+off)):=fun _ cx μ a w hrel=>by
 have hv:=hrel.ev hx
 generalize e1:a.eval x=v at hv
 cases hv with
 | aH h=>cases h
 | loc _ _ b m hm=>
  refine⟨_,.loc h (i.toNat+off) b m hm,fun w'=>?_⟩
  simp[execOp,e1,hrel.val hy,Instr.indexAt,asIntOf,Instr.sureAddr,run_underlying ht,h0,hn,hsz,Addr.iY,Nat.add_comm]
theorem rS {e:TypeId}{k k':IntKind}(he:P.underlying e=some (.int k')) (a b:Int) (d:Nat) (w:World):(Op.equalIn (d+1) e (.int k a) (.int k b)).run P w=.ok (a==b) w:=by
 simp[Op.equalIn,run_underlying he]
theorem ld {e:TypeId}(hag:∀w,(isAgg e).run P w=.ok false w){cs:Array Value}{i:Nat}{v:Value}(h:cs[i]?=some v) (w:World):(part e cs i).run P w=.ok v w:=by
 unfold part
 simp[hag,h]
theorem tG {e:TypeId}{k:IntKind}(he:P.underlying e=some (.int k)) (w:World):(isAgg e).run P w=.ok false w:=by
 simp[isAgg,underlying,he]
theorem Mr {t e:TypeId}{n:Nat}{k k':IntKind}(ht:P.underlying t=some (.array n e)) (he:P.underlying e=some (.int k')) (hsz:∀w,(sizeOf e).run P w=.ok 1 w) (xs ys:List Int) (hx:xs.length=n) (hy:ys.length=n) (w:World):
  (Op.equal t (.agg (xs.map (Value.int k)).toArray) (.agg (ys.map (Value.int k)).toArray)).run P w=.ok (Dd xs ys) w:=by
 have key:∀d,(Op.equalIn (d+2) t (.agg (xs.map (Value.int k)).toArray) (.agg (ys.map (Value.int k)).toArray)).run P w=.ok (Dd xs ys) w:=fun d=>by
  rw[Op.equalIn]
  simp only[Sem.run_bind,run_underlying ht,Result.andThen_ok,hsz,ed]
  rw[Std.Legacy.Range.forIn_eq_forIn_range']
  have loop:∀(m i:Nat),i+m=n→Sem.run P (forIn (List.range' i m) ((none,()):Option Bool×Unit) fun i __s=>do
      let __do_lift ←part e (xs.map (Value.int k)).toArray i
      let __do_lift_1 ←part e (ys.map (Value.int k)).toArray i
      let __do_lift ←Op.equalIn (d+1) e __do_lift __do_lift_1
      if (!__do_lift)=true then pure (ForInStep.done (some false,())) else pure (ForInStep.yield (none,()))) w=.ok (if Dd (xs.drop i) (ys.drop i) then(none,()) else(some false,())) w:=by
   intro m
   induction m with
   | zero=>
    intro i h
    rw[eI (by omega),eI (by omega)]
    simp[Dd]
   | succ m ih=>
    intro i h
    have h1:i<xs.length:=by omega
    have h2:i<ys.length:=by omega
    have p1:=ld (P:=P) (tG he) (cs:=(xs.map (Value.int k)).toArray) (i:=i) (v:=.int k xs[i]) (by simp[h1]) w
    have p2:=ld (P:=P) (tG he) (cs:=(ys.map (Value.int k)).toArray) (i:=i) (v:=.int k ys[i]) (by simp[h2]) w
    rw[List.range'_succ,List.forIn_cons]
    simp only[Sem.run_bind,p1,p2,Result.andThen_ok,rS he]
    rw[bY h1,bY h2]
    simp only[Dd]
    by_cases hb:xs[i]=ys[i]
    ·have e1:(xs[i]==ys[i])=true:=by simpa using hb
     simp only[e1,jQ,Bool.false_eq_true,if_false,Sem.run_pure,Result.andThen_ok,Bool.true_and]
     exact ih (i+1) (by omega)
    ·have e1:(xs[i]==ys[i])=false:=by simpa using hb
     simp only[e1,iD,if_true,Sem.run_pure,Result.andThen_ok,Bool.false_and,Bool.false_eq_true,if_false]
  have:=loop n 0 (by omega)
  simp only[eH] at this
  have e0:([:n]:Std.Legacy.Range).size=n:=by simp[Std.Legacy.Range.size]
  rw[e0]
  show(Result.andThen (Sem.run P (forIn (List.range' 0 n 1) _ _) w) _)=_
  rw[this]
  cases Dd xs ys <;> simp
 exact key 9998
theorem PY.SL {t e t':TypeId}{n:Nat}{k k':IntKind}{x y:Operand}{xs ys:List Int}(hx:ev s x=some (.agg (xs.map fun a=>.val (.int k a)))) (hy:ev s y=some (.agg (ys.map fun a=>.val (.int k a)))) (ht:P.underlying t=some (.array n e)) (he:P.underlying e=some (.int k')) (hsz:∀w,(sizeOf e).run P w=.ok 1 w) (h1:xs.length=n) (h2:ys.length=n) (hgt:P.eqGuardType P.depth t=false):
  PY P s ⟨dst,.binOp .eql t x y t',ty,pos,after,guard⟩ (.val (.bool (Dd xs ys))):=fun N cx μ a w hr=>by
 have hv:∀{l:List Int}{v:Value},aY (cx.O s.st μ) cx.base w μ (.agg (l.map fun a=>.val (.int k a))) v→v=.agg (l.map (Value.int k)).toArray:=by
  intro l v h
  have aH:∀{O:Nat→Prop}{us:List Value},us.length=(l.map fun a=>G.val (.int k a)).length→(∀(j:Nat) (g:G) (v:Value),(l.map fun a=>G.val (.int k a))[j]?=some g→us[j]?=some v→g=.val v)→us=l.map (Value.int k):=by
   intro O us hl hr
   apply nA (by simpa using hl)
   intro j h1 h2
   have hjl:j<l.length:=by simpa using h2
   have:=hr j (.val (.int k l[j])) us[j] (by simp[hjl]) (ag h1)
   rw[←G.val.inj this]
   simp
  cases h with
  | aH h=>
   cases h with
   | agg cells us hl hr=>rw[aH (O:=cx.O s.st μ) hl fun j g v hg hv=>by
     have:=hr j g v hg hv
     rw[ay] at hg
     obtain⟨a,_,rfl⟩:=av.1 hg
     cases this
     rfl]
  | agg cells us hl hr=>rw[aH (O:=cx.O s.st μ) hl fun j g v hg hv=>by
     have:=hr j g v hg hv
     rw[ay] at hg
     obtain⟨a,_,rfl⟩:=av.1 hg
     cases this with
     | aH h=>cases h;rfl]
 have q1:=hv (hr.ev hx)
 have q2:=hv (hr.ev hy)
 refine⟨_,.aH (.val _),fun w'=>?_⟩
 have h:=Mr (P:=P) (k:=k) ht he hsz xs ys h1 h2 w'
 have hg:(eqGuard .eql t x y (.agg (xs.map (Value.int k)).toArray) (.agg (ys.map (Value.int k)).toArray)).run P w'=.ok () w':=by simp[eqGuard,hgt]
 simp only[execOp,q1,q2,Sem.run_bind,hg,Result.andThen_ok]
 simp[binOp,h]
end
end Go.AM
