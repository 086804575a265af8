/-
  AM, third part.
-/
import Derived.Test.YtaobkpnecfcefaaDoorMgB
import Derived.Laws.CopyRow
import Derived.Laws.IdiomCopy
set_option linter.unusedSectionVars false
set_option linter.unusedSimpArgs false
set_option linter.unusedVariables false
/-
 AM,part BA:what a callee hands back of the blocks that were lent to it.
-/
namespace Go.AM
def gE:List (Nat×ao)→Nat→Bool
 | [],_=>false
 | (j,_)::r,x=>Nat.beq j x||gE r x
theorem LF {st:List (Nat×ao)}{j:Nat}{k:ao}(h:az st j=some k):gE st j=true:=by
 induction st with
 | nil=>cases h
 | cons x r ih=>
  obtain⟨y,k'⟩:=x
  simp only[az,gE,bD] at h⊢
  cases hb:Nat.beq y j with
  | true=>exact .inl rfl
  | false=>rw[hb] at h;exact .inr (ih h)
theorem AW {st:List (Nat×ao)}{j:Nat}(h:gE st j=true):∃k,az st j=some k:=by
 induction st with
 | nil=>cases h
 | cons x r ih=>
  obtain⟨y,k'⟩:=x
  simp only[az,gE,bD] at h⊢
  cases hb:Nat.beq y j with
  | true=>exact⟨k',rfl⟩
  | false=>rw[hb] at h;exact ih (h.resolve_left (fun h=>by cases h))
def iJ:List (Nat×ao)→List Nat→Nat→Option Nat
 | (j,_)::r,h::hs,x=>bif Nat.beq j x then some h else iJ r hs x
 | _,_,_=>none
def qF:List (Nat×ao)→List Nat→Nat→Option Nat
 | (j,_)::r,h::hs,y=>bif Nat.beq h y then some j else qF r hs y
 | _,_,_=>none
def dv (vw:Bool) (f:Nat→Option Nat):G→Option G
 | .loc h off=>(f h).map fun x=>.loc x off
 | .aK h sz off m=>(f h).map fun x=>.aK x sz off m
 | .cA h=>(f h).map .cA
 | .eV h=>(f h).map .eV
 | .kp h i off=>(f h).map fun x=>.kp x i off
 | .ks h i sz n=>(f h).map fun x=>.ks x i sz n
 | .agg gs=>(go gs).map .agg
 | .aU gs=>(go gs).map .aU
 | .aP g gs=>(go gs).map (.aP g)
 | .val v=>some (.val v)
 | .cH b=>some (.cH b)
 | .fr g=>some (.fr g)
 | .sl n cs=>bif vw then none else some (.sl n cs)
 | .ptr cs=>bif vw then none else some (.ptr cs)
 | .any=>some .any
where go:List G→Option (List G)
 | []=>some []
 | g::r=>match dv vw f g,go r with
  | some g',some r'=>some (g'::r')
  | _,_=>none
theorem uj {vw:Bool}{f:Nat→Option Nat}:∀{gs gs':List G},dv.go vw f gs=some gs'→gs'.length=gs.length∧∀(j:Nat) (g':G),gs'[j]?=some g'→∃g,gs[j]?=some g∧dv vw f g=some g'
 | [],_,h=>by cases h;exact⟨rfl,fun j g h=>by simp at h⟩
 | g::r,gs',h=>by
  simp only[dv.go] at h
  cases h1:dv vw f g with
  | none=>rw[h1] at h;cases h
  | some g1=>
   rw[h1] at h
   cases h2:dv.go vw f r with
   | none=>rw[h2] at h;cases h
   | some r1=>
    rw[h2] at h
    cases h
    obtain⟨h3,h4⟩:=uj h2
    refine⟨by simp[h3],fun j g' hg'=>?_⟩
    cases j with
    | zero=>cases hg';exact⟨g,rfl,h1⟩
    | succ j=>exact h4 j g' hg'
def uE (vw:Bool) (f:Nat→Option Nat) (k:ao):Option ao:=
 bif k.pure then bif vw&&!k.fresh then none else some k else match dv.go vw f k.cells with
  | some cs=>some {k with cells:=cs}
  | none=>none
def re:Option Kd→Bool
 | some (.loop _)=>true
 | _=>false
def zv (st:List (Nat×ao)) (h:Nat):Bool:=match az st h with
 | some k=>k.dn
 | none=>false
def kD (st st':List (Nat×ao)):List Nat→Nat→Bool
 | [],_=>true
 | h::r,i=>(match az st h with
  | some k=>k.dn||(re k.lp&&gE st' (1000+i))
  | none=>false)&&kD st st' r (i+1)
theorem CU {st st':List (Nat×ao)}:∀{r:List Nat}{i:Nat},kD st st' r i=true→∀{n h:Nat}{k:ao},r[n]?=some h→az st h=some k→k.dn=true∨gE st' (1000+(i+n))=true
 | [],_,_,_,_,_,e,_=>by cases e
 | x::r,i,ha,n,h,k,e,hk=>by
  simp only[kD,ag] at ha
  cases n with
  | zero=>
   cases e
   rw[hk] at ha
   simp only[bD,ag] at ha
   rcases ha.1 with h1 | h1
   ·exact .inl h1
   ·exact .inr h1.2
  | succ n=>
   have:=CU ha.2 (n:=n) (by simpa using e) hk
   rw[show i+1+n=i+(n+1) by omega] at this
   exact this
def oF (A:Bool) (st:List (Nat×ao)) (j h:Nat) (lp:Option Kd) (k:ao):ao:=bif re lp then k else bif pinned j then {k with dn:=zv st h} else {k with dn:=k.dn||A}
def lr (vw:Bool) (f:Nat→Option Nat) (A:Bool) (st:List (Nat×ao)):List (Nat×ao)→List Nat→Option (List (Nat×ao))
 | [],[]=>some []
 | (j,k)::r,h::hs=>match uE vw f k,lr vw f A st r hs with
  | some k',some r'=>some ((h,oF A st j h k.lp k')::r')
  | _,_=>none
 | _,_=>none
def Rq (H:List Nat) (i h:Nat):Bool:=match H[i]? with
 | some x=>Nat.beq x h
 | none=>false
theorem NZ {H:List Nat}{i h:Nat}(e:Rq H i h=true):H[i]?=some h:=by
 unfold Rq at e
 cases hx:H[i]? with
 | none=>rw[hx] at e;cases e
 | some x=>rw[hx] at e;rw[af e]
def oS (s:St) (H:List Nat):List (Nat×ao)→List Nat→Bool
 | [],[]=>true
 | (j,_)::r,h::hs=>!(gE r j)&&(!(hs.contains h)&&((bif pinned j then Rq H (j-1000) h else Nat.blt h 1000&&((dq H h).isSome||fresh s h))&&oS s H r hs))
 | _,_=>false
def dP (st':List (Nat×ao)):List Nat→Nat→List Nat
 | [],_=>[]
 | h::r,i=>bif gE st' (1000+i) then dP st' r (i+1) else h::dP st' r (i+1)
theorem zO {st':List (Nat×ao)}:∀{r:List Nat}{i h:Nat},h∈r→h∉dP st' r i→∃n,r[n]?=some h∧gE st' (1000+(i+n))=true
 | [],_,_,hm,_=>by cases hm
 | x::r,i,h,hm,hn=>by
  simp only[dP] at hn
  cases hb:gE st' (1000+i) with
  | true=>
   rw[hb] at hn
   rcases bf.1 hm with rfl | hm
   ·exact⟨0,rfl,hb⟩
   ·obtain⟨n,h1,h2⟩:=zO hm hn
    exact⟨n+1,h1,by rw[show 1000+(i+(n+1))=1000+(i+1+n) by omega];exact h2⟩
  | false=>
   rw[hb] at hn
   simp only[cond_false,bf,not_or] at hn
   rcases bf.1 hm with rfl | hm
   ·exact absurd rfl hn.1
   ·obtain⟨n,h1,h2⟩:=zO hm hn.2
    exact⟨n+1,h1,by rw[show 1000+(i+(n+1))=1000+(i+1+n) by omega];exact h2⟩
def pq:List Nat→G→Bool
 | [],_=>false
 | h::r,g=>g.bO h||pq r g
theorem yG:∀{ds:List Nat}{g:G},pq ds g=false→∀h∈ds,g.bO h=false
 | [],_,_,_,h=>by cases h
 | x::r,g,e,h,hm=>by
  simp only[pq,bc] at e
  rcases bf.1 hm with rfl | hm
  ·exact e.1
  ·exact yG e.2 h hm
def sQ (ds:List Nat) (g:G):G:=bif pq ds g then .any else g
def nI (ds:List Nat):List (Nat×G)→List (Nat×G)
 | []=>[]
 | (t,g)::r=>(t,sQ ds g)::nI ds r
def og (ds:List Nat) (k:ao):ao:=bif k.pure then k else {k with cells:=k.cells.map (sQ ds)}
def dH (ds:List Nat):List (Nat×ao)→List (Nat×ao)
 | []=>[]
 | (h,k)::r=>(h,og ds k)::dH ds r
theorem LS {ds:List Nat}{fr:List (Nat×G)}{t:Nat}{g:G}(hg:get (nI ds fr) t=some g):∃g0,get fr t=some g0∧g=sQ ds g0:=by
 induction fr with
 | nil=>cases hg
 | cons x r ih=>
  obtain⟨k,g'⟩:=x
  simp only[nI,im] at hg⊢
  cases hb:Nat.beq k t with
  | true=>rw[hb] at hg;cases hg;exact⟨g',rfl,rfl⟩
  | false=>rw[hb] at hg;exact ih hg
theorem Jb {ds:List Nat}{st:List (Nat×ao)}{t:Nat}{k:ao}(hg:az (dH ds st) t=some k):∃k0,az st t=some k0∧k=og ds k0:=by
 induction st with
 | nil=>cases hg
 | cons x r ih=>
  obtain⟨y,k'⟩:=x
  simp only[dH,qk] at hg⊢
  cases hb:Nat.beq y t with
  | true=>rw[hb] at hg;cases hg;exact⟨k',rfl,rfl⟩
  | false=>rw[hb] at hg;exact ih hg
theorem yu {O:Nat→Prop}{base:Nat}{w:World}{μ μ':Mu}{ds:List Nat}{g:G}{v:Value}(hv:aM O base w μ g v) (hμ:∀k,k∉ds→g.bO k=true→Ext (μ k) (μ' k)):aM O base w μ' (sQ ds g) v:=by
 unfold sQ
 cases hh:pq ds g with
 | true=>exact .aC (.any _)
 | false=>exact hv.pz fun k hk=>hμ k (fun hm=>by rw[yG hh k hm] at hk;cases hk) hk
theorem aS.dead {O:Nat→Prop}{base:Nat}{w:World}{μ μ':Mu}{k:ao}{x:Option (Nat×Mm)}(hb:aS O base w μ k x) (ds:List Nat) (hμ:k.pure=false→∀g∈k.cells,∀y,y∉ds→g.bO y=true→Ext (μ y) (μ' y)):aS O base w μ' (og ds k) x:=by
 unfold og
 cases hp:k.pure with
 | true=>exact hb.gU fun hp'=>by rw[hp] at hp';cases hp'
 | false=>
  have hμ:=hμ hp
  simp only[cond_false]
  cases x with
  | none=>
   obtain⟨h1,h2⟩:=hb
   refine⟨by simp[h1],?_⟩
   dsimp only
   split at h2
   ·trivial
   ·exact h2.elim
   ·rw[hp] at h2;cases h2.2
  | some bm=>
   obtain⟨b,m⟩:=bm
   cases hl:k.lp with
   | none=>
    obtain⟨cs1,h4,h5,h6,h7,h8,h9⟩:=hb.cells hl
    refine .mk rfl (hb.l9 hl) ⟨cs1,h4,h5,by simpa using h6,h7,h8,fun j g hg=>?_⟩
    dsimp only at hg
    rw[ar] at hg
    cases hg0:k.cells[j]? with
    | none=>rw[hg0] at hg;cases hg
    | some g0=>
     rw[hg0] at hg
     cases hg
     obtain⟨v,hv,hrv⟩:=h9 j g0 hg0
     refine⟨v,hv,?_⟩
     unfold bZ at hrv⊢
     rw[hp] at hrv
     simp only
     exact yu hrv (hμ g0 (aL hg0))
   | some kd=>
    cases kd with
    | deep d=>have:=((aS.deep hl).1 hb).2.1;rw[hp] at this;cases this
    | loop lp=>
     obtain⟨D,vs,h1,h2,h3,h4,h5⟩:=(aS.loop hl).1 hb
     refine(aS.loop rfl).2 ⟨D,vs,h1,h2,h3,rfl,fun j t g ht hg=>?_⟩
     dsimp only at hg
     rw[ar] at hg
     cases hg0:k.cells[j]? with
     | none=>rw[hg0] at hg;cases hg
     | some g0=>
      rw[hg0] at hg
      cases hg
      obtain⟨v,hv,hrv⟩:=h5 j t g0 ht hg0
      exact⟨v,hv,yu hrv (hμ g0 (aL hg0))⟩
def jt (vw:Bool) (s:St) (H:List Nat) (st':List (Nat×ao)) (bk:List Nat):Option St:=
 bif oS s H st' bk&&s.df.all (fun g=>!(pq (dP st' H 0) g)) then match lr vw (iJ st' bk) (kD s.st st' H 0) s.st st' bk with
  | some sb=>some {fr:=nI (dP st' H 0) s.fr,st:=sb++dH (dP st' H 0) (fo H s.st),df:=s.df}
  | none=>none
 else none
theorem Jc {a b:List (Nat×ao)}{h:Nat}:az (a++b) h=(az a h).or (az b h):=by
 induction a with
 | nil=>rfl
 | cons x r ih=>
  obtain⟨y,k⟩:=x
  simp only[bd,az]
  cases Nat.beq y h with
  | true=>rfl
  | false=>exact ih
theorem DT {vw A:Bool}{f:Nat→Option Nat}{st:List (Nat×ao)}{s:St}{H:List Nat}:∀{st':List (Nat×ao)}{bk:List Nat}{sb:List (Nat×ao)},lr vw f A st st' bk=some sb→oS s H st' bk=true→
  ∀{h:Nat}{k2:ao},az sb h=some k2→∃j k' k1,az st' j=some k'∧qF st' bk h=some j∧uE vw f k'=some k1∧k2=oF A st j h k'.lp k1
 | [],[],_,e,_,_,_,hg=>by cases e;cases hg
 | [],_::_,_,e,_,_,_,_=>by cases e
 | _::_,[],_,e,_,_,_,_=>by cases e
 | (j,k)::r,x::hs,sb,e,ok,h,k2,hg=>by
  simp only[lr] at e
  cases h1:uE vw f k with
  | none=>rw[h1] at e;cases e
  | some k1=>
   rw[h1] at e
   cases h2:lr vw f A st r hs with
   | none=>rw[h2] at e;cases e
   | some r'=>
    rw[h2] at e
    cases e
    simp only[oS,ag,a7] at ok
    obtain⟨o1,o2,o3,o4⟩:=ok
    simp only[az] at hg
    cases hb:Nat.beq x h with
    | true=>
     rw[hb] at hg
     cases hg
     have:=af hb
     subst this
     exact⟨j,k,k1,dz _ _ _,by simp only[qF,aQ,cond_true],h1,rfl⟩
    | false=>
     rw[hb] at hg
     obtain⟨j',k',k1',q1,q2,q3,q4⟩:=DT h2 o4 hg
     refine⟨j',k',k1',?_,by simp only[qF,hb,cond_false];exact q2,q3,q4⟩
     rw[aI _ _ (fun e=>by subst e;rw[LF q1] at o1;cases o1)]
     exact q1
theorem nu {s:St}{H:List Nat}:∀{st':List (Nat×ao)}{bk:List Nat},oS s H st' bk=true→∀{h j:Nat},qF st' bk h=some j→
  gE st' j=true∧h∈bk∧iJ st' bk j=some h∧((pinned j=true∧H[j-1000]?=some h)∨(pinned j=false∧Nat.blt h 1000=true∧(h∈H∨fresh s h=true)))
 | [],[],_,_,_,e=>by cases e
 | [],_::_,ok,_,_,_=>by cases ok
 | _::_,[],ok,_,_,_=>by cases ok
 | (j,k)::r,x::hs,ok,h,j',e=>by
  simp only[oS,ag,a7] at ok
  obtain⟨o1,o2,o3,o4⟩:=ok
  simp only[qF] at e
  cases hb:Nat.beq x h with
  | true=>
   rw[hb] at e
   cases e
   have:=af hb
   subst this
   refine⟨by simp[gE,aQ],au,by simp only[iJ,aQ,cond_true],?_⟩
   cases hp:pinned j with
   | true=>rw[hp] at o3;exact .inl ⟨rfl,NZ o3⟩
   | false=>
    rw[hp] at o3
    simp only[cond_false,ag,bD] at o3
    refine .inr ⟨rfl,o3.1,o3.2.imp (fun h=>?_) id⟩
    obtain⟨i,hi⟩:=Option.isSome_iff_exists.1 h
    exact ni (ee hi)
  | false=>
   rw[hb] at e
   obtain⟨q1,q2,q3,q4⟩:=nu o4 e
   refine⟨by simp[gE,q1],ap _ q2,?_,q4⟩
   simp only[iJ]
   have:Nat.beq j j'=false:=by
    cases hb2:Nat.beq j j' with
    | false=>rfl
    | true=>have:=af hb2;subst this;rw[q1] at o1;cases o1
   rw[this]
   exact q3
theorem EQ {s:St}{H:List Nat}:∀{st':List (Nat×ao)}{bk:List Nat},oS s H st' bk=true→∀{j h:Nat},iJ st' bk j=some h→h∈bk∧qF st' bk h=some j
 | [],[],_,_,_,e=>by cases e
 | [],_::_,ok,_,_,_=>by cases ok
 | _::_,[],ok,_,_,_=>by cases ok
 | (j,k)::r,x::hs,ok,j',h,e=>by
  simp only[oS,ag,a7] at ok
  obtain⟨o1,o2,o3,o4⟩:=ok
  simp only[iJ] at e
  cases hb:Nat.beq j j' with
  | true=>
   rw[hb] at e
   cases e
   have:=af hb
   subst this
   exact⟨au,by simp only[qF,aQ,cond_true]⟩
  | false=>
   rw[hb] at e
   obtain⟨q1,q2⟩:=EQ o4 e
   refine⟨ap _ q1,?_⟩
   simp only[qF]
   have:Nat.beq x h=false:=by
    cases hb2:Nat.beq x h with
    | false=>rfl
    | true=>have:=af hb2;subst this;simp at o2;exact absurd q1 o2
   rw[this]
   exact q2
theorem KF {s:St}{H:List Nat}:∀{st':List (Nat×ao)}{bk:List Nat},oS s H st' bk=true→∀{j:Nat},gE st' j=true→∃h,iJ st' bk j=some h
 | [],[],_,_,e=>by cases e
 | [],_::_,ok,_,_=>by cases ok
 | _::_,[],ok,_,_=>by cases ok
 | (j,k)::r,x::hs,ok,j',e=>by
  simp only[oS,ag,a7] at ok
  simp only[gE,bD] at e
  simp only[iJ]
  cases hb:Nat.beq j j' with
  | true=>exact⟨x,rfl⟩
  | false=>rw[hb] at e;exact KF ok.2.2.2 (e.resolve_left fun h=>by cases h)
def kn (μ μ'':Mu) (st':List (Nat×ao)) (bk:List Nat):Mu:=fun y=>match qF st' bk y with
 | some j=>μ'' j
 | none=>μ y
section
variable {P:Program}{N:Nat}{cx:Cx}{s:St}
theorem my {a:Act}{w w':World}{μ μ'':Mu}{H:List Nat}{vw:Bool}{cP st':List (Nat×ao)}{bk:List Nat}{s2:St}(hr:Rel N cx μ s a w) (hls:ei H (dl s.st H vw) s.st H 0=some cP) (_hnd:H.Nodup)
  (hC:bP (dw (jn cx s.st μ H vw) cP (jO H μ) w) μ'' st' w') (hb:jt vw s H st' bk=some s2):
  Rel N cx (kn μ μ'' st' bk) s2 a w'∧
  (∀g g' v,aM ((dw (jn cx s.st μ H vw) cP (jO H μ) w).O st' μ'') w.heap.size w' μ'' g v→dv vw (iJ st' bk) g=some g'→aM (cx.O s2.st (kn μ μ'' st' bk)) cx.base w' (kn μ μ'' st' bk) g' v)∧
  (∀W:List Nat,(∀h∈H,h∈W)→Step W s.st μ s2.st (kn μ μ'' st' bk) w w')∧(∀y,y∈H→y∉dP st' H 0→Ext (μ y) (kn μ μ'' st' bk y)):=by
 unfold jt at hb
 cases hok:oS s H st' bk&&s.df.all (fun g=>!(pq (dP st' H 0) g)) with
 | false=>rw[hok] at hb;cases hb
 | true=>
 rw[hok,cond_true] at hb
 simp only[ag] at hok
 obtain⟨hok,hdf⟩:=hok
 cases hbs:lr vw (iJ st' bk) (kD s.st st' H 0) s.st st' bk with
 | none=>rw[hbs] at hb;cases hb
 | some sb=>
 rw[hbs] at hb
 cases hb
 have hst:=hr.st
 have alive:∀y,y∉dP st' H 0→(qF st' bk y=none∨y∈H∨fresh s y=false)→Ext (μ y) (kn μ μ'' st' bk y):=by
  intro y hy hn
  unfold kn
  by_cases hyH:y∈H
  ·obtain⟨n,e1,e2⟩:=zO hyH hy
   rw[cr] at e2
   obtain⟨h',e3⟩:=KF hok e2
   obtain⟨_,e4⟩:=EQ hok e3
   have e5:=(nu hok e4).2.2.2
   have e6:h'=y:=by
    rcases e5 with ⟨_,e5⟩ | ⟨e5,_⟩
    ·rw[show 1000+n-1000=n by omega,e1] at e5;exact(eR e5).symm
    ·rw[qR] at e5;cases e5
   subst e6
   rw[e4]
   obtain⟨k,hk⟩:=AW e2
   have:=(hC.ew _ k hk (qR n)).ext
   simp only
   rw[←km (μ:=μ) e1]
   exact this
  ·cases hI:qF st' bk y with
   | none=>exact .inl rfl
   | some j=>
    rcases(nu hok hI).2.2.2 with ⟨_,e⟩ | ⟨_,_,e | e⟩
    ·exact absurd (ni e) hyH
    ·exact absurd e hyH
    ·rcases hn with hn | hn | hn
     ·rw[hI] at hn;cases hn
     ·exact absurd hn hyH
     ·rw[hn] at e;cases e
 have notfr:∀y t g,get s.fr t=some g→g.bO y=true→fresh s y=false:=by
  intro y t g hg hh
  cases hf:fresh s y with
  | false=>rfl
  | true=>rw[np (eN hf).2.1 hg] at hh;cases hh
 have notst:∀y x k g,az s.st x=some k→k.pure=false→g∈k.cells→g.bO y=true→fresh s y=false:=by
  intro y x k g hk hp hg hh
  cases hf:fresh s y with
  | false=>rfl
  | true=>rw[uy (eN hf).2.2.1 hk hp hg] at hh;cases hh
 have hsz:w.heap.size≤w'.heap.size:=hC.hb
 have hkeep:∀b,b<w.heap.size→¬Own cP (jO H μ) b→w'.heap[b]?=w.heap[b]?:=fun b hb hn=>hC.cW b hb hn
 have hown:∀b,Own cP (jO H μ) b→Own s.st μ b:=fun b ho=>by obtain⟨i,h,k,c,m,_,h2,h3,hi⟩:=jH hls ho;exact⟨h,k,c,m,h2,h3,hi⟩
 have hkept:Kept (cx.O s.st μ) w w':=⟨hsz,fun b hb hn=>hkeep b hb fun ho=>hn (.inr (hown b ho))⟩
 have row:∀y k2,az (sb++dH (dP st' H 0) (fo H s.st)) y=some k2→
   (∃j k' k1,az st' j=some k'∧qF st' bk y=some j∧uE vw (iJ st' bk) k'=some k1∧k2=oF (kD s.st st' H 0) s.st j y k'.lp k1)∨
   (qF st' bk y=none∧∃k0,dq H y=none∧az s.st y=some k0∧k2=og (dP st' H 0) k0):=by
  intro y k2 h
  rw[Jc] at h
  cases hs:az sb y with
  | some k3=>
   rw[hs] at h
   cases h
   exact .inl (DT hbs hok hs)
  | none=>
   rw[hs,Option.none_or] at h
   obtain⟨k0,h1,h2⟩:=Jb h
   obtain⟨h3,h4⟩:=s5 h1
   refine .inr ⟨?_,k0,h3,h4,h2⟩
   cases hI:qF st' bk y with
   | none=>rfl
   | some j=>
    rcases(nu hok hI).2.2.2 with ⟨_,e⟩ | ⟨_,_,e | e⟩
    ·exact absurd (ni e) (oL h3)
    ·exact absurd e (oL h3)
    ·rw[(eN e).1] at h4;cases h4
 have notdead:∀{y},dq H y=none→y∉dP st' H 0:=by
  intro y hy hm
  have:∀(r:List Nat) (i:Nat),y∈dP st' r i→y∈r:=by
   intro r
   induction r with
   | nil=>intro i h;cases h
   | cons x r ih=>
    intro i h
    simp only[dP] at h
    cases hb:gE st' (1000+i) with
    | true=>rw[hb] at h;exact ap _ (ih _ h)
    | false=>
     rw[hb] at h
     rcases bf.1 h with rfl | h
     ·exact au
     ·exact ap _ (ih _ h)
  exact oL hy (this H 0 hm)
 have whr:∀y k2 b m,az (sb++dH (dP st' H 0) (fo H s.st)) y=some k2→kn μ μ'' st' bk y=some (b,m)→
   (∃j k',qF st' bk y=some j∧az st' j=some k'∧μ'' j=some (b,m))∨(qF st' bk y=none∧dq H y=none∧∃k0,az s.st y=some k0∧μ y=some (b,m)):=by
  intro y k2 b m h1 h2
  rcases row y k2 h1 with ⟨j,k',k1,e1,e2,_,_⟩ | ⟨e0,k0,e1,e2,_⟩
  ·left
   refine⟨j,k',e2,e1,?_⟩
   unfold kn at h2
   rw[e2] at h2
   exact h2
  ·right
   refine⟨e0,e1,k0,e2,?_⟩
   unfold kn at h2
   rw[e0] at h2
   exact h2
 have hO2:∀b,cx.O (sb++dH (dP st' H 0) (fo H s.st)) (kn μ μ'' st' bk) b→cx.X b∨Own st' μ'' b∨Own (fo H s.st) μ b:=by
  rintro b (ho | ⟨y,k2,c,m,h1,h2,hi⟩)
  ·exact .inl ho
  ·rcases whr y k2 c m h1 h2 with ⟨j,k',e1,e2,e3⟩ | ⟨e0,e1,k0,e2,e3⟩
   ·exact .inr (.inl ⟨j,k',c,m,e2,e3,hi⟩)
   ·exact .inr (.inr ⟨y,k0,c,m,xK e1 e2,e3,hi⟩)
 have outlt:∀b,Own (fo H s.st) μ b→b<w.heap.size:=fun b ho=>by
  obtain⟨h,k,c,m,_,h2,h3,hi⟩:=wN ho
  exact pC hst ⟨h,k,c,m,h2,h3,hi⟩
 have hOO:∀b,b<w.heap.size→¬cx.O s.st μ b→¬cx.O (sb++dH (dP st' H 0) (fo H s.st)) (kn μ μ'' st' bk) b:=by
  intro b hb hn ho
  rcases hO2 b ho with ho | ⟨j,k',c,m,h1,h2,hi⟩ | ho
  ·exact hn (.inl ho)
  ·rcases(hC.bY j k' c m b h1 h2 hi).2.1 with h3 | h3
   ·exact absurd hb (by show ¬b<w.heap.size;exact Nat.not_lt.2 h3)
   ·exact hn (.inr (hown b h3))
  ·obtain⟨h,k,c,m,_,h2,h3,hi⟩:=wN ho
   exact hn (.inr ⟨h,k,c,m,h2,h3,hi⟩)
 have impO:∀(f:Bool),(vw=true→f=true)→∀{b},(bif f then hJ (cx.O (sb++dH (dP st' H 0) (fo H s.st)) (kn μ μ'' st' bk)) cx.base else cx.O (sb++dH (dP st' H 0) (fo H s.st)) (kn μ μ'' st' bk)) b→
   (bif f then hJ ((dw (jn cx s.st μ H vw) cP (jO H μ) w).O st' μ'') w.heap.size else(dw (jn cx s.st μ H vw) cP (jO H μ) w).O st' μ'') b:=by
  intro f hf b ho
  have key:∀{b},cx.O (sb++dH (dP st' H 0) (fo H s.st)) (kn μ μ'' st' bk) b→(vw=false∨w.heap.size≤b)→(dw (jn cx s.st μ H vw) cP (jO H μ) w).O st' μ'' b:=by
   intro b ho hv
   rcases hO2 b ho with ho | ho | ho
   ·exact .inl (.inl ho)
   ·exact .inr ho
   ·rcases hv with hv | hv
    ·exact .inl (.inr ⟨hv,ho⟩)
    ·have:=outlt b ho;omega
  cases f with
  | false=>exact key ho (.inl (by cases vw with | false=>rfl | true=>cases hf rfl))
  | true=>
   rcases ho with ho | ho
   ·exact .inl (by have:=hst.hb;show b<w.heap.size;omega)
   ·by_cases hlt:b<w.heap.size
    ·exact .inl hlt
    ·exact .inr (key ho (.inr (by omega)))
 have impo:∀(f:Bool){g:G}{v:Value},(vw=true→f=true)→bB (bif f then hJ ((dw (jn cx s.st μ H vw) cP (jO H μ) w).O st' μ'') w.heap.size else(dw (jn cx s.st μ H vw) cP (jO H μ) w).O st' μ'') w' g v→
   bB (bif f then hJ (cx.O (sb++dH (dP st' H 0) (fo H s.st)) (kn μ μ'' st' bk)) cx.base else cx.O (sb++dH (dP st' H 0) (fo H s.st)) (kn μ μ'' st' bk)) w' g v:=by
  intro f g v hf h
  exact h.mono (Kept.refl _ _) fun b _ hn ho=>hn (impO f hf ho)
 have lX:∀{g g':G}{v:Value},aM ((dw (jn cx s.st μ H vw) cP (jO H μ) w).O st' μ'') w.heap.size w' μ'' g v→dv vw (iJ st' bk) g=some g'→
   aM (cx.O (sb++dH (dP st' H 0) (fo H s.st)) (kn μ μ'' st' bk)) cx.base w' (kn μ μ'' st' bk) g' v:=by
  intro g g' v hv hg
  have hmu:∀{j h},iJ st' bk j=some h→kn μ μ'' st' bk h=μ'' j:=by
   intro j h e
   unfold kn
   rw[(EQ hok e).2]
  have aC:∀{g:G}{v:Value},bB ((dw (jn cx s.st μ H vw) cP (jO H μ) w).O st' μ'') w' g v→∀{g'},dv vw (iJ st' bk) g=some g'→
    aM (cx.O (sb++dH (dP st' H 0) (fo H s.st)) (kn μ μ'' st' bk)) cx.base w' (kn μ μ'' st' bk) g' v:=by
   intro g v h
   induction h with
   | any v=>intro g' hg;cases hg;exact .aC (.any _)
   | val v=>intro g' hg;cases hg;exact .aC (.val _)
   | cH b v h=>intro g' hg;cases hg;exact .aC (.cH b v h)
   | nil=>
    intro g' hg
    simp only[dv] at hg
    cases vw with
    | true=>cases hg
    | false=>cases hg;exact .aC .nil
   | ib a c=>
    intro g' hg
    simp only[dv] at hg
    cases vw with
    | true=>cases hg
    | false=>cases hg;exact .aC (.ib a c)
   | sl n cells b off cap us h1 h2 h3 h4 h5 ih=>
    intro g' hg
    simp only[dv] at hg
    cases hvw:vw with
    | true=>rw[hvw] at hg;cases hg
    | false=>rw[hvw] at hg;cases hg;exact .aC (impo false (fun h=>by rw[hvw] at h;cases h) (.sl n cells b off cap us h1 h2 h3 h4 h5))
   | ptr cells b off us h1 h2 h3 h4 ih=>
    intro g' hg
    simp only[dv] at hg
    cases hvw:vw with
    | true=>rw[hvw] at hg;cases hg
    | false=>rw[hvw] at hg;cases hg;exact .aC (impo false (fun h=>by rw[hvw] at h;cases h) (.ptr cells b off us h1 h2 h3 h4))
   | agg cells us hl hr ih=>
    intro g' hg
    simp only[dv,ay] at hg
    obtain⟨gs',h1,rfl⟩:=hg
    obtain⟨h2,h3⟩:=uj h1
    refine .agg gs' us (by omega) fun j g v hg hv=>?_
    obtain⟨g0,h4,h5⟩:=h3 j g hg
    exact ih j g0 v h4 hv h5
  induction hv generalizing g' with
  | aC h=>exact aC h hg
  | fr h=>cases hg;exact .fr (impo true (fun _=>rfl) h)
  | loc h off b m hm=>
   simp only[dv,ay] at hg
   obtain⟨x,h1,rfl⟩:=hg
   exact .loc x off b m (by rw[hmu h1];exact hm)
  | eD h sz hm=>
   simp only[dv,ay] at hg
   obtain⟨x,h1,rfl⟩:=hg
   exact .eD x sz (by rw[hmu h1];exact hm)
  | aK h sz off n b m cap hm hn hc=>
   simp only[dv,ay] at hg
   obtain⟨x,h1,rfl⟩:=hg
   exact .aK x sz off n b m cap (by rw[hmu h1];exact hm) hn hc
  | dO h sz off0 b m hm hpos=>
   simp only[dv,ay] at hg
   obtain⟨x,h1,rfl⟩:=hg
   exact .dO x sz off0 b m (by rw[hmu h1];exact hm) hpos
  | agg cells us hl hr ih=>
   simp only[dv,ay] at hg
   obtain⟨gs',h1,rfl⟩:=hg
   obtain⟨h2,h3⟩:=uj h1
   refine .agg gs' us (by omega) fun j g v hg hv=>?_
   obtain⟨g0,h4,h5⟩:=h3 j g hg
   exact ih j g0 v h4 hv h5
  | aU cells us hl hr ih=>
   simp only[dv,ay] at hg
   obtain⟨gs',h1,rfl⟩:=hg
   obtain⟨h2,h3⟩:=uj h1
   refine .aU gs' us (by omega) fun j g v hg hv=>?_
   obtain⟨g0,h4,h5⟩:=h3 j g hg
   exact ih j g0 v h4 hv h5
  | aP f caps us hl hr ih=>
   simp only[dv,ay] at hg
   obtain⟨gs',h1,rfl⟩:=hg
   obtain⟨h2,h3⟩:=uj h1
   refine .aP f gs' us (by omega) fun j g v hg hv=>?_
   obtain⟨g0,h4,h5⟩:=h3 j g hg
   exact ih j g0 v h4 hv h5
  | cA h b m hm=>
   simp only[dv,ay] at hg
   obtain⟨x,h1,rfl⟩:=hg
   exact .cA x b m (by rw[hmu h1];exact hm)
  | eV h b m hm=>
   simp only[dv,ay] at hg
   obtain⟨x,h1,rfl⟩:=hg
   exact .eV x b m (by rw[hmu h1];exact hm)
  | kp h i off b m c n hm hk=>
   simp only[dv,ay] at hg
   obtain⟨x,h1,rfl⟩:=hg
   exact .kp x i off b m c n (by rw[hmu h1];exact hm) hk
  | ko h i sz a cap hb=>
   simp only[dv,ay] at hg
   obtain⟨x,h1,rfl⟩:=hg
   exact .ko x i sz a cap hb
  | ks h i sz n b m c k cap hm hk hn hc=>
   simp only[dv,ay] at hg
   obtain⟨x,h1,rfl⟩:=hg
   exact .ks x i sz n b m c k cap (by rw[hmu h1];exact hm) hk hn hc
 have hmineA:∀{j y:Nat}{k' k1 k2:ao},az st' j=some k'→qF st' bk y=some j→uE vw (iJ st' bk) k'=some k1→k2=oF (kD s.st st' H 0) s.st j y k'.lp k1→
   ∀b m x,μ'' j=some (b,m)→In x b m→k2.dn=true→cx.base≤x:=by
  intro j y k' k1 k2 e1 e2 e3 e4 b m x hm hi hk2
  have hk1:k1.dn=k'.dn:=by
   unfold uE at e3
   cases hpp:k'.pure with
   | true=>
    rw[hpp,cond_true] at e3
    cases hvf:(vw&&!k'.fresh) with
    | true=>rw[hvf] at e3;cases e3
    | false=>rw[hvf] at e3;cases e3;rfl
   | false=>
    rw[hpp,cond_false] at e3
    cases hgo:dv.go vw (iJ st' bk) k'.cells with
    | none=>rw[hgo] at e3;cases e3
    | some cs=>rw[hgo] at e3;cases e3;rfl
  have own:k'.dn=true→cx.base≤x:=fun h=>by
   have:w.heap.size≤x:=(hC.bY j k' b m x e1 hm hi).2.2.2 h
   have:=hst.hb
   omega
  unfold oF at e4
  cases hl:re k'.lp with
  | true=>
   rw[hl,cond_true] at e4
   subst e4
   exact own (hk1▸hk2)
  | false=>
  rw[hl,cond_false] at e4
  cases hp:pinned j with
  | true=>
   rw[hp,cond_true] at e4
   subst e4
   simp only[zv] at hk2
   have hH:H[j-1000]?=some y:=by
    rcases(nu hok e2).2.2.2 with ⟨_,e⟩ | ⟨e,_⟩
    ·exact e
    ·rw[hp] at e;cases e
   have hpin:=hC.ew j k' e1 hp
   have hj:1000≤j:=eH hp
   have hmy:vc w.heap.size (μ y) (μ'' j):=by
    have:=km (μ:=μ) hH
    rw[show 1000+(j-1000)=j by omega] at this
    rw[←this]
    exact hpin
   cases hky:az s.st y with
   | none=>rw[hky] at hk2;cases hk2
   | some k0=>
    rw[hky] at hk2
    rcases hmy.T2 hm hi with h | ⟨m0,h1,h2⟩
    ·have:=hst.hb
     omega
    ·exact(hst.bY y k0 b m0 x hky h1 h2).2.2.2 hk2
  | false=>
   rw[hp,cond_false] at e4
   subst e4
   simp only[bD] at hk2
   rcases hk2 with hk2 | hA
   ·exact own (hk1▸hk2)
   ·rcases(hC.bY j k' b m x e1 hm hi).2.1 with h5 | h5
    ·have:=hst.hb
     have h6:w.heap.size≤x:=h5
     omega
    ·obtain⟨i,h,k,c,m',q1,q2,q3,q4⟩:=jH hls h5
     rcases CU hA q1 q2 with h7 | h7
     ·exact(hst.bY h k c m' x q2 q3 q4).2.2.2 h7
     ·exfalso
      rw[cr] at h7
      obtain⟨k'',h8⟩:=AW h7
      obtain⟨m2,h10,h11⟩:=(hC.ew _ k'' h8 (qR i)).ext.T2 ((km q1).trans q3) q4
      have:=hC.cR j (1000+i) k' k'' x b m c m2 e1 h8 hm h10 hi h11
      rw[this,qR] at hp
      cases hp
 refine⟨{st:={dB:=?_,cR:=?_,bY:=?_,ew:=?_,ed:=hst.ed,hb:=cm hst.hb hsz,os:=hC.os.trans hst.os,tape:=hC.tape.trans hst.tape,output:=hC.output.trans hst.output,gl:=hst.gl,cW:=?_},nd:=?_,sz:=hr.sz,fr:=?_},fun g g' v=>lX,?_,fun y h1 h2=>alive y h2 (.inr (.inl h1))⟩
 ·intro y k2 h1
  rcases row y k2 h1 with ⟨j,k',k1,e1,e2,e3,e4⟩ | ⟨e0,k0,e1,e2,e3⟩
  ·have hmy:kn μ μ'' st' bk y=μ'' j:=by unfold kn;rw[e2]
   rw[hmy]
   have hbj:=hC.dB j k' e1
   have hmine:∀b m x,μ'' j=some (b,m)→In x b m→k2.dn=true→cx.base≤x:=hmineA e1 e2 e3 e4
   have hloop:re k'.lp=true→k2=k1:=by
    intro hl
    rw[e4]
    unfold oF
    rw[hl];rfl
   have hfields:k2.bw=k1.bw∧k2.pure=k1.pure∧k2.fresh=k1.fresh∧k2.sz=k1.sz∧k2.cells=k1.cells∧k2.lp=k1.lp:=by
    rw[e4];unfold oF;cases re k'.lp <;> cases pinned j <;> exact⟨rfl,rfl,rfl,rfl,rfl,rfl⟩
   obtain⟨f1,f2,f3,f4,f5,f6⟩:=hfields
   clear e4
   unfold uE at e3
   cases hpp:k'.pure with
   | true=>
    rw[hpp,cond_true] at e3
    cases hvf:(vw&&!k'.fresh) with
    | true=>rw[hvf] at e3;cases e3
    | false=>
     rw[hvf] at e3
     cases e3
     cases hm:μ'' j with
     | none=>rw[hm] at hbj;exact hbj.wR f5 f6 f2
     | some bm=>
      obtain⟨b,m⟩:=bm
      rw[hm] at hbj
      cases hl:k'.lp with
      | none=>
       obtain⟨cs,h1,h2,h3,h4,h5,h6⟩:=hbj.cells hl
       refine .mk (f6.trans hl) (hbj.l9 hl) ⟨cs,by rw[f1];exact h1,h2,by rw[f5];exact h3,hmine b m b hm (.self _ _),by rw[f4];exact h5,fun j' g hg=>?_⟩
       rw[f5] at hg
       obtain⟨v,hv,hrv⟩:=h6 j' g hg
       refine⟨v,hv,?_⟩
       unfold bZ at hrv⊢
       rw[f2,f3]
       simp only[hpp] at hrv⊢
       exact impo k'.fresh (fun e=>by rw[e] at hvf;simpa using hvf) hrv
      | some kd=>
       cases kd with
       | loop lp=>
        obtain⟨D,vs,_,_,_,h4,_⟩:=(aS.loop hl).1 hbj
        rw[hpp] at h4;cases h4
       | deep d=>
        obtain⟨h1,h2,h3,h4⟩:=(aS.deep hl).1 hbj
        refine(aS.deep (f6.trans hl)).2 ⟨?_,f2.trans hpp,f5.trans h3,hmine b m b hm (.self _ _)⟩
        rw[f3]
        exact d.mono h1 (Kept.refl _ _) (fun x _ hn ho=>hn (impO k'.fresh (fun e=>by rw[e] at hvf;simpa using hvf) ho)) (fun _ _=>rfl)
   | false=>
    rw[hpp,cond_false] at e3
    cases hgo:dv.go vw (iJ st' bk) k'.cells with
    | none=>rw[hgo] at e3;cases e3
    | some cs'=>
     rw[hgo] at e3
     cases e3
     obtain⟨q1,q2⟩:=uj hgo
     simp only at f1 f2 f3 f4 f5 f6
     cases hm:μ'' j with
     | none=>
      rw[hm] at hbj
      refine hbj.wR (f5.trans ?_) f6 (f2.trans hpp.symm)
      rw[hbj.1]
      exact aT (by rw[q1,hbj.1];rfl)
     | some bm=>
      obtain⟨b,m⟩:=bm
      rw[hm] at hbj
      cases hl:k'.lp with
      | none=>
       obtain⟨cs,h1,h2,h3,h4,h5,h6⟩:=hbj.cells hl
       refine .mk (f6.trans hl) (hbj.l9 hl) ⟨cs,by rw[f1];exact h1,h2,by rw[f5];omega,hmine b m b hm (.self _ _),by rw[f4];exact h5,fun j' g hg=>?_⟩
       rw[f5] at hg
       obtain⟨g0,q3,q4⟩:=q2 j' g hg
       obtain⟨v,hv,hrv⟩:=h6 j' g0 q3
       refine⟨v,hv,?_⟩
       unfold bZ at hrv⊢
       rw[f2]
       simp only[hpp] at hrv⊢
       exact lX hrv q4
      | some kd=>
       cases kd with
       | deep d=>have:=((aS.deep hl).1 hbj).2.1;rw[hpp] at this;cases this
       | loop lp=>
        obtain⟨D,vs,h1,h2,h3,h4,h5⟩:=(aS.loop hl).1 hbj
        have hk2:k2.dn=false:=by rw[hloop (by rw[hl];rfl)];exact h3
        refine(aS.loop (f6.trans hl)).2 ⟨D,vs,h1,h2,hk2,f2,fun j' t g ht hg=>?_⟩
        rw[f5] at hg
        obtain⟨g0,q3,q4⟩:=q2 j' g hg
        obtain⟨v,hv,hrv⟩:=h5 j' t g0 ht q3
        exact⟨v,hv,lX hrv q4⟩
  ·subst e3
   have hmy:kn μ μ'' st' bk y=μ y:=by unfold kn;rw[e0]
   rw[hmy]
   refine((hst.dB y k0 e2).mono (fun b m hm z hz=>hkeep z (pC hst ⟨y,k0,b,m,e2,hm,hz⟩) fun ho=>?_) hkept hOO).dead _ fun hp g hg x hx hh=>alive x hx (.inr (.inr (notst x y k0 g e2 hp hg hh)))
   obtain⟨i,h,k,c',m',q1,q2,q3,q4⟩:=jH hls ho
   exact sq hst q1 q2 q3 q4 e1 e2 hm hz
 ·intro y y' k2 k2' x b m b' m' h1 h2 h3 h4 hi hi'
  rcases whr y k2 b m h1 h3 with ⟨j,k',e1,e2,e3⟩ | ⟨e0,e1,k0,e2,e3⟩ <;> rcases whr y' k2' b' m' h2 h4 with ⟨j',k'',e1',e2',e3'⟩ | ⟨e0',e1',k0',e2',e3'⟩
  ·have:=hC.cR j j' k' k'' x b m b' m' e2 e2' e3 e3' hi hi'
   subst this
   have:=(nu hok e1).2.2.1.symm.trans (nu hok e1').2.2.1
   exact eR this
  ·exfalso
   have hlt:=pC hst ⟨y',k0',b',m',e2',e3',hi'⟩
   rcases(hC.bY j k' b m x e2 e3 hi).2.1 with h5 | h5
   ·exact absurd hlt (Nat.not_lt.2 h5)
   ·obtain⟨i,h,k,c2,m2,q1,q2,q3,q4⟩:=jH hls h5
    exact sq hst q1 q2 q3 q4 e1' e2' e3' hi'
  ·exfalso
   have hlt:=pC hst ⟨y,k0,b,m,e2,e3,hi⟩
   rcases(hC.bY j' k'' b' m' x e2' e3' hi').2.1 with h5 | h5
   ·exact absurd hlt (Nat.not_lt.2 h5)
   ·obtain⟨i,h,k,c2,m2,q1,q2,q3,q4⟩:=jH hls h5
    exact sq hst q1 q2 q3 q4 e1 e2 e3 hi
  ·exact hst.cR y y' k0 k0' x b m b' m' e2 e2' e3 e3' hi hi'
 ·intro y k2 b m x h1 h3 hi
  rcases row y k2 h1 with ⟨j,k',k1,e2,e1,er,e4⟩ | ⟨e0,k0,e1,e2,er⟩
  ·have e3:μ'' j=some (b,m):=by unfold kn at h3;rw[e1] at h3;exact h3
   obtain⟨h5,h6,h7,_⟩:=hC.bY j k' b m x e2 e3 hi
   refine⟨fun hx=>h5 (.inl hx),?_,h7,hmineA e2 e1 er e4 b m x e3 hi⟩
   rcases h6 with h6 | h6
   ·exact .inl (cm hst.hb h6)
   ·obtain⟨i,h,k,c2,m2,q1,q2,q3,q4⟩:=jH hls h6
    exact(hst.bY h k c2 m2 x q2 q3 q4).2.1
  ·have e3:μ y=some (b,m):=by unfold kn at h3;rw[e0] at h3;exact h3
   obtain⟨h5,h6,h7,h8⟩:=hst.bY y k0 b m x e2 e3 hi
   exact⟨h5,h6,bW h7 hsz,fun hm=>h8 (by subst er;unfold og at hm;cases hp:k0.pure <;> simp only[hp] at hm <;> exact hm)⟩
 ·intro y k2 h1 hp
  rcases row y k2 h1 with ⟨j,k',k1,e1,e2,e3,e4⟩ | ⟨e0,k0,e1,e2,e3⟩
  ·rcases(nu hok e2).2.2.2 with ⟨e5,e6⟩ | ⟨_,e5,_⟩
   ·have hj:1000≤j:=eH e5
    have h6:kn μ μ'' st' bk y=μ'' j:=by unfold kn;rw[e2]
    rw[h6]
    have h7:=km (μ:=μ) e6
    rw[show 1000+(j-1000)=j by omega] at h7
    obtain⟨_,k0,hk0⟩:=C5 hls e6
    have h8:=hC.ew j k' e1 e5
    refine(hst.ew y k0 hk0 hp).trans (?_:vc w.heap.size (μ y) (μ'' j)) hst.hb
    rw[←h7]
    exact h8
   ·rw[kY e5] at hp;cases hp
  ·have h6:kn μ μ'' st' bk y=μ y:=by unfold kn;rw[e0]
   rw[h6]
   exact hst.ew y k0 e2 hp
 ·intro b hb hA
  rw[hkeep b (by have:=hst.hb;omega) fun ho=>?_]
  ·exact hst.cW b hb hA
  ·obtain⟨i,h,k,c,m,q1,q2,q3,q4⟩:=jH hls ho
   rcases(hst.bY h k c m b q2 q3 q4).2.1 with h4 | h4
   ·omega
   ·exact hA h4
 ·refine(hr.nd.mono hkept hOO).pz fun g hg y hy=>?_
  have hd:=cz.1 hdf g hg
  simp only[a7] at hd
  refine alive y (fun hm=>by rw[yG hd y hm] at hy;cases hy) (.inr (.inr ?_))
  cases hf:fresh s y with
  | false=>rfl
  | true=>rw[qa (eN hf).2.2.2.1 hg] at hy;cases hy
 ·intro t g hg
  obtain⟨g0,h1,rfl⟩:=LS hg
  obtain⟨v,hv,hrv⟩:=hr.fr t g0 h1
  exact⟨v,hv,yu (hrv.mono hkept hOO (aq _)) fun y hy hh=>alive y hy (.inr (.inr (notfr y t g0 h1 hh)))⟩
 ·intro W hW
  refine⟨hsz,fun b hb hn=>hkeep b hb fun ho=>?_,fun y k2 c m b hy h1 h2 hi=>?_⟩
  ·obtain⟨i,h,k,c,m,q1,q2,q3,q4⟩:=jH hls ho
   exact hn h k c m (hW h (ni q1)) q2 q3 q4
  ·rcases whr y k2 c m h1 h2 with ⟨j,k',e1,e2,e3⟩ | ⟨e0,e1,k0,e2,e3⟩
   ·rcases(hC.bY j k' c m b e2 e3 hi).2.1 with h6 | h6
    ·exact .inr h6
    ·obtain⟨i,h,k,c2,m2,q1,q2,q3,q4⟩:=jH hls h6
     exact .inl ⟨h,k,c2,m2,hW h (ni q1),q2,q3,q4⟩
   ·exact .inl ⟨y,k0,c,m,hy,e2,e3,hi⟩
end
end Go.AM
/-
 AM,part BB:the steps:calls to which blocks are lent;handles under other numbers.
-/
namespace Go.AM
def mZ:List Nat→Bool
 | []=>true
 | h::r=>!(r.contains h)&&mZ r
theorem ik:∀{H:List Nat},mZ H=true→H.Nodup
 | [],_=>List.nodup_nil
 | h::r,e=>by
  simp only[mZ,ag,a7] at e
  refine List.nodup_cons.2 ⟨fun hm=>?_,ik e.2⟩
  have:=e.1
  simp at this
  exact this hm
section
variable {P:Program}{N:Nat}{cx:Cx}{s:St}
variable {ty:TypeId}{pos:String}{after:Array Edge}{guard:Option (Nat×Bool)}{W:List Nat}{d:Nat}
theorem Step.sub {st st' st2:List (Nat×ao)}{μ μ':Mu}{w w':World}(h:Step W st μ st' μ' w w') (hs:j9 st' st2):Step W st μ st2 μ' w w':=
 ⟨h.size,h.block,fun x k c m b h1 h2 h3 hi=>h.hand x k c m b h1 (hs.get h2) h3 hi⟩
theorem qq {f:FuncId}{vs:List Value}{gs gs':List G}{cP:List (Nat×ao)}{Q:G→List (Nat×ao)→Prop}{Qp:List PanicEntry→List (Nat×ao)→Prop}{H:List Nat}{vw:Bool}{μ:Mu}{a:Act}{w:World}(hr:Rel N cx μ s a w)
  (hv:bN.go H (dl s.st H vw) gs=some gs') (hl:ei H (dl s.st H vw) s.st H 0=some cP) (cV:mZ H=true) (hvs:vs.length=gs.length)
  (hrep:∀(j:Nat) (g:G) (v:Value),gs[j]?=some g→vs[j]?=some v→aM (cx.O s.st μ) cx.base w μ g v) (hcon:GP P f gs' cP Q Qp):
  Calls P f vs.toArray w (qg (jn cx s.st μ H vw) cP (jO H μ) w Q Qp):=by
 obtain⟨h1,h2⟩:=mr hv
 have hrel:=BM hr.st hl (ik cV)
 refine hcon (jn cx s.st μ H vw) (jO H μ) w vs hrel.ed hrel (by omega) fun j g v hg hv=>?_
 obtain⟨g0,h3,h4⟩:=h2 j g hg
 exact o9 hr.st hl (hrep j g0 v h3 hv) h4
def sS (H W:List Nat):Bool:=H.all W.contains
theorem rI {H W:List Nat}(h:sS H W=true):∀x∈H,x∈W:=fun x hx=>by
 have:=cz.1 h x hx
 simpa using this
theorem EF.dl {f:FuncId}{x:Operand}{xs:Array Operand}{ts:Array TypeId}{gs caps gs':List G}{cP:List (Nat×ao)}{Q:G→List (Nat×ao)→Prop}{s1:St}(H:List Nat) (vw:Bool) (bk:List Nat) (hb:ry f xs.toList=true) (hc:∀args w,(callFunc f args).run P w=.ok (.enter f args) w)
  (hf:ev s x=some (.aP f caps)) (hx:tc s xs.toList=some gs) (hv:bN.go H (dl s.st H vw) (gs++caps)=some gs') (hl:ei H (dl s.st H vw) s.st H 0=some cP) (cV:mZ H=true) (hcon:GM P f gs' cP Q)
  (hres:∀r st',Q r st'→∃s2 r',jt vw s H st' bk=some s2∧dv vw (iJ st' bk) r=some r'∧Sub (s2.put d r') s1) (hW:sS H W=true):
  bJ P W s ⟨some d,.call ⟨.value x,xs,ts⟩,ty,pos,after,guard⟩ (·=s1):=by
 refine⟨(fun _ h=>by cases h),?_⟩
 intro N cx μ a w hr hN K Q' hK
 obtain⟨h1,h2⟩:=lL hx
 have hcl:=hr.ev hf
 generalize hav:a.eval x=vf at hcl
 cases hcl with
 | aC h=>cases h
 | aP _ _ us hlu hrc=>
  have hcall:=qq (vs:=xs.toList.map a.eval++us) hr hv hl cV (by simp[h1,hlu]) (fun j g v hg hv=>by
   rw[ba] at hg hv
   rw[aN,←h1] at hv
   split at hg
   ·rename_i hj
    rw[if_pos hj] at hv
    obtain⟨x,hxj,he⟩:=h2 j g hg
    rw[ar,hxj] at hv
    cases hv
    exact hr.ev he
   ·rename_i hj
    rw[if_neg hj] at hv
    exact hrc _ g v hg hv) hcon
  unfold Oper.wp
  have:=sX (P:=P) (w:=w) (d:=d) (ty:=ty) (pos:=pos) (after:=after) (guard:=guard) (ts:=ts) hb hc hav
  rw[this]
  refine hcall.mono ?_
  rintro e w' (⟨v,r,st',μ',rfl,hq,hC,hrv⟩ | ⟨_,_,_,_,h,_⟩)
  ·obtain⟨s2,r',hb,hren,hsub⟩:=hres r st' hq
   obtain⟨q1,q2,q3,_⟩:=my hr hl (ik cV) hC hb
   exact hK _ _ _ w' ((q1.put (hN d rfl) (q2 r r' v hrv hren)).sub hsub) rfl ((q3 W (rI hW)).sub hsub.2.1)
  ·exact h.elim
end
end Go.AM
/-
 AM,part BC:a handle under another number (a block that was handed in and may move from now on).
-/
namespace Go.AM
def mv (h h' x:Nat):Nat:=bif Nat.beq x h then h' else x
theorem uq (h h':Nat):mv h h' h=h':=by simp[mv,aQ]
theorem iU {h h' x:Nat}(e:x≠h):mv h h' x=x:=by
 unfold mv
 cases hb:Nat.beq x h with
 | false=>rfl
 | true=>exact absurd (af hb) e
def ob (h h':Nat):G→G
 | .loc x off=>.loc (mv h h' x) off
 | .aK x sz off n=>.aK (mv h h' x) sz off n
 | .cA x=>.cA (mv h h' x)
 | .eV x=>.eV (mv h h' x)
 | .kp x i off=>.kp (mv h h' x) i off
 | .ks x i sz n=>.ks (mv h h' x) i sz n
 | .agg gs=>.agg (go gs)
 | .aU gs=>.aU (go gs)
 | .aP f gs=>.aP f (go gs)
 | g=>g
where go:List G→List G
 | []=>[]
 | g::r=>ob h h' g::go r
theorem nG {h h':Nat}{gs:List G}:(ob.go h h' gs).length=gs.length∧∀(j:Nat) (g':G),(ob.go h h' gs)[j]?=some g'→∃g,gs[j]?=some g∧g'=ob h h' g:=by
 induction gs with
 | nil=>exact⟨rfl,fun j g e=>by simp[ob.go] at e⟩
 | cons x r ih=>
  refine⟨by simp[ob.go,ih.1],fun j g' e=>?_⟩
  simp only[ob.go] at e
  cases j with
  | zero=>cases e;exact⟨x,rfl,rfl⟩
  | succ j=>exact ih.2 j g' e
def Fh (h h':Nat) (k:ao):ao:=bif k.pure then k else {k with cells:=ob.go h h' k.cells}
def xR (h h':Nat):List (Nat×G)→List (Nat×G)
 | []=>[]
 | (t,g)::r=>(t,ob h h' g)::xR h h' r
def tE (h h':Nat):List (Nat×ao)→List (Nat×ao)
 | []=>[]
 | (x,k)::r=>(mv h h' x,Fh h h' k)::tE h h' r
theorem Qe {h h':Nat}{fr:List (Nat×G)}{t:Nat}{g:G}(hg:get (xR h h' fr) t=some g):∃g0,get fr t=some g0∧g=ob h h' g0:=by
 induction fr with
 | nil=>cases hg
 | cons x r ih=>
  obtain⟨k,g'⟩:=x
  simp only[xR,im] at hg⊢
  cases hb:Nat.beq k t with
  | true=>rw[hb] at hg;cases hg;exact⟨g',rfl,rfl⟩
  | false=>rw[hb] at hg;exact ih hg
theorem MZ {h h':Nat}(hne:h'≠h){st:List (Nat×ao)}{y:Nat}{k2:ao}(hn:az st h'=none) (hg:az (tE h h' st) y=some k2):
  (y=h'∧∃k,az st h=some k∧k2=Fh h h' k)∨(y≠h'∧y≠h∧∃k,az st y=some k∧k2=Fh h h' k):=by
 induction st with
 | nil=>cases hg
 | cons x r ih=>
  obtain⟨z,k⟩:=x
  have hz:z≠h':=fun e=>by subst e;rw[dz] at hn;cases hn
  rw[aI _ _ (Ne.symm hz)] at hn
  simp only[tE,qk] at hg
  cases hb:Nat.beq (mv h h' z) y with
  | true=>
   rw[hb] at hg
   cases hg
   have hb:=af hb
   by_cases e:z=h
   ·subst e
    rw[uq] at hb
    exact .inl ⟨hb.symm,k,dz _ _ _,rfl⟩
   ·rw[iU e] at hb
    subst hb
    exact .inr ⟨hz,e,k,dz _ _ _,rfl⟩
  | false=>
   rw[hb] at hg
   have hbz:mv h h' z≠y:=fun e=>by rw[e,aQ] at hb;cases hb
   rcases ih hn hg with ⟨e,k',h1,h2⟩ | ⟨e1,e2,k',h1,h2⟩
   ·refine .inl ⟨e,k',?_,h2⟩
    rw[aI _ _ (fun e'=>by subst e';rw[uq] at hbz;exact hbz e.symm)]
    exact h1
   ·refine .inr ⟨e1,e2,k',?_,h2⟩
    rw[aI _ _ (fun e'=>by subst e';rw[iU e2] at hbz;exact hbz rfl)]
    exact h1
theorem xQ {O:Nat→Prop}{base:Nat}{w:World}{μ μ':Mu}{h h':Nat}{g:G}{v:Value}(hv:aM O base w μ g v) (h1:μ' h'=μ h) (h2:∀y,y≠h→g.bO y=true→μ' y=μ y):aM O base w μ' (ob h h' g) v:=by
 have key:∀{y:Nat}{x:Option (Nat×Mm)},μ y=x→(y≠h→μ' y=μ y)→μ' (mv h h' y)=x:=by
  intro y x hm hy
  by_cases e:y=h
  ·subst e;rw[uq,h1];exact hm
  ·rw[iU e,hy e];exact hm
 have aC:∀{g:G}{v:Value},bB O w g v→aM O base w μ' (ob h h' g) v:=by
  intro g v hi
  induction hi with
  | any v=>exact .aC (.any v)
  | val v=>exact .aC (.val v)
  | cH b v h=>exact .aC (.cH b v h)
  | nil=>exact .aC .nil
  | ib a c=>exact .aC (.ib a c)
  | sl n cells b off cap us h1 h2 h3 h4 h5 ih=>exact .aC (.sl n cells b off cap us h1 h2 h3 h4 h5)
  | ptr cells b off us h1 h2 h3 h4 ih=>exact .aC (.ptr cells b off us h1 h2 h3 h4)
  | agg cells us hl hr ih=>
   refine .agg _ us (by rw[nG.1];exact hl) fun j g v hg hv=>?_
   obtain⟨g0,e1,rfl⟩:=nG.2 j g hg
   exact ih j g0 v e1 hv
 induction hv with
 | aC h=>exact aC h
 | fr h=>exact .fr h
 | loc x off b m hm=>exact .loc _ off b m (key hm fun e=>h2 x e (by simp[G.bO,aQ]))
 | eD x sz hm=>exact .eD _ sz (key hm fun e=>h2 x e (by simp[G.bO,aQ]))
 | aK x sz off n b m cap hm hn hc=>exact .aK _ sz off n b m cap (key hm fun e=>h2 x e (by simp[G.bO,aQ])) hn hc
 | dO x sz off0 b m hm hp=>exact .dO _ sz off0 b m (key hm fun e=>h2 x e (by simp[G.bO,aQ])) hp
 | cA x b m hm=>exact .cA _ b m (key hm fun e=>h2 x e (by simp[G.bO,aQ]))
 | eV x b m hm=>exact .eV _ b m (key hm fun e=>h2 x e (by simp[G.bO,aQ]))
 | kp x i off b m c n hm hk=>exact .kp _ i off b m c n (key hm fun e=>h2 x e (by simp[G.bO,aQ])) hk
 | ko x i sz a cap hb=>exact .ko _ i sz a cap hb
 | ks x i sz n b m c k cap hm hk hn hc=>exact .ks _ i sz n b m c k cap (key hm fun e=>h2 x e (by simp[G.bO,aQ])) hk hn hc
 | agg cells us hl hr ih=>
  refine .agg _ us (by rw[nG.1];exact hl) fun j g v hg hv=>?_
  obtain⟨g0,e1,rfl⟩:=nG.2 j g hg
  exact ih j g0 v e1 hv fun y hy hh=>h2 y hy (by simp only[G.bO];exact G.qs (aL e1) hh)
 | aU cells us hl hr ih=>
  refine .aU _ us (by rw[nG.1];exact hl) fun j g v hg hv=>?_
  obtain⟨g0,e1,rfl⟩:=nG.2 j g hg
  exact ih j g0 v e1 hv fun y hy hh=>h2 y hy (by simp only[G.bO];exact G.qs (aL e1) hh)
 | aP f cells us hl hr ih=>
  refine .aP f _ us (by rw[nG.1];exact hl) fun j g v hg hv=>?_
  obtain⟨g0,e1,rfl⟩:=nG.2 j g hg
  exact ih j g0 v e1 hv fun y hy hh=>h2 y hy (by simp only[G.bO];exact G.qs (aL e1) hh)
theorem aS.move {O:Nat→Prop}{base:Nat}{w:World}{μ μ':Mu}{k:ao}{x:Option (Nat×Mm)}{h h':Nat}(hb:aS O base w μ k x) (h1:μ' h'=μ h) (h2:k.pure=false→∀g∈k.cells,∀y,y≠h→g.bO y=true→μ' y=μ y):aS O base w μ' (Fh h h' k) x:=by
 unfold Fh
 cases hp:k.pure with
 | true=>exact hb.gU fun hp'=>by rw[hp] at hp';cases hp'
 | false=>
  have h2:=h2 hp
  simp only[cond_false]
  cases x with
  | none=>
   obtain⟨e1,e2⟩:=hb
   refine⟨aT (by simp only;rw[nG.1,e1];rfl),?_⟩
   dsimp only
   split at e2
   ·trivial
   ·exact e2.elim
   ·rw[hp] at e2;cases e2.2
  | some bm=>
   obtain⟨b,m⟩:=bm
   cases hl:k.lp with
   | none=>
    obtain⟨cs1,h4,h5,h6,h7,h8,h9⟩:=hb.cells hl
    refine .mk rfl (hb.l9 hl) ⟨cs1,h4,h5,by simp only;rw[nG.1];exact h6,h7,h8,fun j g hg=>?_⟩
    obtain⟨g0,e1,rfl⟩:=nG.2 j g hg
    obtain⟨v,hv,hrv⟩:=h9 j g0 e1
    refine⟨v,hv,?_⟩
    unfold bZ at hrv⊢
    rw[hp] at hrv
    simp only
    exact xQ hrv h1 (h2 g0 (aL e1))
   | some kd=>
    cases kd with
    | deep d=>have:=((aS.deep hl).1 hb).2.1;rw[hp] at this;cases this
    | loop lp=>
     obtain⟨D,vs,q1,q2,q3,q4,q5⟩:=(aS.loop hl).1 hb
     refine(aS.loop rfl).2 ⟨D,vs,q1,q2,q3,rfl,fun j t g ht hg=>?_⟩
     obtain⟨g0,e1,rfl⟩:=nG.2 j g hg
     obtain⟨v,hv,hrv⟩:=q5 j t g0 ht e1
     exact⟨v,hv,xQ hrv h1 (h2 g0 (aL e1))⟩
theorem PH (h h':Nat) (k:ao):(Fh h h' k).dn=k.dn:=by unfold Fh;cases k.pure <;> rfl
section
variable {P:Program}{N:Nat}{cx:Cx}{s:St}{Q:Exit→St→Prop}
theorem Rel.move {μ : Mu} {a : Act} {w : World} (hr : Rel N cx μ s a w) (h h' : Nat) (hf : fresh s h' = true) (hne : Nat.beq h' h = false) :
    Rel N cx (nC μ h' (μ h)) { fr := xR h h' s.fr, st := tE h h' s.st, df := ob.go h h' s.df } a w := by
  have hne : h' ≠ h := fun e => by subst e; rw [aQ] at hne; cases hne
  obtain ⟨f1, f2, f3, f4, f5⟩ := eN hf
  have other : ∀ {y}, y ≠ h' → nC μ h' (μ h) y = μ y := fun e => bq e
  have row := fun (y : Nat) (k2 : ao) (e : az (tE h h' s.st) y = some k2) => MZ hne f1 e
  have whr : ∀ y k2, az (tE h h' s.st) y = some k2 → ∃ x k, az s.st x = some k ∧ k2 = Fh h h' k ∧ nC μ h' (μ h) y = μ x ∧ y = mv h h' x := by
    intro y k2 e
    rcases row y k2 e with ⟨rfl, k, e1, e2⟩ | ⟨e0, e1, k, e2, e3⟩
    · exact ⟨h, k, e1, e2, cp _ _ _, (uq _ _).symm⟩
    · exact ⟨y, k, e2, e3, other e0, (iU e1).symm⟩
  have hO : ∀ b, ¬ cx.O s.st μ b → ¬ cx.O (tE h h' s.st) (nC μ h' (μ h)) b := by
    rintro b hn (ho | ⟨y, k2, c, m, e1, e2, hi⟩)
    · exact hn (.inl ho)
    · obtain ⟨x, k, q1, _, q3, _⟩ := whr y k2 e1
      rw [q3] at e2
      exact hn (.inr ⟨x, k, c, m, q1, e2, hi⟩)
  refine { st := { dB := ?_, cR := ?_, bY := ?_, ew := ?_, ed := hr.st.ed, hb := hr.st.hb, os := hr.st.os, tape := hr.st.tape, output := hr.st.output, gl := hr.st.gl, cW := hr.st.cW }, nd := ?_, sz := hr.sz, fr := ?_ }
  · intro y k2 e
    obtain ⟨x, k, q1, rfl, q3, _⟩ := whr y k2 e
    rw [q3]
    exact ((hr.st.dB x k q1).mono (fun _ _ _ _ _ => rfl) (Kept.refl _ _) fun b _ => hO b).move (cp _ _ _) fun hp g hg y _ hh => other fun e => by subst e; rw [uy f3 q1 hp hg] at hh; cases hh
  · intro y y' k2 k2' z b m b' m' e1 e2 e3 e4 hi hi'
    obtain ⟨x, k, q1, _, q3, q4⟩ := whr y k2 e1
    obtain ⟨x', k', q1', _, q3', q4'⟩ := whr y' k2' e2
    rw [q3] at e3
    rw [q3'] at e4
    rw [q4, q4', hr.st.cR x x' k k' z b m b' m' q1 q1' e3 e4 hi hi']
  · intro y k2 b m z e1 e2 hi
    obtain ⟨x, k, q1, rfl, q3, _⟩ := whr y k2 e1
    rw [q3] at e2
    obtain ⟨a1, a2, a3, a4⟩ := hr.st.bY x k b m z q1 e2 hi
    exact ⟨a1, a2, a3, fun hm => a4 (by rw [PH] at hm; exact hm)⟩
  · intro y k2 e hp
    rcases row y k2 e with ⟨rfl, _⟩ | ⟨e0, e1, k, e2, _⟩
    · rw [kY f5] at hp; cases hp
    · rw [other e0]; exact hr.st.ew y k e2 hp
  · have cV := hr.nd.mono (Kept.refl _ _) fun b _ => hO b
    clear hO whr row
    generalize s.df = gs at cV f4
    generalize a.defers = ds at cV
    induction cV with
    | nil => exact .nil
    | mark h1 h2 h3 h4 h5 h6 ih => exact .mark h1 h2 h3 h4 h5 (ih f4)
    | aP h1 h2 ih =>
      simp only [po, ag, a7] at f4
      exact .aP (xQ h1 (cp _ _ _) fun y _ hh => other fun e => by subst e; rw [f4.1] at hh; cases hh) (ih f4.2)
  · intro t g hg
    obtain ⟨g0, e1, rfl⟩ := Qe hg
    obtain ⟨v, hv, hrv⟩ := hr.fr t g0 e1
    exact ⟨v, hv, xQ (hrv.mono (Kept.refl _ _) (fun b _ => hO b) (aq _)) (cp _ _ _) fun y _ hh => other fun e => by subst e; rw [np f2 e1] at hh; cases hh⟩
theorem GW.move {c:Code}(h h':Nat) (hf:fresh s h'=true) (hne:Nat.beq h' h=false) (k:GW P N cx c Q {fr:=xR h h' s.fr,st:=tE h h' s.st,df:=ob.go h h' s.df}):GW P N cx c Q s:=fun _ a w hr=>k _ a w (hr.move h h' hf hne)
theorem GL.move {ops:Array Oper}{rest:List Oper}(h h':Nat) (hf:fresh s h'=true) (hne:Nat.beq h' h=false) (k:GL P N cx ops Q rest {fr:=xR h h' s.fr,st:=tE h h' s.st,df:=ob.go h h' s.df}):GL P N cx ops Q rest s:=fun _ a w hr=>k _ a w (hr.move h h' hf hne)
end
end Go.AM
/-
 AM,part BD:loops over functions:their rounds,the calls of yield,the loop itself.
-/
namespace Go.AM
theorem bP.ro {cx:Cx}{μ:Mu}{st:List (Nat×ao)}{w:World}(h:bP cx μ st w) (r:Option Nat):bP {cx with ro:=r} μ st w:=
 {dB:=h.dB,cR:=h.cR,bY:=h.bY,ew:=h.ew,ed:=h.ed,hb:=h.hb,os:=h.os,tape:=h.tape,output:=h.output,gl:=h.gl,cW:=h.cW}
def pi:List Nat→List G→List (Nat×G)
 | t::ts,g::gs=>(t,g)::pi ts gs
 | _,_=>[]
theorem BS:∀{ts:List Nat}{gs:List G}{t:Nat}{g:G},get (pi ts gs) t=some g→∃j:Nat,ts[j]?=some t∧gs[j]?=some g
 | [],_,_,_,h=>by cases h
 | _::_,[],_,_,h=>by cases h
 | x::ts,y::gs,t,g,h=>by
  simp only[pi,im] at h
  cases hb:Nat.beq x t with
  | true=>rw[hb] at h;cases h;have:=af hb;subst this;exact⟨0,rfl,rfl⟩
  | false=>
   rw[hb] at h
   obtain⟨j,h1,h2⟩:=BS h
   exact⟨j+1,h1,h2⟩
theorem get_append {a b:List (Nat×G)}{t:Nat}:get (a++b) t=(get a t).or (get b t):=by
 induction a with
 | nil=>rfl
 | cons x r ih=>
  obtain⟨y,k⟩:=x
  simp only[bd,get]
  cases Nat.beq y t with
  | true=>rfl
  | false=>exact ih
def OW (Q:Option Code→List (Nat×ao)→Prop):Exit→St→Prop:=fun e s=>s.df=[]∧∃st',j9 s.st st'∧match e with
 | .normal=>Q none st'
 | .ret=>Q (some .ret) st'
 | .exit id=>Q (some (.exit id)) st'
 | _=>False
def GY (P : Program) (lp : Lp) (cells args : List G) (st : List (Nat × ao)) (Q : Option Code → List (Nat × ao) → Prop) : Prop :=
 ∀ cx, GW P lp.N cx lp.assign (fun e s => e = .normal ∧ ∀ cx', GW P lp.N cx' lp.body (OW Q) s) { fr := pi lp.ps.toList args ++ pi lp.al cells, st := st, df := [] }
theorem GY.of {P : Program} {lp : Lp} {cells args : List G} {st : List (Nat × ao)} {Q : Option Code → List (Nat × ao) → Prop} {ot body : Code} (ha : lp.assign = ot) (hb : lp.body = body)
  (h : ∀ cx, GW P lp.N cx ot (fun e s => e = .normal ∧ ∀ cx', GW P lp.N cx' body (OW Q) s) { fr := pi lp.ps.toList args ++ pi lp.al cells, st := st, df := [] }) : GY P lp cells args st Q := by
 unfold GY; rw [ha, hb]; exact h
section
variable {P:Program}{N:Nat}{cx:Cx}{s:St}
theorem foldl_set (ps:List Nat) (vs:List Value) (tm:Array Value) (t:Nat):((ps.zip vs).foldl (fun (tm:Array Value) (x:Nat×Value)=>tm.setIfInBounds x.1 x.2) tm).size=tm.size∧
  (t∉ps→((ps.zip vs).foldl (fun (tm:Array Value) (x:Nat×Value)=>tm.setIfInBounds x.1 x.2) tm)[t]?=tm[t]?):=by
 induction ps generalizing vs tm with
 | nil=>exact⟨rfl,fun _=>rfl⟩
 | cons p r ih=>
  cases vs with
  | nil=>exact⟨rfl,fun _=>rfl⟩
  | cons v vs=>
   simp only[List.zip_cons_cons,List.foldl_cons]
   obtain⟨h1,h2⟩:=ih vs (tm.setIfInBounds p v)
   refine⟨h1.trans (by simp),fun hn=>?_⟩
   rw[bf,not_or] at hn
   rw[h2 hn.2,eF (Ne.symm hn.1)]
theorem yP:∀(ps:List Nat) (vs:List Value) (tm:Array Value) (j t:Nat) (v:Value),ps.Nodup→ps[j]?=some t→vs[j]?=some v→t<tm.size→
  ((ps.zip vs).foldl (fun (tm:Array Value) (x:Nat×Value)=>tm.setIfInBounds x.1 x.2) tm)[t]?=some v
 | [],_,_,_,_,_,_,h,_,_=>by cases h
 | _::_,[],_,_,_,_,_,_,h,_=>by cases h
 | p::r,u::vs,tm,j,t,v,hn,h1,h2,hl=>by
  simp only[List.zip_cons_cons,List.foldl_cons]
  cases j with
  | zero=>
   cases h1;cases h2
   rw[(foldl_set r vs _ _).2 (List.nodup_cons.1 hn).1,fT hl]
  | succ j=>exact yP r vs _ j t v (List.nodup_cons.1 hn).2 h1 h2 (by simpa using hl)
theorem Rel.HU {μ:Mu}{a:Act}{w:World}(hr:Rel N cx μ s a w){h:Nat}{k:ao}{lp:Lp}(hk:az s.st h=some k) (hlp:k.lp=some (.loop lp)):
  ∃l m,μ h=some (l,m)∧AL (cx.O s.st μ) cx.base w μ k lp l:=by
 have hb:=hr.st.dB h k hk
 cases hm:μ h with
 | none=>rw[hm] at hb;have:=hb.2;rw[hlp] at this;exact this.elim
 | some bm=>
  obtain⟨l,m⟩:=bm
  rw[hm] at hb
  exact⟨l,m,rfl,(aS.loop hlp).1 hb⟩
theorem AL.shut {O Z:Nat→Prop}{base:Nat}{w w':World}{μ:Mu}{k k':ao}{lp lp':Lp}{l:Nat}(hr:AL O base w μ k lp l) (h:fB Z w w') (hl:∀(D:Nat×FuncId) vs,w.heap[l]?=some (.loop {state:=if lp.jj.isNone then .ready else .done,pending:=lp.jj,fn:=D.2,tmps:=vs,params:=lp.ps,assign:=lp.assign,body:=lp.body,defers:=D.1})→
   w'.heap[l]?=some (.loop {state:=if lp'.jj.isNone then .ready else .done,pending:=lp'.jj,fn:=D.2,tmps:=vs,params:=lp'.ps,assign:=lp'.assign,body:=lp'.body,defers:=D.1})) (e1:lp'.N=lp.N) (e2:lp'.al=lp.al) (e3:k'.cells=k.cells) (e4:k'.dn=k.dn) (e5:k'.pure=k.pure):AL O base w' μ k' lp' l:=by
 obtain⟨D,vs,h1,h2,h3,h4,h5⟩:=hr
 refine⟨D,vs,hl D vs h1,h2.trans e1.symm,e4.trans h3,e5.trans h4,fun j t g ht hg=>?_⟩
 rw[e2] at ht
 rw[e3] at hg
 obtain⟨v,hv,hrv⟩:=h5 j t g ht hg
 exact⟨v,hv,hrv.shut h⟩
theorem Rel.R0 {μ:Mu}{a:Act}{w:World}(hr:Rel N cx μ s a w){h l:Nat}{m:Mm}{k:ao}{lp:Lp}(hk:az s.st h=some k) (hlp:k.lp=some (.loop lp)) (hm:μ h=some (l,m)) (j:Option Code){D:Nat×FuncId}{vs:Array Value}
  (hD:w.heap[l]?=some (.loop {state:=if lp.jj.isNone then .ready else .done,pending:=lp.jj,fn:=D.2,tmps:=vs,params:=lp.ps,assign:=lp.assign,body:=lp.body,defers:=D.1})):
  Rel N cx μ {s with st:=cC s.st h {k with lp:=some (.loop {lp with jj:=j})}} a (w.putObj l (.loop {state:=if j.isNone then .ready else .done,pending:=j,fn:=D.2,tmps:=vs,params:=lp.ps,assign:=lp.assign,body:=lp.body,defers:=D.1})):=by
 have hs:fB (fun b=>b=l) w (w.putObj l (.loop {state:=if j.isNone then .ready else .done,pending:=j,fn:=D.2,tmps:=vs,params:=lp.ps,assign:=lp.assign,body:=lp.body,defers:=D.1})):=fB.put _ rfl hD rfl
 have hll:l<w.heap.size:=lt_of_heap hD
 have hOO:∀b,cx.O (cC s.st h {k with lp:=some (.loop {lp with jj:=j})}) μ b↔cx.O s.st μ b:=fun b=>or_congr Iff.rfl (Own.cC hk)
 have hO:∀b,¬cx.O s.st μ b→¬cx.O (cC s.st h {k with lp:=some (.loop {lp with jj:=j})}) μ b:=fun b hn ho=>hn ((hOO b).1 ho)
 have Kv:∀x k1,az (cC s.st h {k with lp:=some (.loop {lp with jj:=j})}) x=some k1→∃k0,az s.st x=some k0:=fun x k1 h1=>by
  rcases cF hk h1 with ⟨rfl,rfl⟩ | ⟨_,h1⟩
  ·exact⟨k,hk⟩
  ·exact⟨_,h1⟩
 refine {st:={dB:=?_,cR:=?_,bY:=?_,ew:=?_,ed:=hr.st.ed,hb:=by rw[hs.size];exact hr.st.hb,os:=hr.st.os,tape:=hr.st.tape,output:=hr.st.output,gl:=hr.st.gl,cW:=?_},nd:=?_,sz:=hr.sz,fr:=?_}
 ·intro x k1 h1
  rcases cF hk h1 with ⟨rfl,rfl⟩ | ⟨hne,h1⟩
  ·rw[hm]
   have hb:=hr.st.dB x k hk
   rw[hm] at hb
   have hb:=(aS.loop hlp).1 hb
   refine(aS.loop rfl).2 ?_
   refine(hb.shut (Z:=fun b=>b=l) (w:=w) (k':=k) (lp':={lp with jj:=j}) hs (fun D' vs' h'=>?_) rfl rfl rfl rfl rfl).imp fun D' hx=>hx.imp fun vs' hx=>⟨hx.1,hx.2.1,hx.2.2.1,hx.2.2.2.1,fun j' t g ht hg=>let ⟨v,hv,hrv⟩:=hx.2.2.2.2 j' t g ht hg;⟨v,hv,hrv.mono (Kept.refl _ _) (fun b _=>hO b) (aq _)⟩⟩
   rw[hD] at h'
   obtain⟨_,_⟩:=D
   obtain⟨_,_⟩:=D'
   cases h'
   rw[World.putObj_heap_same hll]
  ·exact((hr.st.dB x k1 h1).shut hs fun b m' hmx _ y hy hb=>hne (hr.st.cR x h k1 k y b m' l m h1 hk hmx hm hy (.inl hb))).mono (fun _ _ _ _ _=>rfl) (Kept.refl _ _) (fun b _=>hO b)
 ·intro x x' k1 k2 y b m1 b2 m2 h1 h2
  obtain⟨k1',h1'⟩:=Kv x k1 h1
  obtain⟨k2',h2'⟩:=Kv x' k2 h2
  exact hr.st.cR x x' k1' k2' y b m1 b2 m2 h1' h2'
 ·intro x k1 b m1 y h1 h2 hi
  rw[hs.size]
  rcases cF hk h1 with ⟨rfl,rfl⟩ | ⟨_,h1⟩
  ·exact hr.st.bY x k b m1 y hk h2 hi
  ·exact hr.st.bY x k1 b m1 y h1 h2 hi
 ·intro x k1 h1 h2
  obtain⟨k1',h1'⟩:=Kv x k1 h1
  exact hr.st.ew x k1' h1' h2
 ·intro b hb hA
  have hne:b≠l:=fun e=>by
   subst e
   rcases(hr.st.out h k b m hk hm).2 with h1 | h1
   ·omega
   ·exact hA h1
  rw[World.putObj_heap_other hne]
  exact hr.st.cW b hb hA
 ·refine(fZ.shut hr.nd hs fun d hd D' e hz=>?_).mono (Kept.refl _ _) (fun b _=>hO b)
  subst hz
  have key:∀{ds:List Deferred}{gs:List G},fZ (cx.O s.st μ) cx.base w μ ds gs→d∈ds→∃x,w.heap[D']?=some (.deferred x):=by
   intro ds gs hdf
   induction hdf with
   | nil=>intro h;cases h
   | mark _ _ _ h4 _ _ ih=>
    intro hd
    rcases bf.1 hd with rfl | hd
    ·cases e;exact⟨_,h4⟩
    ·exact ih hd
   | aP _ _ ih=>
    intro hd
    rcases bf.1 hd with rfl | hd
    ·cases e
    ·exact ih hd
  obtain⟨x,hx⟩:=key hr.nd hd
  rw[hD] at hx;cases hx
 ·intro t g hg
  obtain⟨v,hv,hrv⟩:=hr.fr t g hg
  exact⟨v,hv,(hrv.shut hs).mono (Kept.refl _ _) (fun b _=>hO b) (aq _)⟩
theorem Hw (w:World) (l:Nat) (o o':Obj):(w.putObj l o).putObj l o'=w.putObj l o':=by
 simp[World.putObj]
variable {ty:TypeId}{pos:String}{after:Array Edge}{guard:Option (Nat×Bool)}{d:Nat}{ops:Array Oper}{rest:List Oper}{R:Exit→St→Prop}
theorem K8 {μ : Mu} {a : Act} {w : World} {vs : List Value} {gs gs' cells' : List G} {cP : List (Nat × ao)} {Q : Option Code → List (Nat × ao) → Prop} {h l : Nat} {m : Mm} {k : ao} {lp : Lp} (hr : Rel N cx μ s a w) (hk : az s.st h = some k) (hlp : k.lp = some (.loop lp)) (hpend : lp.jj = none) (hm : μ h = some (l, m))
  (H : List Nat) (hh : dq H h = none) (hv : bN.go H [] gs = some gs') (hc : bN.go H [] k.cells = some cells') (hl : ei H [] s.st H 0 = some cP) (cV : mZ H = true) (hps : gs'.length = lp.ps.size) (hpn : mZ lp.ps.toList = true) (hpl : lp.ps.toList.all (Nat.blt · lp.N) = true)
  (hvs : vs.length = gs.length) (hrep : ∀ (j : Nat) (g : G) (v : Value), gs[j]? = some g → vs[j]? = some v → aM (cx.O s.st μ) cx.base w μ g v) (hcon : GY P lp cells' gs' cP Q)
  {T : Ending → World → Prop} (hT : ∀ j st' μ'' w3, Q j st' → bP (dw (jn cx s.st μ H false) cP (jO H μ) w) μ'' st' w3 → ∀ (D : Nat × FuncId) tm, w3.heap[l]? = some (.loop { state := .ready, pending := none, fn := D.2, tmps := tm, params := lp.ps, assign := lp.assign, body := lp.body, defers := D.1 }) →
   T (.returned (.bool j.isNone)) (w3.putObj l (.loop { state := if j.isNone then .ready else .done, pending := j, fn := D.2, tmps := tm, params := lp.ps, assign := lp.assign, body := lp.body, defers := D.1 }))) :
  ∃ (tm0 : Array Value) (D : Nat × FuncId), w.heap[l]? = some (.loop { state := .ready, pending := none, fn := D.2, tmps := tm0, params := lp.ps, assign := lp.assign, body := lp.body, defers := D.1 }) ∧
   RoundIn (FF cx.ro) 0 P l D.2 ((lp.ps.zip vs.toArray).foldl (fun tmps (t, a) => tmps.setIfInBounds t a) tm0) lp.assign lp.body w T := by
 obtain ⟨l', m', hm', D, tm0, q1, q2, q3, q4, q5⟩ := hr.HU hk hlp
 rw [hm] at hm'
 cases hm'
 simp only [hpend, Option.isNone_none, if_true] at q1
 refine ⟨tm0, D, q1, ?_⟩
 have hll := lt_of_heap q1
 have hls : ei H (dl s.st H false) s.st H 0 = some cP := hl
 have hrel := BM hr.st hls (ik cV)
 have hlX : jn cx s.st μ H false l := .inr ⟨rfl, ⟨h, k, l, m, xK hh hk, hm, .self _ _⟩⟩
 have hlA : ¬ Own cP (jO H μ) l := fun ho => by
  obtain ⟨i, h', k', c', m', e1, e2, e3, e4⟩ := jH hls ho
  exact sq hr.st e1 e2 e3 e4 hh hk hm (.self _ _)
 generalize htm : (lp.ps.zip vs.toArray).foldl (fun tmps (t, a) => tmps.setIfInBounds t a) tm0 = tm
 have htm' : (lp.ps.toList.zip vs).foldl (fun (tm : Array Value) (x : Nat × Value) => tm.setIfInBounds x.1 x.2) tm0 = tm := by
  rw [← htm, ← Array.foldl_toList, Array.toList_zip]
 obtain ⟨v1, v2⟩ := mr hv
 obtain ⟨c1, c2⟩ := mr hc
 have hstart : Rel lp.N { dw (jn cx s.st μ H false) cP (jO H μ) w with ro := some l } (jO H μ) { fr := pi lp.ps.toList gs' ++ pi lp.al cells', st := cP, df := [] } { tmps := tm, defers := [] } w := by
  refine { st := hrel.ro _, nd := .nil, sz := by rw [← htm']; exact (foldl_set _ _ _ 0).1.trans q2, fr := fun t g hg => ?_ }
  rw [get_append] at hg
  have hslot : ∀ t, t ∈ lp.ps.toList → t < tm0.size := fun t ht => by
   have := cz.1 hpl t ht
   rw [q2]; simpa [fh] using this
  cases hz : get (pi lp.ps.toList gs') t with
  | some g1 =>
   rw [hz] at hg
   cases hg
   obtain ⟨j, e1, e2⟩ := BS hz
   obtain ⟨g0, e3, e4⟩ := v2 j _ e2
   have hj : j < vs.length := by have := (aw.1 e3).1; omega
   refine ⟨vs[j], ?_, o9 hr.st hls (hrep j g0 _ e3 (av hj)) e4⟩
   rw [← htm']
   exact yP _ _ _ j t _ (ik hpn) e1 (av hj) (hslot t (aL e1))
  | none =>
   rw [hz, Option.none_or] at hg
   obtain ⟨j, e1, e2⟩ := BS hg
   obtain ⟨g0, e3, e4⟩ := c2 j _ e2
   obtain ⟨v, hv0, hrv⟩ := q5 j t g0 e1 e3
   refine ⟨v, ?_, o9 hr.st hls hrv e4⟩
   have hnot : t ∉ lp.ps.toList := fun ht => by
    obtain ⟨i, hi, rfl⟩ := List.getElem_of_mem ht
    have hlen : i < gs'.length := by rw [hps]; simpa using hi
    have key : ∀ (ts : List Nat) (gs : List G) (i : Nat) (hi : i < ts.length), i < gs.length → get (pi ts gs) ts[i] ≠ none := by
     intro ts
     induction ts with
     | nil => intro gs i hi; cases hi
     | cons x r ih =>
      intro gs i hi hg
      cases gs with
      | nil => cases hg
      | cons y ys =>
       simp only [pi, im]
       cases i with
       | zero => simp [aQ]
       | succ i =>
        simp only [List.getElem_cons_succ]
        cases Nat.beq x (r[i]'(by simpa using hi)) with
        | true => simp
        | false => exact ih ys i (by simpa using hi) (by simpa using hg)
    exact key _ _ i hi hlen hz
   rw [← htm', (foldl_set _ _ _ t).2 hnot]
   exact hv0
 refine roundIn_of_wpIn trivial ?_
 have hA := hcon { dw (jn cx s.st μ H false) cP (jO H μ) w with ro := some l } (jO H μ) { tmps := tm, defers := [] } w hstart
 refine wpIn_mono (show lp.assign.wpIn ((FF cx.ro).inRound l) 0 P _ _ _ from hA) fun e a1 w1 hq => ?_
 have hnorm : e = .normal := by
  cases e with
  | normal => rfl
  | outgrown => exact hq.elim
  | panic c => obtain ⟨_, _, _, hq, _⟩ := hq; cases hq
  | _ => obtain ⟨_, _, _, hq, _⟩ := hq; exact hq
 subst hnorm
 obtain ⟨μ1, s1, hr1, _, hB⟩ := hq
 have hw1 : w1.heap[l]? = some (.loop { state := .ready, pending := none, fn := D.2, tmps := tm0, params := lp.ps, assign := lp.assign, body := lp.body, defers := D.1 }) := (hr1.st.cW l hll hlA).trans q1
 refine ⟨_, run_beginRound hw1 rfl, ?_⟩
 generalize hbusy : (({ state := .busy, pending := none, fn := D.2, tmps := tm0, params := lp.ps, assign := lp.assign, body := lp.body, defers := D.1 } : Loop)) = busy
 have hs1 : fB (fun b => b = l) w1 (w1.putObj l (.loop busy)) := fB.put _ rfl hw1 rfl
 have hl1 := lt_of_heap hw1
 have hr2 : Rel lp.N { ({ dw (jn cx s.st μ H false) cP (jO H μ) w with ro := some l } : Cx) with w0 := w.putObj l (.loop busy) } μ1 s1 a1 (w1.putObj l (.loop busy)) := by
  have hst2 := hr1.st.shut (w0 := w.putObj l (.loop busy)) hs1 (fun x k1 b m1 h1 h2 _ y hy hz => (hr1.st.bY x k1 b m1 y h1 h2 hy).1 (by rw [hz]; exact hlX)) ⟨rfl, rfl, rfl⟩ fun b hb hnA => by
   by_cases e : b = l
   · subst e; rw [World.putObj_heap_same hl1, World.putObj_heap_same hll]
   · rw [World.putObj_heap_other e, World.putObj_heap_other e]; exact hr1.st.cW b hb hnA
  refine { st := hst2, nd := ?_, sz := hr1.sz, fr := fun t g hg => let ⟨v, hv, hrv⟩ := hr1.fr t g hg; ⟨v, hv, hrv.shut hs1⟩ }
  refine fZ.shut hr1.nd hs1 fun d hd D' e hz => ?_
  subst hz
  have key : ∀ {ds : List Deferred} {gs : List G} {O : Nat → Prop} {base : Nat}, fZ O base w1 μ1 ds gs → d ∈ ds → ∃ x, w1.heap[D']? = some (.deferred x) := by
   intro ds gs O base hdf
   induction hdf with
   | nil => intro h; cases h
   | mark _ _ _ h4 _ _ ih =>
    intro hd
    rcases bf.1 hd with rfl | hd
    · cases e; exact ⟨_, h4⟩
    · exact ih hd
   | aP _ _ ih =>
    intro hd
    rcases bf.1 hd with rfl | hd
    · cases e
    · exact ih hd
  obtain ⟨x, hx⟩ := key hr1.nd hd
  rw [hw1] at hx; cases hx
 refine wpIn_mono (show lp.body.wpIn ((FF cx.ro).inRound l) 0 P _ _ _ from hB _ μ1 a1 _ hr2) fun e a3 w3 hq => ?_
 have fin : ∀ (μ3 : Mu) (s3 : St) (j : Option Code), bP { ({ dw (jn cx s.st μ H false) cP (jO H μ) w with ro := some l } : Cx) with w0 := w.putObj l (.loop busy) } μ3 s3.st w3 → (∃ st', j9 s3.st st' ∧ Q j st') →
   ∃ v w', (Instr.endRound l j).run P w3 = .ok v w' ∧ T (.returned v) w' := by
  rintro μ3 s3 j hr3 ⟨st', hsub, hQ⟩
  have hw3 : w3.heap[l]? = some (.loop busy) := (hr3.cW l hll hlA).trans (World.putObj_heap_same hll)
  have hl3 := lt_of_heap hw3
  refine ⟨_, _, run_endRound j hw3, ?_⟩
  have hr3 := hr3.sub hsub
  have hs3 : fB (fun b => b = l) w3 (w3.putObj l (.loop { state := .ready, pending := none, fn := D.2, tmps := tm0, params := lp.ps, assign := lp.assign, body := lp.body, defers := D.1 })) := fB.put _ rfl hw3 rfl
  have hr4 := (hr3.shut (w0 := w) hs3 (fun x k1 b m1 h1 h2 _ y hy hz => (hr3.bY x k1 b m1 y h1 h2 hy).1 (by rw [hz]; exact hlX)) ⟨rfl, rfl, rfl⟩ fun b hb hnA => by
   by_cases e : b = l
   · subst e; rw [World.putObj_heap_same hl3]; exact q1.symm
   · rw [World.putObj_heap_other e, hr3.cW b hb hnA]; exact World.putObj_heap_other e).ro none
  have := hT j st' μ3 _ hQ hr4 D tm0 (World.putObj_heap_same hl3)
  rw [Hw] at this
  rw [← hbusy]
  exact this
 cases e with
 | normal => obtain ⟨μ3, s3, hr3, _, hq⟩ := hq; exact fin μ3 s3 none hr3.st hq
 | ret => obtain ⟨μ3, s3, hr3, _, hq⟩ := hq; exact fin μ3 s3 (some .ret) hr3.st hq
 | exit id => obtain ⟨μ3, s3, hr3, _, hq⟩ := hq; exact fin μ3 s3 (some (.exit id)) hr3.st hq
 | goto t => obtain ⟨_, _, _, _, _, _, hq⟩ := hq; exact hq.elim
 | panic c => obtain ⟨_, _, _, _, _, _, hq⟩ := hq; exact hq.elim
 | outgrown => exact hq.elim
theorem GL.cA {x:Operand}{xs:Array Operand}{ts:Array TypeId}{gs gs' cells':List G}{cP:List (Nat×ao)}{Q:Option Code→List (Nat×ao)→Prop}{h:Nat}{k:ao}{lp:Lp}(H bk:List Nat) (hx:ev s x=some (.cA h)) (hxs:tc s xs.toList=some gs) (hk:az s.st h=some k) (hlp:k.lp=some (.loop lp))
  (hpend:lp.jj=none) (hh:dq H h=none) (hv:bN.go H [] gs=some gs') (hc:bN.go H [] k.cells=some cells') (hl:ei H [] s.st H 0=some cP) (cV:mZ H=true) (hps:gs'.length=lp.ps.size) (hpn:mZ lp.ps.toList=true) (hpl:lp.ps.toList.all (Nat.blt · lp.N)=true)
  (hcon:GY P lp cells' gs' cP Q) (hw:cT ops s guard=some true) (hN:Nat.blt d N=true)
  (hres:∀j st',Q j st'→∃s2,jt false s H st' bk=some s2∧∃k2,az s2.st h=some k2∧k2.lp=some (.loop lp)∧∃b,j.isNone=b∧GL P N cx ops R rest (({s2 with st:=cC s2.st h {k2 with lp:=some (.loop {lp with jj:=j})}}:St).put d (.val (.bool b)))):
  GL P N cx ops R (⟨some d,.call ⟨.value x,xs,ts⟩,ty,pos,after,guard⟩::rest) s:=by
 intro μ a w hr
 unfold wpListIn
 rw[if_pos (dD hr hw)]
 refine⟨fun _ _=>trivial,?_⟩
 rw[Oper.semAt_eq _ _ _ (fun _ h=>by cases h)]
 obtain⟨l,m,hm,hlpr⟩:=hr.HU hk hlp
 obtain⟨e1,e2⟩:=lL hxs
 have hls:ei H (dl s.st H false) s.st H 0=some cP:=hl
 have hxv:a.eval x=.func (.yield l) #[] #[]:=by
  have hv:=hr.ev hx
  generalize a.eval x=v at hv
  cases hv with
  | aC h=>cases h
  | cA _ b m' hm'=>rw[hm] at hm';cases hm';rfl
 obtain⟨tm0,D,q1,hround⟩:=K8 (P:=P) (vs:=xs.toList.map a.eval) hr hk hlp hpend hm H hh hv hc hl cV hps hpn hpl (by simp[e1]) (fun j g v hg hv=>by
  obtain⟨x,hxj,he⟩:=e2 j g hg
  rw[ar,hxj] at hv
  cases hv
  exact hr.ev he) hcon (T:=fun
   | .returned v,w''=>wpListIn (FF cx.ro) 0 P ops (lift N cx R) rest (a.put (some d) v) w''
   | .panicked chain,w''=>lift N cx R (.panic chain) a w''
   | .outgrown,_=>LetsOut (lift N cx R)) (by
  intro j st' μ'' w3 hQ hC D tm hw3
  obtain⟨s2,hb,k2,hk2,hk2l,b0,hb0,hgl⟩:=hres j st' hQ
  subst hb0
  obtain⟨r1,_,_,_⟩:=my hr hls (ik cV) hC hb
  have hm2:kn μ μ'' st' bk h=some (l,m):=by
   unfold kn
   have hbk:qF st' bk h=none:=by
    unfold jt at hb
    cases hok:oS s H st' bk&&s.df.all (fun g=>!(pq (dP st' H 0) g)) with
    | false=>rw[hok] at hb;cases hb
    | true=>
     simp only[ag] at hok
     cases hI:qF st' bk h with
     | none=>rfl
     | some j'=>
      rcases(nu hok.1 hI).2.2.2 with ⟨_,e⟩ | ⟨_,_,e | e⟩
      ·exact absurd (ni e) (oL hh)
      ·exact absurd e (oL hh)
      ·rw[(eN e).1] at hk;cases hk
   rw[hbk]
   exact hm
  have r2:=r1.R0 hk2 hk2l hm2 j (D:=D) (vs:=tm) (by rw[hpend];exact hw3)
  exact hgl _ _ _ (r2.put (by simpa[fh] using hN) (.aC (.val _))))
 have hrun:(execOp a.eval ⟨some d,.call ⟨.value x,xs,ts⟩,ty,pos,after,guard⟩).run P w=.ok (.round l D.2 ((lp.ps.zip (xs.toList.map a.eval).toArray).foldl (fun tmps (t,a)=>tmps.setIfInBounds t a) tm0) lp.assign lp.body) w:=by
  have e:xs.map a.eval=(xs.toList.map a.eval).toArray:=by rw[←fD]
  have hy:=run_yield (P:=P) (args:=(xs.toList.map a.eval).toArray) q1 (by
   have:=(mr hv).1
   simp only[lP,aN]
   omega)
  simp[execOp,resolve,invoke,Deferred.ofValue,hxv,e,hy]
 rw[hrun]
 exact⟨(fun h=>by cases h),hround⟩
end
end Go.AM
/-
 AM,part BE:the loop over a function.
-/
namespace Go.AM
section
variable {P:Program}{N:Nat}{cx:Cx}{s:St}
theorem Rel.Ux {μ : Mu} {a : Act} {w : World} (hr : Rel N cx μ s a w) {hd : Nat} (k : ao) (o : Obj) (m : Nat) (hfr : fresh s hd = true)
    (hblk : ∀ O' μ', (∀ b, b < w.heap.size → ¬ cx.O s.st μ b → ¬ O' b) → (∀ y, y ≠ hd → μ' y = μ y) → aS O' cx.base (w.alloc o) μ' k (some (w.heap.size, m, []))) :
    Rel N cx (nC μ hd (some (w.heap.size, m, []))) { fr := s.fr, st := (hd, k) :: s.st, df := s.df } a (w.alloc o) := by
  obtain ⟨f1, f2, f3, f4, f5⟩ := eN hfr
  have h := hr.st
  have hO : ∀ b, b < w.heap.size → ¬ cx.O s.st μ b → ¬ cx.O ((hd, k) :: s.st) (nC μ hd (some (w.heap.size, m, []))) b := by
    intro b hb hn ho
    rcases ho with ho | ⟨x, k', c, m', h1, h2, hi⟩
    · exact hn (.inl ho)
    · by_cases e : x = hd
      · subst e; rw [cp] at h2; cases h2; rw [In.plain.1 hi] at hb; omega
      · rw [aI k _ e] at h1; rw [bq e] at h2; exact hn (.inr ⟨x, k', c, m', h1, h2, hi⟩)
  have hlt : ∀ x k' b m' y, az s.st x = some k' → μ x = some (b, m') → In y b m' → y < w.heap.size := fun x k' b m' y h1 h2 h3 => pC h ⟨x, k', b, m', h1, h2, h3⟩
  have hkept := rc (cx.O s.st μ) w o
  refine { st := { dB := ?_, cR := ?_, bY := ?_, ew := ?_, ed := h.ed, hb := ?_, os := h.os, tape := h.tape, output := h.output, gl := h.gl, cW := ?_ }, nd := ?_, sz := hr.sz, fr := ?_ }
  · intro x k' h1
    by_cases e : x = hd
    · subst e
      rw [dz] at h1; cases h1
      rw [cp]
      exact hblk _ _ hO fun y hy => bq hy
    · rw [aI k _ e] at h1
      rw [bq e]
      refine ((h.dB x k' h1).mono (fun b m hm y hy => eT w _ y (hlt x k' b m y h1 hm hy)) hkept hO).gU fun hp g hg y hy => bq ?_
      intro e
      subst e
      rw [uy f3 h1 hp hg] at hy
      cases hy
  · intro x x' k1 k2 y b m1 b2 m2 h1 h2 h3 h4 hi hi'
    by_cases e : x = hd
    · by_cases e' : x' = hd
      · rw [e, e']
      · subst e
        rw [cp] at h3; rw [bq e'] at h4; rw [aI k _ e'] at h2
        cases h3
        have := hlt x' k2 _ m2 y h2 h4 hi'
        rw [In.plain.1 hi] at this
        omega
    · by_cases e' : x' = hd
      · subst e'
        rw [cp] at h4; rw [bq e] at h3; rw [aI k _ e] at h1
        cases h4
        have := hlt x k1 _ m1 y h1 h3 hi
        rw [In.plain.1 hi'] at this
        omega
      · rw [aI k _ e] at h1; rw [aI k _ e'] at h2; rw [bq e] at h3; rw [bq e'] at h4
        exact h.cR x x' k1 k2 y b m1 b2 m2 h1 h2 h3 h4 hi hi'
  · intro x k' b m1 y h1 h2 hi
    by_cases e : x = hd
    · subst e
      rw [cp] at h2
      cases h2
      rw [In.plain.1 hi]
      refine ⟨fun hx => ?_, .inl h.hb, by simp, fun _ => h.hb⟩
      have := h.ed _ hx
      have := h.hb
      omega
    · rw [aI k _ e] at h1; rw [bq e] at h2
      obtain ⟨a1, a2, a3, a4⟩ := h.bY x k' b m1 y h1 h2 hi
      exact ⟨a1, a2, by simp only [World.size_alloc]; omega, a4⟩
  · intro x k1 h1 h2
    by_cases e : x = hd
    · subst e; rw [kY f5] at h2; cases h2
    · rw [aI k _ e] at h1; rw [bq e]; exact h.ew x k1 h1 h2
  · simp only [World.size_alloc]; have := h.hb; omega
  · intro b hb hA
    rw [eT w _ b (by have := h.hb; omega)]
    exact h.cW b hb hA
  · exact (hr.nd.mono hkept hO).gU (fun g hg y hy => bq fun e => by subst e; rw [qa f4 hg] at hy; cases hy)
  · intro t g hg
    obtain ⟨v, hv, hrv⟩ := hr.fr t g hg
    refine ⟨v, hv, (hrv.mono hkept hO (aq _)).gU fun y hy => bq ?_⟩
    intro e
    subst e
    rw [np f2 hg] at hy
    cases hy
theorem Rel.marked {μ : Mu} {a : Act} {w : World} (hr : Rel N cx μ s a w) : Rel N cx μ s { a with defers := { target := .collected w.heap.size, args := #[] } :: a.defers } (w.alloc (.deferred (some []))) := by
  have hr1 := hr.kept (w' := w.alloc (.deferred (some []))) (by simp) (fun b hb => eT w _ b hb) rfl rfl rfl
  refine { st := hr1.st, nd := .mark (D := w.heap.size) ?_ hr.st.hb (by simp) (World.alloc_heap_new _ _) ?_ hr1.nd, sz := hr1.sz, fr := hr1.fr }
  · rintro (ho | ho)
    · have := hr.st.ed _ ho; have := hr.st.hb; omega
    · have := pC hr.st ho; omega
  · intro d hd e
    have key : ∀ {ds : List Deferred} {gs : List G} {O : Nat → Prop} {base : Nat}, fZ O base w μ ds gs → d ∈ ds → ∀ D, d.target = .collected D → D < w.heap.size := by
      intro ds gs O base hdf
      induction hdf with
      | nil => intro h; cases h
      | mark _ _ h3 _ _ _ ih =>
        intro hd D e
        rcases bf.1 hd with rfl | hd
        · cases e; exact h3
        · exact ih hd D e
      | aP _ _ ih =>
        intro hd D e
        rcases bf.1 hd with rfl | hd
        · cases e
        · exact ih hd D e
    exact absurd (key hr.nd hd _ e) (nQ _)
def Q1 (s s':St):Prop:=(∀t g,get s'.fr t=some g→get s.fr t=some g)∧(∀t k,az s'.st t=some k→az s.st t=some k)∧s.df=s'.df
theorem Rel.Vv {N:Nat}{cx:Cx}{μ:Mu}{s s':St}{a:Act}{w:World}(h:Rel N cx μ s a w) (hs:Q1 s s'):Rel N cx μ s' a w:=by
 obtain⟨hf,ho,hd⟩:=hs
 have hO:∀b,b<w.heap.size→¬cx.O s.st μ b→¬cx.O s'.st μ b:=fun b _ hn ho'=>hn (ho'.imp id fun ⟨x,k,c,m,h1,h2,hi⟩=>⟨x,k,c,m,ho _ _ h1,h2,hi⟩)
 have hr:=h.st
 refine {st:={dB:=fun x k hk=>(hr.dB x k (ho _ _ hk)).mono (fun _ _ _ _ _=>rfl) (Kept.refl _ _) hO,cR:=fun x x' k k' y b m b' m' h1 h2=>hr.cR x x' k k' y b m b' m' (ho _ _ h1) (ho _ _ h2),bY:=fun x k b m y h1 h2=>hr.bY x k b m y (ho _ _ h1) h2,ew:=fun x k h1 h2=>hr.ew x k (ho _ _ h1) h2,ed:=hr.ed,hb:=hr.hb,os:=hr.os,tape:=hr.tape,output:=hr.output,gl:=hr.gl,cW:=hr.cW},nd:=hd▸h.nd.mono (Kept.refl _ _) hO,sz:=h.sz,fr:=?_}
 intro t g hg
 obtain⟨v,hv,hrv⟩:=h.fr t g (hf _ _ hg)
 exact⟨v,hv,hrv.mono (Kept.refl _ _) hO (aq _)⟩
theorem Rel.Ps {μ:Mu}{a:Act}{w:World}(hr:Rel N cx μ s a w){h l:Nat}{m:Mm}{k:ao}{s3:St}{o o':Obj}(hk:az s.st h=some k) (hm:μ h=some (l,m)) (ho:w.heap[l]?=some o) (hc:LG o=false) (hd:∀x,o≠.deferred x) (hb:cx.base≤l) (hs:Q1 s s3) (hn:az s3.st h=none):
  Rel N cx μ s3 a (w.putObj l o'):=by
 have h1:=hr.Vv hs
 have hs':fB (fun b=>b=l) w (w.putObj l o'):=fB.put _ rfl ho hc
 refine {st:=h1.st.shut (w0:=cx.w0) hs' (fun x k1 b m1 q1 q2 _ y hy hz=>?_) ⟨rfl,rfl,rfl⟩ (fun b hb' hA=>?_),nd:=fZ.shut h1.nd hs' fun d hd' D e hz=>?_,sz:=h1.sz,fr:=fun t g hg=>let ⟨v,hv,hrv⟩:=h1.fr t g hg;⟨v,hv,hrv.shut hs'⟩}
 ·subst hz
  have:=hr.st.cR x h k1 k y b m1 y m (hs.2.1 _ _ q1) hk q2 hm hy (.self _ _)
  subst this
  rw[hn] at q1;cases q1
 ·rw[World.putObj_heap_other (by omega)];exact h1.st.cW b hb' hA
 ·subst hz
  have key:∀{ds:List Deferred}{gs:List G}{O:Nat→Prop}{base:Nat},fZ O base w μ ds gs→d∈ds→∃x,w.heap[D]?=some (.deferred x):=by
   intro ds gs O base hdf
   induction hdf with
   | nil=>intro h;cases h
   | mark _ _ _ h4 _ _ ih=>
    intro hd
    rcases bf.1 hd with rfl | hd
    ·cases e;exact⟨_,h4⟩
    ·exact ih hd
   | aP _ _ ih=>
    intro hd
    rcases bf.1 hd with rfl | hd
    ·cases e
    ·exact ih hd
  obtain⟨x,hx⟩:=key h1.nd hd'
  rw[ho] at hx
  exact hd x (eR hx)
def Aw (cells:List G) (lp:Lp):ao:=⟨0,false,false,false,0,cells,some (.loop lp)⟩
def MA (R:Exit→St→Prop) (s:St):Option Code→Prop
 | none=>R .normal s
 | some .ret=>R .ret s
 | some (.exit id)=>R (.exit id) s
 | _=>False
def getAll (fr:List (Nat×G)):List Nat→Option (List G)
 | []=>some []
 | t::r=>match get fr t,getAll fr r with
  | some g,some gs=>some (g::gs)
  | _,_=>none
theorem Dj {fr:List (Nat×G)}:∀{ts:List Nat}{gs:List G},getAll fr ts=some gs→∀{j:Nat}{g:G},gs[j]?=some g→∃t,ts[j]?=some t∧get fr t=some g
 | [],_,h,j,g,e=>by cases h;simp at e
 | t::r,gs,h,j,g,e=>by
  simp only[getAll] at h
  cases h1:get fr t with
  | none=>rw[h1] at h;cases h
  | some g1=>
   rw[h1] at h
   cases h2:getAll fr r with
   | none=>rw[h2] at h;cases h
   | some r1=>
    rw[h2] at h
    cases h
    cases j with
    | zero=>cases e;exact⟨t,rfl,h1⟩
    | succ j=>exact Dj h2 e
theorem aM.IN {O:Nat→Prop}{base:Nat}{w:World}{μ:Mu}{f:FuncId}{caps:List G}{v:Value}(h:aM O base w μ (.aP f caps) v):
  ∃us:List Value,v=pp f us∧us.length=caps.length∧∀(j:Nat) (g:G) (v:Value),caps[j]?=some g→us[j]?=some v→aM O base w μ g v:=by
 cases h with
 | aC h=>cases h
 | aP _ _ us hl hr=>exact⟨us,rfl,hl,hr⟩
theorem GW.rangeFunc {g : Operand} {ps : Array Tmp} {ot body : Code} {f : FuncId} {caps cells gs' : List G} {cP : List (Nat × ao)} {Q : G → List (Nat × ao) → Prop} {f0 : FuncId} {R : Exit → St → Prop} (hb : qd.contains f = false) (hro : cx.ro = none) (lp : Option Code → Lp) (hd : Nat) (al : List Nat) (H : List Nat) (vw : Bool) (bk : List Nat)
    (hlp : ∀ j, lp j = ⟨f0, N, al, ps, ot, body, j⟩) (hg : ev s g = some (.aP f caps)) (hc : ∀ args w, (callFunc f args).run P w = .ok (.enter f args) w) (hcells : getAll s.fr al = some cells) (hfr : fresh s hd = true)
    (hl : ei H (dl ((hd, Aw cells (lp none)) :: s.st) H vw) ((hd, Aw cells (lp none)) :: s.st) H 0 = some cP) (cV : mZ H = true) (hdH : hd ∈ H) (hcon : GM P f gs' cP Q)
    (hv : bN.go H (dl ((hd, Aw cells (lp none)) :: s.st) H vw) (.cA hd :: caps) = some gs')
    (hres : ∀ r st', Q r st' → ∃ s2 s3 j k2, jt vw { fr := s.fr, st := (hd, Aw cells (lp none)) :: s.st, df := s.df } H st' bk = some s2 ∧ (dP st' H 0).contains hd = false ∧ az s2.st hd = some k2 ∧ k2.lp = some (.loop (lp j)) ∧ Q1 s2 s3 ∧ az s3.st hd = none ∧ MA R s3 j) :
    GW P N cx (.rangeFunc g ps ot body) R s := by
  intro μ a w hr
  refine wpIn_rangeFunc ?_
  intro fn _
  have hround : (FF cx.ro).round = none := hro
  rw [hround]
  obtain ⟨us, hav, hlu, _⟩ := (hr.ev hg).IN
  have hcv : ∀ us, pp f us = .func (.func f) #[] us.toArray := fun us => by unfold pp; rw [hb]
  rw [hcv] at hav
  refine ⟨w.heap.size + 1, _, (w.alloc (.deferred (some []))).alloc (.loop { state := .ready, pending := none, fn := fn, tmps := a.tmps, params := ps, assign := ot, body := body, defers := w.heap.size }), { target := .fn (.func f) us.toArray, args := #[.func (.yield (w.heap.size + 1)) #[] #[]] }, (w.alloc (.deferred (some []))).alloc (.loop { state := .ready, pending := none, fn := fn, tmps := a.tmps, params := ps, assign := ot, body := body, defers := w.heap.size }), f, #[.func (.yield (w.heap.size + 1)) #[] #[]] ++ us.toArray, (w.alloc (.deferred (some []))).alloc (.loop { state := .ready, pending := none, fn := fn, tmps := a.tmps, params := ps, assign := ot, body := body, defers := w.heap.size }), run_enterLoop_outer _ _ _ _ _, ?_, fun _ _ => trivial, ?_, fun h => (by cases h), ?_⟩
  · simp only [resolve, hav]
    simp [go_sem]
  · simp [invoke, go_sem, hc]
  ·
    generalize hW : (w.alloc (.deferred (some []))).alloc (.loop { state := .ready, pending := none, fn := fn, tmps := a.tmps, params := ps, assign := ot, body := body, defers := w.heap.size }) = W1
    have hr1 := hr.marked
    have hsz1 : (w.alloc (.deferred (some []))).heap.size = w.heap.size + 1 := by simp
    have hr2 := hr1.Ux (hd := hd) (Aw cells (lp none)) (.loop { state := .ready, pending := none, fn := fn, tmps := a.tmps, params := ps, assign := ot, body := body, defers := w.heap.size }) 0 hfr (fun O' μ' hO hμ => by
      unfold aS
      simp only [Aw]
      refine ⟨(w.heap.size, fn), a.tmps, ?_, ?_, rfl, rfl, fun j t g ht hg => ?_⟩
      · rw [hlp]; exact World.alloc_heap_new _ _
      · rw [hlp]; exact hr.sz
      · rw [hlp] at ht
        obtain ⟨t', e1, e2⟩ := Dj hcells hg
        rw [ht] at e1
        cases e1
        obtain ⟨v, hv, hrv⟩ := hr1.fr t g e2
        refine ⟨v, hv, (hrv.mono (rc _ _ _) hO (aq _)).gU fun y hy => hμ y fun e => ?_⟩
        subst e
        rw [np (eN hfr).2.1 e2] at hy; cases hy)
    rw [hW, hsz1] at hr2
    have hgv2 := hr2.ev (x := g) (g := .aP f caps) (by cases g <;> exact hg)
    rw [show ({ a with defers := { target := .collected w.heap.size, args := #[] } :: a.defers } : Act).eval g = .func (.func f) #[] us.toArray from hav] at hgv2
    obtain ⟨us', e1, _, hrc⟩ := hgv2.IN
    rw [hcv] at e1
    have e2 : us' = us := by
      injection e1 with _ _ e3
      have := congrArg Array.toList e3
      simpa using this.symm
    subst e2
    have hcall := qq (P := P) (f := f) (vs := .func (.yield (w.heap.size + 1)) #[] #[] :: us') hr2 hv hl cV (by simp [hlu]) (fun j g v hg hv => by
      cases j with
      | zero => cases hg; cases hv; exact .cA hd _ (0, []) (cp _ _ _)
      | succ j => exact hrc j g v hg hv) hcon
    have hargs : (Value.func (.yield (w.heap.size + 1)) #[] #[] :: us').toArray = #[.func (.yield (w.heap.size + 1)) #[] #[]] ++ us'.toArray := by simp
    rw [hargs] at hcall
    refine j0.2 (hcall.mono ?_)
    rintro e w2 (⟨v, r, st', μ'', rfl, hq, hC, _⟩ | ⟨_, _, _, _, h, _⟩)
    rotate_left
    · exact h.elim
    obtain ⟨s2, s3, j, k2, hb, hdd, hk2, hk2l, hsub, hn3, hR⟩ := hres r st' hq
    obtain ⟨r2, _, _, r4⟩ := my hr2 hl (ik cV) hC hb
    have hm2 := r4 hd hdH (by simpa using hdd)
    rw [cp] at hm2
    obtain ⟨l, m, hm3, D, vs, q1, q2, _, _, _⟩ := r2.HU hk2 hk2l
    obtain ⟨mE, hmE, _⟩ := hm2.get rfl
    rw [hmE] at hm3
    cases hm3
    have hend := run_endLoop (P := P) q1 (by cases (lp j).jj <;> simp)
    refine ⟨_, _, hend, ?_⟩
    have r5 := r2.Ps (o' := .loop { state := .exhausted, pending := (lp j).jj, fn := D.2, tmps := vs, params := (lp j).ps, assign := (lp j).assign, body := (lp j).body, defers := D.1 }) hk2 hmE q1 rfl (fun x h => by cases h) (by have := hr.st.hb; omega) hsub hn3
    have hpend : (lp j).jj = j := by rw [hlp]
    simp only [hpend] at r5 ⊢
    cases j with
    | none => exact ⟨_, s3, r5, hR⟩
    | some c =>
      cases c with
      | ret => exact wpIn_ret ⟨_, s3, r5, hR⟩
      | exit id => exact wpIn_exit ⟨_, s3, r5, hR⟩
      | _ => exact hR.elim
end
end Go.AM
/-
 AM,part BF:how a round was left,as data;lists of a callee's own;structs in slices of the call's own.
-/
namespace Go.AM
inductive Jp where
 | go
 | ex
 | rt
 deriving DecidableEq
def Jp.VI:Jp→Bool
 | .rt=>true
 | _=>false
def VH (id:Nat):Jp→Option Code
 | .go=>none
 | .ex=>some (.exit id)
 | .rt=>some .ret
theorem MA.rt {R:Exit→St→Prop}{s:St}{id:Nat}{j:Jp}(hj:j.VI=true) (h:R .ret s):MA R s (VH id j):=by
 cases j with
 | rt=>exact h
 | _=>cases hj
section
variable {P:Program}{N:Nat}{cx:Cx}{Q:Exit→St→Prop}{s:St}{ops:Array Oper}{rest:List Oper}
theorem MV {s:St}{hh:Nat}{k:ao}{lp:Lp}(hk:az s.st hh=some k) (hl:k.lp=some (.loop lp)) (hp:lp.jj=none) (μ:Mu) (a:Act) (w:World) (hr:Rel N cx μ s a w):
  Rel N cx μ {s with st:=cC s.st hh {k with lp:=some (.loop {lp with jj:=none})}} a w:=by
 have e:({k with lp:=some (.loop {lp with jj:=none})}:ao)=k:=by
  obtain⟨_,_,_,_,_,_,l⟩:=k
  simp only at hl
  subst hl
  obtain⟨_,_,_,_,_,_,_⟩:=lp
  simp only at hp
  subst hp
  rfl
 have e2:∀(st:List (Nat×ao)),az st hh=some k→cC st hh k=st:=by
  intro st
  induction st with
  | nil=>intro h;cases h
  | cons x r ih=>
   obtain⟨y,k'⟩:=x
   intro h
   simp only[az] at h
   simp only[cC]
   cases hb:Nat.beq y hh with
   | true=>rw[hb] at h;cases h;rfl
   | false=>rw[hb] at h;rw[cond_false,ih h]
 rw[e,e2 s.st hk]
 exact hr
theorem GL.jj (hh:Nat){k:ao}{lp:Lp}(hk:az s.st hh=some k) (hl:k.lp=some (.loop lp)) (hp:lp.jj=none) (h:GL P N cx ops Q rest {s with st:=cC s.st hh {k with lp:=some (.loop {lp with jj:=none})}}):GL P N cx ops Q rest s:=
 fun μ a w hr=>h μ a w (MV hk hl hp μ a w hr)
theorem GW.jj {c:Code}(hh:Nat){k:ao}{lp:Lp}(hk:az s.st hh=some k) (hl:k.lp=some (.loop lp)) (hp:lp.jj=none) (h:GW P N cx c Q {s with st:=cC s.st hh {k with lp:=some (.loop {lp with jj:=none})}}):GW P N cx c Q s:=
 fun μ a w hr=>h μ a w (MV hk hl hp μ a w hr)
theorem dI.freeze {W:List Nat}{aY:Nat}{listed:Array Bool}(s':St) (hst:z7 s.st s'.st s'.st) (hfr:z8 s.st s'.st s.fr s'.fr) (h:dI P N cx ops Q W aY listed s') (hdf:s.df=s'.df:=by rfl):dI P N cx ops Q W aY listed s:=fun ws Wb μ a w hr hS hW=>
 h ws Wb μ a w (hr.freeze hst hfr hdf) hS fun x k c m b h1 h2 h3 hi=>by
  obtain⟨k0,h4,_⟩:=hst.get h2
  exact hW x k0 c m b h1 h4 h3 hi
end
section
variable {α:Type}[aR α]
variable {P:Program}{N:Nat}{cx:Cx}{Q:Exit→St→Prop}{s:St}{ops:Array Oper}{rest:List Oper}
theorem GW.si [Flat α]{c:Code}(hh:Nat){k:ao}{l:List α}(hk:az s.st hh=some k) (hc:k.cells=db l) (hp:k.pure=true) (h:GW P N cx c Q {fr:=s.fr,st:=cC s.st hh {k with fresh:=true},df:=s.df}) (hlp:k.lp=none:=by rfl):GW P N cx c Q s:=
 fun μ a w hr=>h μ a w (hr.si hk hc hp hlp)
variable {W:List Nat}{dst:Option Tmp}{ty:TypeId}{pos:String}{after:Array Edge}{guard:Option (Nat×Bool)}
theorem Ol {l:List α}{i:Nat}(x:α) (h:i<l.length):(db l).take (0+i*aR.sz α)++aR.cells x++(db l).drop (0+i*aR.sz α+aR.sz α)=db (l.set i x):=by
 have e:0+i*aR.sz α+aR.sz α=(i+1)*aR.sz α:=by rw[cr,eI,Nat.one_mul]
 rw[e,zK,cr,zJ,dE,if_pos h,A5,Om,aA]
theorem FE {l:List α}{i j:Nat}{x x':α}{g:G}(h:l[i]?=some x) (hj:j<aR.sz α) (hx:aR.cells x'=(aR.cells x).set j g):(db l).set (0+i*aR.sz α+j) g=db (l.set i x'):=by
 rw[cr]
 apply lQ
 intro n
 have hil:=(aw.1 h).1
 rw[eX]
 have hset:db (l.set i x')=(db l).take (0+i*aR.sz α)++aR.cells x'++(db l).drop (0+i*aR.sz α+aR.sz α):=(Ol x' hil).symm
 rw[hset,hx,aA,ba,bo,gv,cr]
 have hm:i*aR.sz α+aR.sz α≤l.length*aR.sz α:=by rw[←Nat.succ_mul];exact ca _ hil
 rw[dL (by omega)]
 by_cases e:i*aR.sz α+j=n
 ·rw[if_pos e,if_pos (by omega),if_neg (by omega),ba,lH,aR.len,if_pos (by omega),eX,if_pos (by omega),if_pos (by rw[aR.len];omega)]
 ·rw[if_neg e]
  split
  ·rename_i h1;rw[aV,if_pos h1]
  ·rename_i h1
   rw[ba,lH,aR.len]
   split
   ·rename_i h2
    rw[eX,if_neg (by omega),←sC h (by omega)]
    congr 1;omega
   ·rename_i h2
    rw[a8]
    congr 1;omega
end
end Go.AM
/-
 AM,part BG:make of elements of any make.
-/
namespace Go.AM
section
variable {α:Type}[aR α]
variable {P:Program}{N:Nat}{cx:Cx}{s:St}{W:List Nat}{d:Nat}
variable {ty:TypeId}{pos:String}{after:Array Edge}{guard:Option (Nat×Bool)}
variable {dst:Option Tmp}
end
end Go.AM
/-
 AM,part BH:a slice of the call's own in the place of one that was lent.
-/
namespace Go.AM
section
variable {P:Program}{N:Nat}{cx:Cx}{Q:Exit→St→Prop}{s:St}{ops:Array Oper}{rest:List Oper}
def CG:G→G
 | .val v=>mB v
 | g=>nF g
theorem Rel.plain {μ:Mu}{a:Act}{w:World}(h:Rel N cx μ s a w){hh:Nat}{k:ao}(hk:az s.st hh=some k) (hp:k.pure=false) (hlp:k.lp=none):
  Rel N cx μ {fr:=s.fr,st:=cC s.st hh {k with cells:=k.cells.map CG},df:=s.df} a w:=by
 refine h.wJ hk rfl rfl rfl (Nat.le_of_eq (by simp)) hlp hlp fun j g' hg'=>?_
 simp only[ar,ay] at hg'
 obtain⟨g,h1,rfl⟩:=hg'
 refine⟨g,h1,fun v hv=>?_⟩
 unfold bZ at hv⊢
 simp only[hp] at hv⊢
 cases g with
 | val u=>
  cases hv with
  | aC hi=>
   cases hi with
   | val _=>exact .aC (sT _)
 | _=>exact hv.Ct
theorem GL.plain (hh:Nat){k:ao}(hk:az s.st hh=some k) (hp:k.pure=false) (h:GL P N cx ops Q rest {fr:=s.fr,st:=cC s.st hh {k with cells:=k.cells.map CG},df:=s.df}) (hlp:k.lp=none:=by rfl):GL P N cx ops Q rest s:=
 fun μ a w hr=>h μ a w (hr.plain hk hp hlp)
theorem dI.plain {W:List Nat}{aY:Nat}{listed:Array Bool}(hh:Nat){k:ao}(hk:az s.st hh=some k) (hp:k.pure=false)
  (h:dI P N cx ops Q W aY listed {fr:=s.fr,st:=cC s.st hh {k with cells:=k.cells.map CG},df:=s.df}) (hlp:k.lp=none:=by rfl):dI P N cx ops Q W aY listed s:=fun ws Wb μ a w hr hS hW=>
 h ws Wb μ a w (hr.plain hk hp hlp) hS fun x k' c m b h1 h2 h3 h4=>by
  rcases cF hk h2 with ⟨rfl,rfl⟩ | ⟨_,h2⟩
  ·exact hW x k c m b h1 hk h3 h4
  ·exact hW x k' c m b h1 h2 h3 h4
theorem j9.trans {a b:List (Nat×ao)}(h:j9 a b):∀{c:List (Nat×ao)},j9 b c→j9 a c
 | [],_=>trivial
 | (t,g)::r,hc=>⟨h.get hc.1,h.trans hc.2⟩
variable {dst:Option Tmp}{ty:TypeId}{pos:String}{after:Array Edge}{guard:Option (Nat×Bool)}
end
end Go.AM
/-
 AM,part BI:make with a capacity;an append of a make to the nil slice.
-/
namespace Go.AM
section
variable {P:Program}
theorem GW.plain {N:Nat}{cx:Cx}{s:St}{c:Code}{Q:Exit→St→Prop}(hh:Nat){k:ao}(hk:az s.st hh=some k) (hp:k.pure=false) (h:GW P N cx c Q {fr:=s.fr,st:=cC s.st hh {k with cells:=k.cells.map CG},df:=s.df}) (hlp:k.lp=none:=by rfl):GW P N cx c Q s:=
 fun μ a w hr=>h μ a w (hr.plain hk hp hlp)
end
section
variable {α:Type}[aR α]
variable {P:Program}{N:Nat}{cx:Cx}{s:St}{W:List Nat}{d:Nat}
variable {ty:TypeId}{pos:String}{after:Array Edge}{guard:Option (Nat×Bool)}
theorem Lt {O:Nat→Prop}{base:Nat}{w:World}{μ:Mu}{x:α}{z:Value}{e:TypeId}{m:Nat}{cs:Array Value}(hzs:z.cells.size=aR.sz α) (he:z.cells.toList.map mB=aR.cells x)
  (hcs:∀j,j<m*aR.sz α→cs[j]?=(madeCells z.cells (m*aR.sz α))[j]?) (j:Nat) (g':G) (hg':(db (List.replicate m x))[j]?=some g'):
  ∃v,cs[j]?=some v∧bZ O base w μ ⟨e,true,true,true,aR.sz α,db (List.replicate m x),none⟩ g' v:=by
 have hpos:0<aR.sz α:=aR.pos
 unfold db at hg'
 rw[sO aR.cells (aR.sz α) hpos (List.replicate m x) (fun a _=>aR.len a) j,List.getElem?_replicate] at hg'
 split at hg'
 ·rename_i hj
  simp only[aa] at hg'
  rw[←he,ar] at hg'
  have hlt:j%aR.sz α<z.cells.toList.length:=by rw[Array.length_toList,hzs];exact Nat.mod_lt _ hpos
  rw[av hlt] at hg'
  cases hg'
  have hjn:j<m*aR.sz α:=(Nat.div_lt_iff_lt_mul hpos).1 hj
  refine⟨z.cells.toList[j%aR.sz α],?_,?_⟩
  ·rw[hcs j hjn]
   have hmod:j%z.cells.size=j%aR.sz α:=by rw[hzs]
   rw[Array.length_toList] at hlt
   simp[madeCells,hjn,hmod,hlt]
  ·unfold bZ
   exact sT _
 ·cases hg'
theorem ET.CX {x:α}{t e:TypeId}{xo yo:Operand}{z:Value}{bt sz:Nat}{k k':IntKind}{n c:Int}(hd:Nat) (hx:ev s xo=some (.val (.int k n))) (hy:ev s yo=some (.val (.int k' c)))
  (ht:P.underlying t=some (.slice e)) (hi:(P.info? e).map (fun i=>(i.zero,i.size,i.bytes))=some (some z,sz,bt)) (hzs:z.cells.size=sz) (hsz:aR.sz α=sz) (he:z.cells.toList.map mB=aR.cells x)
  (h0:0≤n) (hnc:n≤c) (hb:(bt:Int)*c≤281474976710656) (h63:c≤9223372036854775807) (hfr:fresh s hd=true):
  bJ P W s ⟨some d,.makeSlice t xo yo,ty,pos,after,guard⟩ (·={fr:=(d,.aK hd (aR.sz α) 0 (List.replicate n.toNat x).length)::s.fr,st:=(hd,⟨e,true,true,true,aR.sz α,db (List.replicate n.toNat x),none⟩)::s.st,df:=s.df}):=by
 subst hsz
 refine bJ.of (s1:={fr:=s.fr,st:=(hd,⟨e,true,true,true,aR.sz α,db (List.replicate n.toNat x),none⟩)::s.st,df:=s.df}) (g:=.aK hd (aR.sz α) 0 (List.replicate n.toNat x).length) rfl (fun _ h=>by cases h) ?_
 intro N cx μ a w hr
 obtain⟨i,hi1,hi2⟩:=ay.1 hi
 simp only[Prod.mk.injEq] at hi2
 obtain⟨hz,hs1,hb1⟩:=hi2
 have hms:(madeCells z.cells (c.toNat*i.size)).size=c.toNat*aR.sz α:=by rw[size_madeCells,hs1]
 have hle:n.toNat*aR.sz α≤c.toNat*aR.sz α:=ca _ (by omega)
 obtain⟨μ',w',rfl,h1,h2,h3⟩:=hr.u7 (k:=⟨e,true,true,true,aR.sz α,db (List.replicate n.toNat x),none⟩) (cs:=madeCells z.cells (c.toNat*i.size)) hfr rfl (by rw[hms];simp only[gv,List.length_replicate];exact hle)
  (fun _=>by rw[hms];exact ca _ (by unfold maxLen;omega))
  (fun j g' hg'=>Lt hzs he (fun j hj=>by
   rw[hs1]
   have h5:j<c.toNat*aR.sz α:=bW hj hle
   simp[madeCells,hj,h5]) j g' hg')
  (fun h=>by cases h) W
 have hrun:=run_make (P:=P) w t e i z ht hi1 hz k k' n c h0 hnc (by rw[hb1];exact hb) h63
 rw[hms] at h2
 refine⟨_,μ',_,?_,h1,.aK hd (aR.sz α) 0 _ _ _ c.toNat h2 (by simp;omega) (by simp),h3⟩
 simp[execOp,hr.val hx,hr.val hy,hrun]
end
section
variable {P:Program}{s:St}{W:List Nat}{d:Nat}{ty:TypeId}{pos:String}{after:Array Edge}{guard:Option (Nat×Bool)}
def wr:List Bool→List G→List G
 | true::bs,.val v::r=>.fr (.val v)::wr bs r
 | _::bs,g::r=>g::wr bs r
 | [],r=>r
 | _::_,[]=>[]
end
end Go.AM
/-
 AM,part BJ:copy.
-/
namespace Go.AM
section
variable {P:Program}{N:Nat}{cx:Cx}{s:St}
variable {ty:TypeId}{pos:String}{after:Array Edge}{guard:Option (Nat×Bool)}{W:List Nat}{d:Nat}
theorem EF.copy {t t' e:TypeId}{x y:Operand}{h off n m:Nat}{k:ao}{gy:G}{newsG:List G}{f:Bool}(hx:ev s x=some (.aK h 1 off n)) (hy:ev s y=some gy) (hk:az s.st h=some k) (hp:k.pure=true)
  (hfit:off+n≤k.cells.length) (hsrc:wo s.st 1 gy=some (newsG,m,f)) (hlen:newsG.length=m*1) (hone:∀g,g∈newsG→g.one=true)
  (ht:P.underlying t=some (.slice e)) (hi:(P.info? e).map (·.size)=some 1) (hW:W.contains h=true) (hlp:k.lp=none:=by rfl):
  bJ P W s ⟨some d,.call ⟨.builtin .copy,#[x,y],#[t,t']⟩,ty,pos,after,guard⟩
   (fun s'=>s'={fr:=(d,.val (.int .i64 (Nat.min m n:Nat)))::s.fr,st:=cC s.st h {k with fresh:=k.fresh&&f,cells:=k.cells.take off++newsG.take (Nat.min m n)++k.cells.drop (off+Nat.min m n)},df:=s.df}∨
    (Nat.min m n=0∧s'=s.put d (.val (.int .i64 0)))):=by
 refine⟨(fun _ h=>by cases h),?_⟩
 intro N cx μ a w hr hN K Q hK
 have hlen:newsG.length=m:=by rw[hlen,kc]
 have idle:∀(o1 o2:Option Addr) (c1 c2:Nat),Nat.min m n=0→a.eval x=.slice o1 n c1→a.eval y=.slice o2 m c2→(Oper.wp P ⟨some d,.call ⟨.builtin .copy,#[x,y],#[t,t']⟩,ty,pos,after,guard⟩ a w K Q):=by
  intro o1 o2 c1 c2 h0 e1 e2
  have hrun:=run_copy_none (P:=P) w t t' ty e o1 o2 n c1 m c2 ht hi h0
  unfold Oper.wp
  have:(execOp a.eval ⟨some d,.call ⟨.builtin .copy,#[x,y],#[t,t']⟩,ty,pos,after,guard⟩).run P w=.ok (.value (goInt 0)) w:=by
   simp only[execOp,resolve,invoke,builtin,Sem.run_bind,Sem.run_pure,Result.andThen_ok,oV,aB,eJ,e1,e2,hrun]
  rw[this]
  refine hK μ _ _ w (hr.put (d:=d) (g:=.val (.int .i64 0)) (hN d rfl) (.aC (.val _))) (.inr ⟨h0,rfl⟩) ⟨aq _,fun _ _ _=>rfl,fun x k1 c1 m1 b1 hw h1 h2 hi=>.inl ⟨x,k1,c1,m1,hw,h1,h2,hi⟩⟩
 have hv:=hr.ev hx
 have hy1:(∃o2 c2,a.eval y=.slice o2 m c2∧Nat.min m n=0)∨∃(b off c:Nat) (news:List Value),a.eval y=.slice (some ⟨b,off,none⟩) m c∧news.length=m∧(∀(j:Nat) (u:Value),news[j]?=some u→w.cell? ⟨b,off+j,none⟩=some u)∧(∀u∈news,u.oneCell'=true)∧
   (∀(j:Nat) (g:G),newsG[j]?=some g→∃u,news[j]?=some u∧bB (bif f then hJ (cx.O s.st μ) cx.base else cx.O s.st μ) w g u):=by
  rcases hr.src hy hsrc (by rw[hlen,kc]) hone with ⟨⟨o2,c2,h1⟩,h2⟩ | ⟨b2,off2,c2,news,e1,e2,e3,e4,e5,e6⟩
  ·subst h2;exact .inl ⟨o2,c2,h1,Nat.zero_min _⟩
  ·exact .inr ⟨b2,off2,c2,news,e1,by rw[e2,kc],e3,e4,e5⟩
 generalize hav:a.eval x=v at hv
 have small:n=0→(∃o1 c1,v=.slice o1 0 c1)→(Oper.wp P ⟨some d,.call ⟨.builtin .copy,#[x,y],#[t,t']⟩,ty,pos,after,guard⟩ a w K Q):=by
  rintro h0 ⟨o1,c1,h1⟩
  subst h0
  rcases hy1 with ⟨o2,c2,h2,h3⟩ | ⟨b2,off2,c2,news,e1,e2,e3,e4,e5⟩
  ·exact idle _ _ _ _ h3 (hav.trans h1) h2
  ·exact idle _ _ _ _ (Nat.min_zero _) (hav.trans h1) e1
 cases hv with
 | aC h=>cases h
 | eD _ _ hm=>exact small rfl ⟨_,_,rfl⟩
 | dO _ _ off0 b _ hm hpos=>exact small rfl ⟨_,_,rfl⟩
 | aK _ _ _ _ b m0 cap hm hn hc=>
  rcases hy1 with ⟨o2,c2,h2,h3⟩ | ⟨b2,off2,c2,news,e1,e2,e3,e4,e5⟩
  ·exact idle _ _ _ _ h3 hav h2
  obtain⟨cs,h1,h2,h3,h4,h5,h6⟩:=hr.own hk hm hlp
  have hmn:Nat.min m n≤m:=Nat.min_le_left _ _
  have hmn2:Nat.min m n≤n:=Nat.min_le_right _ _
  have hl:(news.take (Nat.min m n)).length=Nat.min m n:=by rw[bo,e2];exact dL hmn
  have hrun:=run_copy_row (P:=P) w t t' ty e b off n cap ⟨b2,off2,none⟩ m c2 cs k.bw (news.take (Nat.min m n)) ht hi h1 hl
   (fun j u hu=>by
    rw[Addr.lf]
    rw[aV] at hu
    split at hu
    ·exact e3 j u hu
    ·cases hu) (by rw[hl];omega) (fun u hu=>e4 u (ov hu))
  unfold Oper.wp
  have:(execOp a.eval ⟨some d,.call ⟨.builtin .copy,#[x,y],#[t,t']⟩,ty,pos,after,guard⟩).run P w=.ok (.value (goInt (Nat.min m n:Nat))) (w.setRow b (cs.toList.take off++news.take (Nat.min m n)++cs.toList.drop (off+Nat.min m n)).toArray):=by
   rw[hl] at hrun
   simp only[execOp,resolve,invoke,builtin,Sem.run_bind,Sem.run_pure,Result.andThen_ok,oV,aB,eJ,hav,e1,hrun]
  rw[this]
  have hwr:=hr.write (k':={k with fresh:=k.fresh&&f,cells:=k.cells.take off++newsG.take (Nat.min m n)++k.cells.drop (off+Nat.min m n)}) (w':=w.setRow b (cs.toList.take off++news.take (Nat.min m n)++cs.toList.drop (off+Nat.min m n)).toArray) hk hm (jG h1) (by
    simp only[lP,ak,bo,cK,Array.length_toList];omega) (setRow_size _ _ _) (fun b' hb'=>setRow_other w b b' _ hb') rfl rfl rfl id (by
    simp only[ak,bo,cK];omega) h5 (by
    intro j g' hg'
    have jJ:∀(j:Nat),(cs.toList.take off++news.take (Nat.min m n)++cs.toList.drop (off+Nat.min m n)).toArray[j]?=if j<off then cs[j]? else if j<off+Nat.min m n then news[j-off]? else cs[j]?:=by
     intro j
     rw[lx,aA,ba,bo,Array.length_toList,dL (by omega:off≤cs.size)]
     split
     ·rename_i hj;rw[aV,if_pos hj,bn]
     ·rw[ba,hl]
      split
      ·rename_i hj1 hj2;rw[if_pos (by omega),aV,if_pos hj2]
      ·rename_i hj1 hj2;rw[if_neg (by omega),a8,bn];congr 1;omega
    have hlG:(newsG.take (Nat.min m n)).length=Nat.min m n:=by rw[bo,hlen];exact dL hmn
    dsimp only at hg'
    rw[aA,ba,bo,dL (by omega:off≤k.cells.length)] at hg'
    rw[jJ]
    have wO:∀{j:Nat}{g':G},k.cells[j]?=some g'→∃v,cs[j]?=some v∧bZ (cx.O s.st μ) cx.base w μ {k with fresh:=k.fresh&&f,cells:=k.cells.take off++newsG.take (Nat.min m n)++k.cells.drop (off+Nat.min m n)} g' v:=by
     intro j g' hg'
     obtain⟨v,hv,hrv⟩:=h6 j g' hg'
     refine⟨v,hv,?_⟩
     unfold bZ at hrv⊢
     dsimp only at hrv⊢
     rw[hp] at hrv⊢
     exact hrv.flag (fun h=>by simp at h;exact h.1)
    split at hg'
    ·rename_i hj
     rw[if_pos hj]
     rw[aV,if_pos hj] at hg'
     exact wO hg'
    ·rename_i hj
     rw[if_neg hj]
     rw[ba,hlG] at hg'
     split at hg'
     ·rename_i hj2
      rw[if_pos (by omega)]
      rw[aV,if_pos hj2] at hg'
      obtain⟨u,hu,hru⟩:=e5 _ g' hg'
      refine⟨u,hu,?_⟩
      unfold bZ
      dsimp only
      rw[hp]
      exact hru.flag (fun h=>by simp at h;exact h.2)
     ·rename_i hj2
      rw[if_neg (by omega)]
      rw[a8] at hg'
      have:off+Nat.min m n+(j-off-Nat.min m n)=j:=by omega
      rw[this] at hg'
      exact wO hg') W hW hlp
  exact hK μ _ _ _ (hwr.1.put (d:=d) (g:=.val (.int .i64 (Nat.min m n:Nat))) (hN d rfl) (.aC (.val _))) (.inl rfl) hwr.2
end
end Go.AM
/-
 AM:pointers that may be nil;slices of slices,told as a whole.
-/
namespace Go.AM
section
variable {P:Program}{N:Nat}{cx:Cx}{s:St}{W:List Nat}
variable {dst:Option Tmp}{ty:TypeId}{pos:String}{after:Array Edge}{guard:Option (Nat×Bool)}
def uG:G→Option Bool
 | .val (.pointer none)=>some true
 | .kp _ _ _=>some false
 | .loc _ _=>some false
 | _=>none
theorem aM.uG {O:Nat→Prop}{base:Nat}{w:World}{μ:Mu}{g:G}{v:Value}{b:Bool}(h:aM O base w μ g v) (hn:AM.uG g=some b):∃p,v=.pointer p∧p.isNone=b:=by
 cases g with
 | val u=>
  cases h with
  | aC h=>
   cases h
   cases v with
   | pointer p=>cases p with
    | none=>cases hn;exact⟨none,rfl,rfl⟩
    | some _=>cases hn
   | _=>cases hn
 | kp h' i off=>
  cases hn
  cases h with
  | aC h=>cases h
  | kp _ _ _ b m c n hm hk=>exact⟨_,rfl,rfl⟩
 | loc h' off=>
  cases hn
  cases h with
  | aC h=>cases h
  | loc _ _ b m hm=>exact⟨_,rfl,rfl⟩
 | _=>cases hn
theorem Cy {t e:TypeId}(ht:P.underlying t=some (.pointer e)) (p:Option Addr) (w:World):(Op.equal t (.pointer p) (.pointer none)).run P w=.ok p.isNone w:=by
 have key:∀d,(Op.equalIn (d+1) t (.pointer p) (.pointer none)).run P w=.ok p.isNone w:=fun d=>by
  cases p with
  | none=>simp[Op.equalIn,run_underlying ht]
  | some a=>simp[Op.equalIn,run_underlying ht]
 exact key 9999
theorem PY.ptrEq {t t' e:TypeId}{x:Operand}{g:G}{b:Bool}(hx:ev s x=some g) (hn:AM.uG g=some b) (ht:P.underlying t=some (.pointer e)):
  PY P s ⟨dst,.binOp .eql t x (.const (.pointer none)) t',ty,pos,after,guard⟩ (.val (.bool b)):=fun N cx μ a w hr=>by
 obtain⟨p,e1,rfl⟩:=(hr.ev hx).uG hn
 refine⟨_,.aC (.val _),fun w'=>?_⟩
 have h:=Cy (P:=P) ht p w'
 have hg:(eqGuard .eql t x (.const (.pointer none)) (.pointer p) (.pointer none)).run P w'=.ok () w':=by simp[eqGuard]
 simp only[execOp,e1,show a.eval (.const (.pointer none))=.pointer none from rfl,Sem.run_bind,hg,Result.andThen_ok]
 simp[binOp,h]
theorem PY.UL {t t' e:TypeId}{x:Operand}{g:G}{b:Bool}(hx:ev s x=some g) (hn:AM.uG g=some b) (ht:P.underlying t=some (.pointer e)):
  PY P s ⟨dst,.binOp .neq t x (.const (.pointer none)) t',ty,pos,after,guard⟩ (.val (.bool (!b))):=fun N cx μ a w hr=>by
 obtain⟨p,e1,rfl⟩:=(hr.ev hx).uG hn
 refine⟨_,.aC (.val _),fun w'=>?_⟩
 have h:=Cy (P:=P) ht p w'
 have hg:(eqGuard .neq t x (.const (.pointer none)) (.pointer p) (.pointer none)).run P w'=.ok () w':=by simp[eqGuard]
 simp only[execOp,e1,show a.eval (.const (.pointer none))=.pointer none from rfl,Sem.run_bind,hg,Result.andThen_ok]
 simp[binOp,h]
theorem PY.Ff {x:Operand}{h i off:Nat}(hx:ev s x=some (.kp h i off)):PY P s ⟨dst,.nilCheck x,ty,pos,after,guard⟩ (.kp h i off):=fun N cx μ a w hrel=>by
 have hr:=hrel.ev hx
 refine⟨_,hr,fun w'=>?_⟩
 generalize e1:a.eval x=v at hr
 cases hr with
 | aC h=>cases h
 | kp _ _ _ b m c n hm hk=>simp[execOp,e1]
def uc (O:Nat→Prop) (w:World) (kty:TypeId) (sz:Nat) (n:Nat) (gs:List G) (u:Value):Option (Nat×Nat)→Prop
 | none=>n=0∧gs=[]∧∃a cap,u=.slice a 0 cap∧(a=none→cap=0)
 | some (c,k)=>∃cap cs,u=.slice (some ⟨c,0,none⟩) n cap∧n≤cap∧cap*sz=k∧w.heap[c]?=some (.cells cs kty (0,0))∧cs.size=k∧k≤maxLen*sz∧gs.length=n*sz∧
   ∀(j:Nat) (g:G),gs[j]?=some g→∃v,cs[j]?=some v∧bB O w g v
structure RE (bw kty:TypeId) (sz:Nat) (rows:List (Nat×List G)) (O:Nat→Prop) (w:World) (b:Nat) (m:Mm) (cs:Array Value):Prop where
 len:m.2.length=rows.length
 root:∀(i c k:Nat),m.2[i]?=some (some (c,k))→c≠b∧c<w.heap.size
 inj:∀(i j c k k':Nat),m.2[i]?=some (some (c,k))→m.2[j]?=some (some (c,k'))→i=j
 heap:w.heap[b]?=some (.cells cs bw (0,0))
 size:cs.size=m.1
 le:rows.length≤m.1
 max:m.1≤maxLen
 row:∀(i n:Nat) (gs:List G),rows[i]?=some (n,gs)→∃u x,cs[i]?=some u∧m.2[i]?=some x∧uc O w kty sz n gs u x
theorem uc.mono {O O':Nat→Prop}{w w':World}{kty:TypeId}{sz n:Nat}{gs:List G}{u:Value}{x:Option (Nat×Nat)}(h:uc O w kty sz n gs u x) (hk:Kept O w w') (hO:∀x,x<w.heap.size→¬O x→¬O' x)
  (hc:∀c k,x=some (c,k)→w'.heap[c]?=w.heap[c]?):uc O' w' kty sz n gs u x:=by
 cases x with
 | none=>exact h
 | some ck=>
  obtain⟨c,k⟩:=ck
  obtain⟨cap,cs,h1,h2,h3,h4,h5,h6,h7,h8⟩:=h
  exact⟨cap,cs,h1,h2,h3,(hc c k rfl).trans h4,h5,h6,h7,fun j g hg=>let ⟨v,hv,hr⟩:=h8 j g hg;⟨v,hv,hr.mono hk hO⟩⟩
theorem uc.shut {O Z:Nat→Prop}{w w':World}{kty:TypeId}{sz n:Nat}{gs:List G}{u:Value}{x:Option (Nat×Nat)}(h:uc O w kty sz n gs u x) (hs:fB Z w w'):uc O w' kty sz n gs u x:=by
 cases x with
 | none=>exact h
 | some ck=>
  obtain⟨c,k⟩:=ck
  obtain⟨cap,cs,h1,h2,h3,h4,h5,h6,h7,h8⟩:=h
  exact⟨cap,cs,h1,h2,h3,hs.cells h4,h5,h6,h7,fun j g hg=>let ⟨v,hv,hr⟩:=h8 j g hg;⟨v,hv,hr.shut hs⟩⟩
theorem In.tM {b:Nat}{m:Mm}{i c k:Nat}(h:m.2[i]?=some (some (c,k))):In c b m:=.inr ⟨k,aL h⟩
def sP (bw kty:TypeId) (sz:Nat) (rows:List (Nat×List G)):Dp where
 φ:=fun O w b m=>∃cs,RE bw kty sz rows O w b m cs
 ib:=rows=[]
 mono:=by
  rintro O O' w w' b m ⟨cs,h⟩ hk hO hb
  refine⟨cs,{len:=h.len,root:=fun i c k e=>⟨(h.root i c k e).1,bW (h.root i c k e).2 hk.size⟩,inj:=h.inj,heap:=(hb b (.self _ _)).trans h.heap,size:=h.size,le:=h.le,max:=h.max,row:=fun i n gs e=>?_}⟩
  obtain⟨u,x,h1,h2,h3⟩:=h.row i n gs e
  exact⟨u,x,h1,h2,h3.mono hk hO fun c k e=>hb c (.tM (k:=k) (by rw[h2,e]))⟩
 shut:=by
  rintro O Z w w' b m ⟨cs,h⟩ hs _
  refine⟨cs,{len:=h.len,root:=fun i c k e=>⟨(h.root i c k e).1,by rw[hs.size];exact(h.root i c k e).2⟩,inj:=h.inj,heap:=hs.cells h.heap,size:=h.size,le:=h.le,max:=h.max,row:=fun i n gs e=>?_}⟩
  obtain⟨u,x,h1,h2,h3⟩:=h.row i n gs e
  exact⟨u,x,h1,h2,h3.shut hs⟩
 live:=by
  rintro O w b m ⟨cs,h⟩ x hx
  rcases hx with rfl | ⟨n,hn⟩
  ·exact lt_of_heap h.heap
  ·obtain⟨i,hi⟩:=e8 hn
   exact(h.root i x n hi).2
theorem Rel.uR {μ:Mu}{a:Act}{w:World}(hr:Rel N cx μ s a w){h:Nat}{k:ao}{bw kty:TypeId}{sz:Nat}{rows:List (Nat×List G)}(hk:az s.st h=some k) (hl:k.lp=some (.deep (sP bw kty sz rows))){b:Nat}{m:Mm}(hm:μ h=some (b,m)):
  ∃cs,RE bw kty sz rows (bif k.fresh then hJ (cx.O s.st μ) cx.base else cx.O s.st μ) w b m cs:=by
 have:=hr.st.dB h k hk
 rw[hm] at this
 exact((aS.deep hl).1 this).1
theorem Rel.AK {μ:Mu}{a:Act}{w w':World}(hrel:Rel N cx μ s a w){h:Nat}{k:ao}(hk:az s.st h=some k){b:Nat}{m:Mm}(hm:μ h=some (b,m))
  (hW:W.contains h=false) (hag:MD W s μ w w'){c:Nat}(hi:In c b m):w'.heap[c]?=w.heap[c]?:=by
 refine hag.2 c (hrel.st.bY h k b m c hk hm hi).2.2.1 ?_
 intro h' k' c' m' hin hk' hm' hi'
 have:=hrel.st.cR h h' k k' c b m c' m' hk hk' hm hm' hi hi'
 subst this
 simp at hW
 exact hW hin
theorem S3 {i:Nat}(h:i<maxLen):i≠ER:=by unfold ER;simp only[maxLen] at h;omega
theorem YL.Uf {t:TypeId}{x:Operand}{h i sz n:Nat}{k:ao}{bw kty:TypeId}{rows:List (Nat×List G)}{gs:List G}(hx:ev s x=some (.loc h i)) (hk:az s.st h=some k) (hl:k.lp=some (.deep (sP bw kty sz rows))) (hi:rows[i]?=some (n,gs))
  (hag:∀w,(isAgg t).run P w=.ok false w) (hW:W.contains h=false):eQ P W s ⟨dst,.load t x,ty,pos,after,guard⟩ (.ks h i sz n):=fun N cx μ a w hrel=>by
 obtain⟨b,m,e1,hm⟩:=hrel.loc hx
 obtain⟨cs,hf⟩:=hrel.uR hk hl hm
 obtain⟨u,x',h1,h2,h3⟩:=hf.row i n gs hi
 refine⟨u,?_,fun w' hs hw'=>?_⟩
 ·cases x' with
  | none=>obtain⟨rfl,_,a',cap,rfl,_⟩:=h3;exact .ko h i sz a' cap (fun e=>absurd e (S3 (bW (aw.1 hi).1 (cm hf.le hf.max))))
  | some ck=>
   obtain⟨c,kk⟩:=ck
   obtain⟨cap,cs',rfl,h4,h5,_⟩:=h3
   exact .ks h i sz n b m c kk cap hm h2 h4 h5
 ·have hb:=hrel.AK hk hm hW ⟨hs,hw'⟩ (.self b m)
  rw[hf.heap] at hb
  have hc:w'.cell? ⟨b,i,none⟩=some u:=by rw[cell_of hb,h1]
  simp[execOp,e1,Instr.loadAt,Instr.sureAddr,loadVar,hag,hc]
theorem Rel.kp {μ:Mu}{a:Act}{w:World}(hrel:Rel N cx μ s a w){x:Operand}{h i off:Nat}(hx:AM.ev s x=some (.kp h i off)):∃b m c n,a.eval x=.pointer (some ⟨c,off,none⟩)∧μ h=some (b,m)∧m.2[i]?=some (some (c,n)):=by
 have hr:=hrel.ev hx
 generalize a.eval x=v at hr
 cases hr with
 | aC h=>cases h
 | kp _ _ _ b m c n hm hk=>exact⟨b,m,c,n,rfl,hm,hk⟩
def N8 (f:Bool):G→G
 | .val v=>.val v
 | g=>bif f then .fr g else g
theorem bB.N8 {O:Nat→Prop}{base:Nat}{w:World}{μ:Mu}{f:Bool}{g:G}{v:Value}(h:bB (bif f then hJ O base else O) w g v):aM O base w μ (AM.N8 f g) v:=by
 have key:aM O base w μ (bif f then .fr g else g) v:=by
  cases f with
  | false=>exact .aC h
  | true=>exact .fr h
 cases g with
 | val u=>cases h;exact .aC (.val _)
 | _=>exact key
theorem YL.ED {t:TypeId}{x:Operand}{h i off sz n:Nat}{k:ao}{bw kty:TypeId}{rows:List (Nat×List G)}{gs:List G}{g:G}(hx:ev s x=some (.kp h i off)) (hk:az s.st h=some k) (hl:k.lp=some (.deep (sP bw kty sz rows)))
  (hi:rows[i]?=some (n,gs)) (hg:gs[off]?=some g) (hag:∀w,(isAgg t).run P w=.ok false w) (hW:W.contains h=false):eQ P W s ⟨dst,.load t x,ty,pos,after,guard⟩ (N8 k.fresh g):=fun N cx μ a w hrel=>by
 obtain⟨b,m,c,n',e1,hm,hc⟩:=hrel.kp hx
 obtain⟨cs,hf⟩:=hrel.uR hk hl hm
 obtain⟨u,x',h1,h2,h3⟩:=hf.row i n gs hi
 rw[hc] at h2
 cases h2
 obtain⟨cap,cs',_,_,_,h6,_,_,_,h10⟩:=h3
 obtain⟨v,hv,hr⟩:=h10 off g hg
 refine⟨v,hr.N8,fun w' hs hw'=>?_⟩
 have hb:=hrel.AK hk hm hW ⟨hs,hw'⟩ (.tM hc)
 rw[h6] at hb
 have hcell:w'.cell? ⟨c,off,none⟩=some v:=by rw[cell_of hb,hv]
 simp[execOp,e1,Instr.loadAt,Instr.sureAddr,loadVar,hag,hcell]
theorem bP.rewrite {μ:Mu}{st:List (Nat×ao)}{w w':World}(h:bP cx μ st w){hh:Nat}{k k':ao}{b c:Nat}{m:Mm}(hk:az st hh=some k) (hm:μ hh=some (b,m)) (hc:In c b m)
  (hsz:w'.heap.size=w.heap.size) (hoth:∀b',b'≠c→w'.heap[b']?=w.heap[b']?) (hos:w'.os=w.os) (htape:w'.tape=w.tape) (hout:w'.output=w.output) (hmine:k'.dn=true→k.dn=true)
  (hb:∀O',(∀x,cx.O st μ x↔O' x)→aS O' cx.base w' μ k' (some (b,m))):
  bP cx μ (cC st hh k') w'∧Kept (cx.O st μ) w w'∧∀b,cx.O (cC st hh k') μ b↔cx.O st μ b:=by
 have hOO:∀b,cx.O (cC st hh k') μ b↔cx.O st μ b:=fun b=>or_congr Iff.rfl (Own.cC hk)
 have hown:cx.O st μ c:=.inr ⟨hh,k,b,m,hk,hm,hc⟩
 have hkept:Kept (cx.O st μ) w w':=⟨by rw[hsz];exact aq _,fun b' _ hn=>hoth b' fun e=>hn (e▸hown)⟩
 have hO:∀b,b<w.heap.size→¬cx.O st μ b→¬cx.O (cC st hh k') μ b:=fun b _ hn ho=>hn ((hOO b).1 ho)
 obtain⟨hx,hbA,_⟩:=h.bY hh k b m c hk hm hc
 refine⟨{dB:=?_,cR:=?_,bY:=?_,ew:=?_,ed:=h.ed,hb:=by rw[hsz];exact h.hb,os:=hos.trans h.os,tape:=htape.trans h.tape,output:=hout.trans h.output,gl:=h.gl,cW:=?_},hkept,hOO⟩
 ·intro x k1 h1
  rcases cF hk h1 with ⟨rfl,rfl⟩ | ⟨hne,h1⟩
  ·rw[hm];exact hb _ fun x=>(hOO x).symm
  ·exact(h.dB x k1 h1).mono (fun b1 m1 hmx y hy=>hoth y fun e=>hne (h.cR x hh k1 k y b1 m1 b m h1 hk hmx hm hy (e▸hc))) hkept hO
 ·intro x x' k1 k2 y b1 m1 b2 m2 h1 h2
  have f:∀x k1,az (cC st hh k') x=some k1→∃k1,az st x=some k1:=fun x k1 h1=>by
   rcases cF hk h1 with ⟨rfl,rfl⟩ | ⟨_,h1⟩
   ·exact⟨k,hk⟩
   ·exact⟨_,h1⟩
  obtain⟨k1',h1'⟩:=f x k1 h1
  obtain⟨k2',h2'⟩:=f x' k2 h2
  exact h.cR x x' k1' k2' y b1 m1 b2 m2 h1' h2'
 ·intro x k1 b1 m1 y h1 h2 h3
  rw[hsz]
  rcases cF hk h1 with ⟨rfl,rfl⟩ | ⟨_,h1⟩
  ·exact let ⟨a1,a2,a3,a4⟩:=h.bY x k b1 m1 y hk h2 h3;⟨a1,a2,a3,fun hm=>a4 (hmine hm)⟩
  ·exact h.bY x k1 b1 m1 y h1 h2 h3
 ·intro x k1 h1 h2
  rcases cF hk h1 with ⟨rfl,rfl⟩ | ⟨_,h1⟩
  ·exact h.ew x k hk h2
  ·exact h.ew x k1 h1 h2
 ·intro b' hb1 hA
  rw[hoth b' (fun e=>by subst e;exact hbA.elim (fun h1=>by omega) (fun h1=>hA h1))]
  exact h.cW b' hb1 hA
theorem Rel.rewrite {μ:Mu}{a:Act}{w w':World}(h:Rel N cx μ s a w){hh:Nat}{k k':ao}{b c:Nat}{m:Mm}(hk:az s.st hh=some k) (hm:μ hh=some (b,m)) (hc:In c b m)
  (hsz:w'.heap.size=w.heap.size) (hoth:∀b',b'≠c→w'.heap[b']?=w.heap[b']?) (hos:w'.os=w.os) (htape:w'.tape=w.tape) (hout:w'.output=w.output) (hmine:k'.dn=true→k.dn=true)
  (hb:∀O',(∀x,cx.O s.st μ x↔O' x)→aS O' cx.base w' μ k' (some (b,m))) (hW:W.contains hh=true):
  Rel N cx μ {fr:=s.fr,st:=cC s.st hh k',df:=s.df} a w'∧Step W s.st μ (cC s.st hh k') μ w w':=by
 obtain⟨h1,h2,h3⟩:=h.st.rewrite hk hm hc hsz hoth hos htape hout hmine hb
 refine⟨{st:=h1,nd:=h.nd.mono h2 (fun b _ hn ho=>hn ((h3 b).1 ho)),sz:=h.sz,fr:=fun t g hg=>?_},?_⟩
 ·obtain⟨v,hv,hr⟩:=h.fr t g hg
  exact⟨v,hv,hr.mono h2 (fun b _ hn ho=>hn ((h3 b).1 ho)) (aq _)⟩
 ·refine⟨by rw[hsz];exact aq _,fun b' _ hn=>hoth b' fun e=>?_,fun x k1 c1 m1 y hw h1 h2 hy=>?_⟩
  ·subst e
   exact hn hh k b m (by simpa using hW) hk hm hc
  ·rcases cF hk h1 with ⟨rfl,rfl⟩ | ⟨_,h1⟩
   ·exact .inl ⟨x,k,c1,m1,hw,hk,h2,hy⟩
   ·exact .inl ⟨x,k1,c1,m1,hw,h1,h2,hy⟩
theorem EF.ED {t:TypeId}{x y:Operand}{h i off sz n:Nat}{k:ao}{bw kty:TypeId}{rows:List (Nat×List G)}{gs:List G}{g g':G}{f:Bool}(hx:ev s x=some (.kp h i off)) (hy:ev s y=some g) (hk:az s.st h=some k)
  (hl:k.lp=some (.deep (sP bw kty sz rows))) (hi:rows[i]?=some (n,gs)) (hoff:off<gs.length) (hig:BQ g=some (g',f)) (hone:g.one=true) (hsz:∀w,(sizeOf t).run P w=.ok 1 w) (hW:W.contains h=true):
  bJ P W s ⟨none,.store t x y,ty,pos,after,guard⟩ (·={fr:=s.fr,st:=cC s.st h {k with fresh:=k.fresh&&f,lp:=some (.deep (sP bw kty sz (rows.set i (n,gs.set off g'))))},df:=s.df}):=by
 refine bJ.skip rfl (fun _ h=>by cases h) ?_
 intro N cx μ a w hr
 obtain⟨b,m,c,n',e1,hm,hc⟩:=hr.kp hx
 obtain⟨cs0,hf⟩:=hr.uR hk hl hm
 obtain⟨u,x',h1,h2,h3⟩:=hf.row i n gs hi
 rw[hc] at h2
 cases h2
 obtain⟨cap,cs,q1,q2,q3,q4,q5,q6,q7,q8⟩:=h3
 have hlen:off<cs.size:=by rw[q5,←q3];have:=ca sz q2;omega
 have hv:=hr.ev hy
 have hvone:=hv.one hone
 have hcells:=tD hvone
 have hrun:=run_storeCells_at P c off kty [a.eval y] 0 cs w q4 (by simp;omega) (fun v hv=>by simp at hv;subst hv;exact hvone)
 simp only[dJ,aZ,dY,cr] at hrun
 refine⟨μ,w.setRow c (cs.toList.take off++[a.eval y]++cs.toList.drop (off+1)).toArray,?_,?_⟩
 ·simp only[execOp,Instr.storeAt,Instr.sureAddr,e1,storeVar,hsz,Sem.run_bind,Sem.run_pure,Result.andThen_ok]
  rw[if_neg (by rw[hcells];simp)]
  rw[hcells]
  show((storeCells ⟨c,off,none⟩ [a.eval y] 0).run P w).andThen _=_
  rw[hrun]
  rfl
 ·have hset:(cs.toList.take off++[a.eval y]++cs.toList.drop (off+1)).toArray=cs.setIfInBounds off (a.eval y):=by
   apply Array.ext'
   rw[Array.toList_setIfInBounds,dE,if_pos (by rw[Array.length_toList];omega)]
   simp
  rw[hset]
  refine hr.rewrite (k':={k with fresh:=k.fresh&&f,lp:=some (.deep (sP bw kty sz (rows.set i (n,gs.set off g'))))}) hk hm (.tM hc) (setRow_size _ _ _) (fun b' hb'=>setRow_other w c b' _ hb') rfl rfl rfl id (fun O' hO=>?_) hW
  have hb0:=hr.st.dB h k hk
  rw[hm] at hb0
  obtain⟨_,p2,p3,p4⟩:=(aS.deep hl).1 hb0
  refine(aS.deep (d:=sP bw kty sz (rows.set i (n,gs.set off g'))) rfl).2 ⟨⟨cs0,?_⟩,p2,p3,p4⟩
  have hOk:∀x,(bif (k.fresh&&f) then hJ O' cx.base else O') x→(bif k.fresh then hJ (cx.O s.st μ) cx.base else cx.O s.st μ) x∨k.fresh=true∧x<cx.base:=by
   intro x hx
   cases hkf:k.fresh with
   | false=>rw[hkf] at hx;exact .inl ((hO x).2 hx)
   | true=>
    rw[hkf] at hx
    cases f with
    | true=>
     rcases hx with hx | hx
     ·exact .inr ⟨rfl,hx⟩
     ·exact .inl (.inr ((hO x).2 hx))
    | false=>exact .inl (.inr ((hO x).2 hx))
  have hOk':∀x,(bif (k.fresh&&f) then hJ O' cx.base else O') x→(bif k.fresh then hJ (cx.O s.st μ) cx.base else cx.O s.st μ) x:=by
   intro x hx
   rcases hOk x hx with h | ⟨h1,h2⟩
   ·exact h
   ·rw[h1];exact .inl h2
  have hkept:Kept (bif k.fresh then hJ (cx.O s.st μ) cx.base else cx.O s.st μ) w (w.setRow c (cs.setIfInBounds off (a.eval y))):=by
   refine⟨by rw[setRow_size];exact aq _,fun b' _ hn=>setRow_other w c b' _ fun e=>hn ?_⟩
   subst e
   have:cx.O s.st μ b':=.inr ⟨h,k,b,m,hk,hm,.tM hc⟩
   cases k.fresh with
   | false=>exact this
   | true=>exact .inr this
  have hne:b≠c:=fun e=>(hf.root i c n' hc).1 e.symm
  refine {len:=by rw[lH];exact hf.len,root:=fun i c k e=>⟨(hf.root i c k e).1,by rw[setRow_size];exact(hf.root i c k e).2⟩,inj:=hf.inj,heap:=(setRow_other w c b _ hne).trans hf.heap,size:=hf.size,le:=by rw[lH];exact hf.le,max:=hf.max,row:=fun j nj gj hj=>?_}
  rw[eX] at hj
  split at hj
  ·rename_i e
   subst e
   split at hj
   ·cases hj
    refine⟨u,_,h1,hc,cap,cs.setIfInBounds off (a.eval y),q1,q2,q3,jG q4,by simp[q5],q6,by simp[q7],fun j g1 hg1=>?_⟩
    rw[eX] at hg1
    split at hg1
    ·rename_i hj
     subst hj
     cases hg1
     refine⟨a.eval y,by rw[fT hlen],?_⟩
     have:=vN hv hig
     refine this.mono (w':=w.setRow c (cs.setIfInBounds off (a.eval y))) ⟨by rw[setRow_size];exact aq _,fun b' hb' hn=>setRow_other w c b' _ fun e=>hn ?_⟩ fun x _ hn hx=>hn ?_
     ·subst e
      have hown:cx.O s.st μ b':=.inr ⟨h,k,b,m,hk,hm,.tM hc⟩
      cases f with
      | false=>exact hown
      | true=>exact .inr hown
     ·cases f with
      | false=>rw[ow] at hx;exact(hO x).2 hx
      | true=>
       rw[jQ] at hx
       cases hkf:k.fresh with
       | false=>rw[hkf] at hx;exact .inr ((hO x).2 hx)
       | true=>rw[hkf] at hx;exact hx.imp id (hO x).2
    ·rename_i hj
     obtain⟨v,hv1,hrv⟩:=q8 j g1 hg1
     refine⟨v,by rw[eF hj];exact hv1,hrv.mono hkept fun x _ hn hx=>hn (hOk' x hx)⟩
   ·cases hj
  ·rename_i hne'
   obtain⟨u',y',r1,r2,r3⟩:=hf.row j nj gj hj
   refine⟨u',y',r1,r2,r3.mono hkept (fun x _ hn hx=>hn (hOk' x hx)) fun c' k' e=>setRow_other w c c' _ fun e'=>?_⟩
   subst e'
   exact hne' (hf.inj i j c' n' k' hc (by rw[r2,e]))
end
section
variable {P:Program}{W:List Nat}{s:St}{dst:Option Nat}{ty:TypeId}{pos:String}{after:Array Edge}{guard:Option (Nat×Bool)}
theorem FB {t:TypeId}{v:Value}{b:Bool}{ms:_}(hb:Io v=some b) (ht:P.underlying t=some (.interface ms)) (w:World):(Op.equal t v .nilIface).run P w=.ok (!b) w:=by
 have h:∀d,(Op.equalIn (d+1) t v .nilIface).run P w=.ok (!b) w:=fun d=>by
  cases v <;> cases hb <;> simp[Op.equalIn,run_underlying ht]
 exact h 9999
theorem PY.NX {op:BinOp}{t t':TypeId}{x:Operand}{b:Bool}{ms:_}(neg:Bool) (ho:op=bif neg then .neq else .eql) (hx:ev s x=some (.cH b)∨ev s x=some (.fr (.cH b))) (ht:P.underlying t=some (.interface ms)):
  PY P s ⟨dst,.binOp op t x (.const .nilIface) t',ty,pos,after,guard⟩ (.val (.bool (b==neg))):=fun _ _ _ a _ hrel=>by
 have hr:Io (a.eval x)=some b:=by
  rcases hx with hx | hx
  ·have hr:=hrel.ev hx
   generalize a.eval x=v at hr
   cases hr with
   | aC h=>cases h with
    | cH _ _ hb=>exact hb
  ·have hr:=hrel.ev hx
   generalize a.eval x=v at hr
   cases hr with
   | aC h=>cases h
   | fr h=>cases h with
    | cH _ _ hb=>exact hb
 refine⟨_,.aC (.val _),fun w'=>?_⟩
 generalize e1:a.eval x=v at hr
 have hb:=hr
 have he:=FB (P:=P) hb ht w'
 have e2:(eqGuard op t x (.const .nilIface) v .nilIface).run P w'=.ok () w':=by
  cases v <;> cases hb <;> cases neg <;> subst ho <;> simp[eqGuard]
 have e3:(binOp op t v .nilIface).run P w'=.ok (.bool (b==neg)) w':=by
  have h1:binOp .eql t v .nilIface=(do pure (.bool (←Op.equal t v .nilIface)):Sem Value):=by cases v <;> cases hb <;> rfl
  have h2:binOp .neq t v .nilIface=(do pure (.bool (!(←Op.equal t v .nilIface))):Sem Value):=by cases v <;> cases hb <;> rfl
  cases neg <;> subst ho <;> simp only[cond_true,cond_false,h1,h2,Sem.run_bind,he,Result.andThen_ok,Sem.run_pure] <;> cases b <;> rfl
 have e4:a.eval (.const .nilIface)=.nilIface:=rfl
 simp only[execOp,e1,e4,Sem.run_bind,e2,e3,Result.andThen_ok,Sem.run_pure]
end
end Go.AM
/-
 AM:what belongs to a block is told anew:slices of slices that are empty,that are handed over,that are written no more.
-/
namespace Go.AM
def kf (h:Nat):G→G
 | .kp x i off=>bif Nat.beq x h then .any else .kp x i off
 | .ks x i sz n=>bif Nat.beq x h then .any else .ks x i sz n
 | .agg gs=>.agg (go gs)
 | .aU gs=>.aU (go gs)
 | .aP f gs=>.aP f (go gs)
 | g=>g
where go:List G→List G
 | []=>[]
 | g::r=>kf h g::go r
theorem nD {h:Nat}{gs:List G}:(kf.go h gs).length=gs.length∧∀(j:Nat) (g':G),(kf.go h gs)[j]?=some g'→∃g,gs[j]?=some g∧g'=kf h g:=by
 induction gs with
 | nil=>exact⟨rfl,fun j g e=>by simp[kf.go] at e⟩
 | cons x r ih=>
  refine⟨by simp[kf.go,ih.1],fun j g' e=>?_⟩
  simp only[kf.go] at e
  cases j with
  | zero=>cases e;exact⟨x,rfl,rfl⟩
  | succ j=>exact ih.2 j g' e
def Th (h:Nat) (k:ao):ao:=bif k.pure then k else {k with cells:=kf.go h k.cells}
def RD (μ μ':Mu) (h:Nat):Prop:=(∀y,y≠h→μ' y=μ y)∧match μ h with
 | none=>μ' h=none
 | some (b,m)=>∃m':Mm,μ' h=some (b,m')∧m'.1=m.1
theorem aM.kf {O:Nat→Prop}{base:Nat}{w:World}{μ μ':Mu}{h:Nat}{g:G}{v:Value}(hv:aM O base w μ g v) (hr:RD μ μ' h):aM O base w μ' (AM.kf h g) v:=by
 have key:∀{y:Nat}{b:Nat}{m:Mm},μ y=some (b,m)→∃m':Mm,μ' y=some (b,m')∧m'.1=m.1:=by
  intro y b m hm
  by_cases e:y=h
  ·subst e
   have:=hr.2
   rw[hm] at this
   exact this
  ·exact⟨m,(hr.1 y e).trans hm,rfl⟩
 have aC:∀{g:G}{v:Value},bB O w g v→aM O base w μ' (AM.kf h g) v:=by
  intro g v hi
  induction hi with
  | any v=>exact .aC (.any v)
  | val v=>exact .aC (.val v)
  | cH b v h=>exact .aC (.cH b v h)
  | nil=>exact .aC .nil
  | ib a c=>exact .aC (.ib a c)
  | sl n cells b off cap us h1 h2 h3 h4 h5 ih=>exact .aC (.sl n cells b off cap us h1 h2 h3 h4 h5)
  | ptr cells b off us h1 h2 h3 h4 ih=>exact .aC (.ptr cells b off us h1 h2 h3 h4)
  | agg cells us hl hr ih=>
   refine .agg _ us (by rw[nD.1];exact hl) fun j g v hg hv=>?_
   obtain⟨g0,e1,rfl⟩:=nD.2 j g hg
   exact ih j g0 v e1 hv
 induction hv with
 | aC h=>exact aC h
 | fr h=>exact .fr h
 | loc x off b m hm=>obtain⟨m',e,_⟩:=key hm;exact .loc x off b m' e
 | eD x sz hm=>
  refine .eD x sz ?_
  by_cases e:x=h
  ·subst e
   have:=hr.2
   rw[hm] at this
   exact this
  ·exact(hr.1 x e).trans hm
 | aK x sz off n b m cap hm hn hc=>obtain⟨m',e,e1⟩:=key hm;exact .aK x sz off n b m' cap e hn (hc.trans e1.symm)
 | dO x sz off0 b m hm hp=>
  obtain⟨⟨m',ks⟩,e,e1⟩:=key hm
  dsimp only at e1
  subst e1
  exact .dO x sz off0 b m' e hp
 | cA x b m hm=>obtain⟨m',e,_⟩:=key hm;exact .cA x b m' e
 | eV x b m hm=>obtain⟨m',e,_⟩:=key hm;exact .eV x b m' e
 | kp x i off b m c n hm hk=>
  simp only[AM.kf]
  cases hb:Nat.beq x h with
  | true=>exact .aC (.any _)
  | false=>exact .kp x i off b m c n ((hr.1 x fun e=>by subst e;rw[aQ] at hb;cases hb).trans hm) hk
 | ko x i sz a cap hi=>
  simp only[AM.kf]
  cases hb:Nat.beq x h with
  | true=>exact .aC (.any _)
  | false=>exact .ko x i sz a cap hi
 | ks x i sz n b m c k cap hm hk hn hc=>
  simp only[AM.kf]
  cases hb:Nat.beq x h with
  | true=>exact .aC (.any _)
  | false=>exact .ks x i sz n b m c k cap ((hr.1 x fun e=>by subst e;rw[aQ] at hb;cases hb).trans hm) hk hn hc
 | agg cells us hl hr' ih=>
  refine .agg _ us (by rw[nD.1];exact hl) fun j g v hg hv=>?_
  obtain⟨g0,e1,rfl⟩:=nD.2 j g hg
  exact ih j g0 v e1 hv
 | aU cells us hl hr' ih=>
  refine .aU _ us (by rw[nD.1];exact hl) fun j g v hg hv=>?_
  obtain⟨g0,e1,rfl⟩:=nD.2 j g hg
  exact ih j g0 v e1 hv
 | aP f cells us hl hr' ih=>
  refine .aP f _ us (by rw[nD.1];exact hl) fun j g v hg hv=>?_
  obtain⟨g0,e1,rfl⟩:=nD.2 j g hg
  exact ih j g0 v e1 hv
theorem aS.kf {O:Nat→Prop}{base:Nat}{w:World}{μ μ':Mu}{h:Nat}{k:ao}{x:Option (Nat×Mm)}(hb:aS O base w μ k x) (hr:RD μ μ' h):aS O base w μ' (Th h k) x:=by
 unfold Th
 cases hp:k.pure with
 | true=>exact hb.gU fun hp'=>by rw[hp] at hp';cases hp'
 | false=>
  simp only[cond_false]
  cases x with
  | none=>
   obtain⟨h1,h2⟩:=hb
   refine⟨aT (by simp only;rw[nD.1,h1];rfl),?_⟩
   dsimp only
   split at h2
   ·trivial
   ·exact h2.elim
   ·rw[hp] at h2;cases h2.2
  | some bm=>
   obtain⟨b,m⟩:=bm
   cases hl:k.lp with
   | none=>
    obtain⟨cs1,h4,h5,h6,h7,h8,h9⟩:=hb.cells hl
    refine .mk rfl (hb.l9 hl) ⟨cs1,h4,h5,by simp only;rw[nD.1];exact h6,h7,h8,fun j g hg=>?_⟩
    obtain⟨g0,e1,rfl⟩:=nD.2 j g hg
    obtain⟨v,hv,hrv⟩:=h9 j g0 e1
    refine⟨v,hv,?_⟩
    unfold bZ at hrv⊢
    rw[hp] at hrv
    simp only
    exact hrv.kf hr
   | some kd=>
    cases kd with
    | deep d=>have:=((aS.deep hl).1 hb).2.1;rw[hp] at this;cases this
    | loop lp=>
     obtain⟨D,vs,q1,q2,q3,q4,q5⟩:=(aS.loop hl).1 hb
     refine(aS.loop rfl).2 ⟨D,vs,q1,q2,q3,rfl,fun j t g ht hg=>?_⟩
     obtain⟨g0,e1,rfl⟩:=nD.2 j g hg
     obtain⟨v,hv,hrv⟩:=q5 j t g0 ht e1
     exact⟨v,hv,hrv.kf hr⟩
section
variable {P:Program}{N:Nat}{cx:Cx}{s:St}{W:List Nat}
variable {ty:TypeId}{pos:String}{after:Array Edge}{guard:Option (Nat×Bool)}
end
end Go.AM
/-
 AM:slices of slices grow:one made of a slice of the call's own;one appended to another.
-/
namespace Go.AM
section
variable {P:Program}{N:Nat}{cx:Cx}{s:St}{W:List Nat}
theorem Step.andThen {st st1 st2:List (Nat×ao)}{μ μ1 μ2:Mu}{w w1 w2:World}(h:Step W st μ st1 μ1 w w1) (h':Step W st1 μ1 st2 μ2 w1 w2):Step W st μ st2 μ2 w w2:=by
 refine⟨cm h.size h'.size,fun b hb hn=>(h'.block b (bW hb h.size) fun x k c m hx hk hm hi=>?_).trans (h.block b hb hn),fun x k c m b hx hk hm hi=>?_⟩
 ·rcases h.hand x k c m b hx hk hm hi with ⟨h0,k0,c0,m0,q1,q2,q3,q4⟩ | h3
  ·exact hn h0 k0 c0 m0 q1 q2 q3 q4
  ·omega
 ·rcases h'.hand x k c m b hx hk hm hi with ⟨h0,k0,c0,m0,q1,q2,q3,q4⟩ | h3
  ·exact h.hand h0 k0 c0 m0 b q1 q2 q3 q4
  ·exact .inr (cm h.size h3)
theorem bJ.after {o:Oper}{s1 s2:St}(he:bJ P W s o (·=s1)) (hg:∀(N:Nat) (cx:Cx) (μ:Mu) (a:Act) (w:World),Rel N cx μ s1 a w→∃μ',Rel N cx μ' s2 a w∧Step W s1.st μ s2.st μ' w w):bJ P W s o (·=s2):=by
 refine⟨he.1,fun N cx μ a w hr hd K Q hK=>he.2 N cx μ a w hr hd K Q fun μ1 s' a' w' hr' e hst=>?_⟩
 subst e
 obtain⟨μ2,h1,h2⟩:=hg N cx μ1 a' w' hr'
 exact hK μ2 s2 a' w' h1 rfl (hst.andThen h2)
variable {ty:TypeId}{pos:String}{after:Array Edge}{guard:Option (Nat×Bool)}{d:Nat}
end
end Go.AM
/-
 AM:parts of a slice beyond its end,append within the same block.
-/
namespace Go.AM
section
variable {P:Program}{N:Nat}{cx:Cx}{s:St}{W:List Nat}
variable {dst:Option Tmp}{ty:TypeId}{pos:String}{after:Array Edge}{guard:Option (Nat×Bool)}{d:Nat}
theorem Nh {O:Nat→Prop}{base:Nat}{w:World}{μ:Mu}{h sz off n i j:Nat}{v:Value}(hv:aM O base w μ (.aK h sz off n) v) (h1:i≤j) (h2:j≤n):
  ∃(a:Option Addr) (cap:Nat),v=.slice a n cap∧n≤cap∧aM O base w μ (.aK h sz (off+i*sz) (j-i)) (sliced a i j cap sz):=by
 cases hv with
 | aC hv=>cases hv
 | eD _ _ hm=>
  obtain rfl:i=0:=by omega
  obtain rfl:j=0:=by omega
  refine⟨none,0,rfl,aq _,?_⟩
  simp only[sliced,fg,dJ,if_true]
  exact .eD h sz hm
 | aK _ _ _ _ b m cap hm hn hc=>
  refine⟨_,cap,rfl,hn,?_⟩
  unfold sliced
  by_cases e:cap=i
  ·rw[if_pos e]
   have hj:j-i=0:=by omega
   have hci:cap-i=0:=by omega
   rw[hj,hci]
   by_cases hpos:0<m.1
   ·have:off+i*sz=m.1:=by rw[←e];exact hc
    rw[this]
    exact .dO h sz off b m.1 hm hpos
   ·have h5:off=0:=by omega
    have h6:i*sz=0:=by rw[←e];omega
    rw[h5,h6]
    exact .aK h sz 0 0 b m 0 hm (aq _) (by omega)
  ·rw[if_neg e]
   simp only[b9,Addr.lf]
   refine .aK h sz _ _ b m _ hm (by omega) ?_
   have:i*sz+(cap-i)*sz=cap*sz:=by rw[←eI];congr 1;omega
   omega
 | dO _ _ off0 b m hm hpos=>
  obtain rfl:i=0:=by omega
  obtain rfl:j=0:=by omega
  refine⟨_,0,rfl,aq _,?_⟩
  simp only[sliced,fg,dJ,if_true]
  exact .dO h sz off0 b _ hm hpos
theorem PY.sliceB {t e:TypeId}{x lo hi:Operand}{h sz off n i j:Nat}{k1 k2:IntKind}{k:ao}(hx:ev s x=some (.aK h sz off n)) (hk:az s.st h=some k) (hlp:k.lp=none) (hl:ev s lo=some (.val (.int k1 (i:Nat)))) (hh:ev s hi=some (.val (.int k2 (j:Nat))))
  (ht:P.underlying t=some (.slice e)) (hsz:∀w,(sizeOf e).run P w=.ok sz w) (hs0:0<sz) (h1:i≤j) (h2:off+j*sz≤k.cells.length):PY P s ⟨dst,.slice t x (some lo) (some hi) none,ty,pos,after,guard⟩ (.aK h sz (off+i*sz) (j-i)):=fun N cx μ a w hr=>by
 have hv:=hr.ev hx
 have he:P.underlying t=some (.slice (P.elem t)):=by unfold Program.elem;rw[ht]
 have e:P.elem t=e:=by unfold Program.elem;rw[ht]
 have key:∃(ad:Option Addr) (cap:Nat),a.eval x=.slice ad n cap∧j≤cap∧aM (cx.O s.st μ) cx.base w μ (.aK h sz (off+i*sz) (j-i)) (sliced ad i j cap sz):=by
  generalize a.eval x=v at hv
  cases hv with
  | aC hv=>cases hv
  | eD _ _ hm=>
   have hb:=hr.st.dB h k hk
   rw[hm] at hb
   have hc:k.cells=[]:=hb.1
   rw[hc] at h2
   have hj:j=0:=by
    rcases ig j with h | h
    ·exact h
    ·have:=ca sz h;simp at h2;omega
   subst hj
   obtain rfl:i=0:=by omega
   refine⟨none,0,rfl,aq _,?_⟩
   simp only[sliced,fg,dJ,if_true]
   exact .eD h sz hm
  | aK _ _ _ _ b m cap hm hn hc=>
   obtain⟨cs,q1,q2,q3,_⟩:=hr.own hk hm hlp
   have hjc:j≤cap:=by
    have:j*sz≤cap*sz:=by omega
    exact Nat.le_of_mul_le_mul_right this hs0
   have hv2:aM (cx.O s.st μ) cx.base w μ (.aK h sz off cap) (.slice (some ⟨b,off,none⟩) cap cap):=.aK h sz off cap b m cap hm (aq _) hc
   obtain⟨ad,cap2,q4,q5,q6⟩:=Go.AM.Nh hv2 h1 hjc
   cases q4
   exact⟨_,cap,rfl,hjc,q6⟩
  | dO _ _ off0 b m hm hpos=>
   obtain⟨cs,q1,q2,q3,_⟩:=hr.own hk hm hlp
   have hj:j=0:=by
    rcases ig j with h | h
    ·exact h
    ·have:=ca sz h
     simp only at q3
     omega
   subst hj
   obtain rfl:i=0:=by omega
   refine⟨_,0,rfl,aq _,?_⟩
   simp only[sliced,fg,dJ,if_true]
   exact .dO h sz off0 b _ hm hpos
 obtain⟨ad,cap,e1,e2,e3⟩:=key
 refine⟨_,e3,fun w'=>?_⟩
 have hrun:=run_slice_lh w' t ad n cap he k1 k2 (i:Int) (j:Int) (by omega) (by omega) (by omega)
 rw[e,hsz w'] at hrun
 simp only[Int.toNat_natCast] at hrun
 simp[execOp,e1,hr.val hl,hr.val hh,run_sliceAt_slice _ _ _ _ _ _ he,hrun]
end
end Go.AM
/-
 AM:cells of an owned block written in a row:append within the block,clear.
-/
namespace Go.AM
section
variable {P:Program}{N:Nat}{cx:Cx}{s:St}{W:List Nat}
variable {ty:TypeId}{pos:String}{after:Array Edge}{guard:Option (Nat×Bool)}{d:Nat}
theorem Rel.over {μ:Mu}{a:Act}{w:World}(hr:Rel N cx μ s a w){h b:Nat}{m0:Mm}{k:ao}{cs:Array Value}{p:Nat}{newsG:List G}{news:List Value}{f:Bool}(hk:az s.st h=some k) (hm:μ h=some (b,m0)) (hlp:k.lp=none) (hp:k.pure=true)
  (hW:W.contains h=true) (hcs:w.heap[b]?=some (.cells cs k.bw (0,0))) (hl:news.length=newsG.length) (hfit:p+newsG.length≤k.cells.length)
  (hrep:∀(j:Nat) (g:G),newsG[j]?=some g→∃u,news[j]?=some u∧bB (bif f then hJ (cx.O s.st μ) cx.base else cx.O s.st μ) w g u):
  Rel N cx μ {fr:=s.fr,st:=cC s.st h {k with fresh:=k.fresh&&f,cells:=k.cells.take p++newsG++k.cells.drop (p+newsG.length)},df:=s.df} a (w.setRow b (cs.toList.take p++news++cs.toList.drop (p+news.length)).toArray)∧
   Step W s.st μ (cC s.st h {k with fresh:=k.fresh&&f,cells:=k.cells.take p++newsG++k.cells.drop (p+newsG.length)}) μ w (w.setRow b (cs.toList.take p++news++cs.toList.drop (p+news.length)).toArray):=by
 obtain⟨cs',h1,h2,h3,h4,h5,h6⟩:=hr.own hk hm hlp
 rw[hcs] at h1
 cases h1
 refine hr.write (k':={k with fresh:=k.fresh&&f,cells:=k.cells.take p++newsG++k.cells.drop (p+newsG.length)}) hk hm (jG hcs) (by
    simp only[lP,ak,bo,cK,Array.length_toList];omega) (setRow_size _ _ _) (fun b' hb'=>setRow_other w b b' _ hb') rfl rfl rfl id (by
    simp only[ak,bo,cK];omega) h5 (by
    intro j g' hg'
    have jJ:∀(j:Nat),(cs.toList.take p++news++cs.toList.drop (p+news.length)).toArray[j]?=if j<p then cs[j]? else if j<p+news.length then news[j-p]? else cs[j]?:=by
     intro j
     rw[lx,aA,ba,bo,Array.length_toList,dL (by omega:p≤cs.size)]
     split
     ·rename_i hj;rw[aV,if_pos hj,bn]
     ·rw[ba]
      split
      ·rename_i hj1 hj2;rw[if_pos (by omega)]
      ·rename_i hj1 hj2;rw[if_neg (by omega),a8,bn];congr 1;omega
    dsimp only at hg'
    rw[aA,ba,bo,dL (by omega:p≤k.cells.length)] at hg'
    rw[jJ]
    have wO:∀{j:Nat}{g':G},k.cells[j]?=some g'→∃v,cs[j]?=some v∧bZ (cx.O s.st μ) cx.base w μ {k with fresh:=k.fresh&&f,cells:=k.cells.take p++newsG++k.cells.drop (p+newsG.length)} g' v:=by
     intro j g' hg'
     obtain⟨v,hv,hrv⟩:=h6 j g' hg'
     refine⟨v,hv,?_⟩
     unfold bZ at hrv⊢
     dsimp only at hrv⊢
     rw[hp] at hrv⊢
     exact hrv.flag (fun h=>by simp at h;exact h.1)
    split at hg'
    ·rename_i hj
     rw[if_pos hj]
     rw[aV,if_pos hj] at hg'
     exact wO hg'
    ·rename_i hj
     rw[if_neg hj]
     rw[ba] at hg'
     split at hg'
     ·rename_i hj2
      rw[if_pos (by omega)]
      obtain⟨u,hu,hru⟩:=hrep _ g' hg'
      refine⟨u,hu,?_⟩
      unfold bZ
      dsimp only
      rw[hp]
      exact hru.flag (fun h=>by simp at h;exact h.2)
     ·rename_i hj2
      rw[if_neg (by omega)]
      rw[a8] at hg'
      have:p+newsG.length+(j-p-newsG.length)=j:=by omega
      rw[this] at hg'
      exact wO hg') W hW hlp
theorem FX (z:Array Value) (n j:Nat) (v:Value) (h:(Builtin.zeroCells z n).toList[j]?=some v):∃i:Nat,z[i]?=some v:=by
 unfold Builtin.zeroCells at h
 simp only[fD,Array.toList_range,ar,ay] at h
 obtain⟨q,h1,h2⟩:=h
 have hq:q<n*z.size:=by
  have:=aL h1
  simpa using this
 have hz:0<z.size:=by
  rcases ig z.size with h | h
  ·rw[h,Nat.mul_zero] at hq;omega
  ·exact h
 have hlt:q%z.size<z.size:=Nat.mod_lt _ hz
 refine⟨q%z.size,?_⟩
 rw[←h2,Array.getElem?_eq_getElem hlt]
 simp[hlt]
theorem EF.clear {t e:TypeId}{x:Operand}{h sz off n:Nat}{k:ao}{z:Value}(hx:ev s x=some (.aK h sz off n)) (hk:az s.st h=some k) (hp:k.pure=true)
  (hfit:off+n*sz≤k.cells.length) (ht:P.underlying t=some (.slice e)) (hz:(P.info? e).map (·.zero)=some (some z)) (hzs:z.cells.size=sz) (hone:∀(i:Nat) (v:Value),z.cells[i]?=some v→v.oneCell'=true)
  (hW:W.contains h=true) (hlp:k.lp=none:=by rfl):
  bJ P W s ⟨none,.call ⟨.builtin .clear,#[x],#[t]⟩,ty,pos,after,guard⟩
   (fun s'=>s'={fr:=s.fr,st:=cC s.st h {k with fresh:=k.fresh&&true,cells:=k.cells.take off++(Builtin.zeroCells z.cells n).toList.map mB++k.cells.drop (off+n*sz)},df:=s.df}∨
    (n=0∧s'=s)):=by
 refine⟨(fun _ h=>by cases h),?_⟩
 intro N cx μ a w hr hN K Q hK
 obtain⟨i,hi1,hi2⟩:=ay.1 hz
 have hv:=hr.ev hx
 have idle:∀(ad:Option Addr) (c:Nat),n=0→a.eval x=.slice ad 0 c→(Oper.wp P ⟨none,.call ⟨.builtin .clear,#[x],#[t]⟩,ty,pos,after,guard⟩ a w K Q):=by
  intro ad c hn0 hav
  unfold Oper.wp
  have:(execOp a.eval ⟨none,.call ⟨.builtin .clear,#[x],#[t]⟩,ty,pos,after,guard⟩).run P w=.ok (.value (.tuple #[])) w:=by
   cases ad <;> simp[execOp,resolve,invoke,builtin,Builtin.clear_,run_underlying ht,hav]
  rw[this]
  exact hK μ _ _ w hr (.inr ⟨hn0,rfl⟩) ⟨aq _,fun _ _ _=>rfl,fun x k1 c1 m1 b1 hw h1 h2 hi=>.inl ⟨x,k1,c1,m1,hw,h1,h2,hi⟩⟩
 generalize hav:a.eval x=v at hv
 cases hv with
 | aC h=>cases h
 | eD _ _ hm=>exact idle _ _ rfl hav
 | dO _ _ off0 b _ hm hp0=>exact idle _ _ rfl hav
 | aK _ _ _ _ b m0 cap hm hn hc=>
  rcases ig n with hn0 | hn0
  ·subst hn0;exact idle _ _ rfl hav
  obtain⟨cs,h1,h2,h3,h4,h5,h6⟩:=hr.own hk hm hlp
  have hl:(Builtin.zeroCells z.cells n).toList.length=n*sz:=by rw[Array.length_toList,size_zeroCells,hzs]
  have hst:=run_storeCells_at P b off k.bw (Builtin.zeroCells z.cells n).toList 0 cs w h1 (by rw[hl];omega) (fun v hv=>by
   obtain⟨j,hj⟩:=List.mem_iff_getElem?.1 hv
   obtain⟨q,hq⟩:=FX _ _ _ _ hj
   exact hone q v hq)
  simp only[dJ] at hst
  obtain⟨n',rfl⟩:∃n',n=n'+1:=⟨n-1,by omega⟩
  have hzv:(zeroValue e).run P w=.ok z w:=by simp[zeroValue,typeInfo,hi1,hi2]
  unfold Oper.wp
  have:(execOp a.eval ⟨none,.call ⟨.builtin .clear,#[x],#[t]⟩,ty,pos,after,guard⟩).run P w=.ok (.value (.tuple #[])) (w.setRow b (cs.toList.take off++(Builtin.zeroCells z.cells (n'+1)).toList++cs.toList.drop (off+(Builtin.zeroCells z.cells (n'+1)).toList.length)).toArray):=by
   simp[execOp,resolve,invoke,builtin,Builtin.clear_,run_underlying ht,hav,hzv,-Array.length_toList]
   rw[hst]
   simp
  rw[this]
  have hwr:=hr.over (W:=W) (p:=off) (f:=true) (newsG:=(Builtin.zeroCells z.cells (n'+1)).toList.map mB) (news:=(Builtin.zeroCells z.cells (n'+1)).toList) hk hm hlp hp hW h1 (by rw[aN]) (by rw[aN,hl];omega) (fun j g hg=>by
   rw[ar,ay] at hg
   obtain⟨u,hu,rfl⟩:=hg
   exact⟨u,hu,sT u⟩)
  rw[aN,hl] at hwr
  rw[hl]
  exact hK μ _ _ _ hwr.1 (.inl rfl) hwr.2
end
end Go.AM
/-
 AM:slices that belong to a block of structs (or of slices),each nothing or with a block of its own:one is taken out,and put back.
-/
namespace Go.AM
def VR (O:Nat→Prop) (w:World) (kty:TypeId) (sz:Nat) (n:Nat) (gs:List G) (u:Value) (x:Option (Nat×Nat)):Prop:=uc O w kty sz n gs u x∧(x=none→u=.slice none 0 0)
structure OV (bw kty:TypeId) (sz z:Nat) (rows:List (Nat×List G)) (ho:Option Nat) (O:Nat→Prop) (w:World) (b:Nat) (m:Mm) (cs:Array Value):Prop where
 len:m.2.length=rows.length
 root:∀(i c k:Nat),m.2[i]?=some (some (c,k))→c≠b∧c<w.heap.size
 inj:∀(i j c k k':Nat),m.2[i]?=some (some (c,k))→m.2[j]?=some (some (c,k'))→i=j
 heap:w.heap[b]?=some (.cells cs bw (0,0))
 size:cs.size=m.1
 le:rows.length≤m.1
 max:m.1≤maxLen*z
 row:∀(i n:Nat) (gs:List G),rows[i]?=some (n,gs)→ho≠some i→∃u x,cs[i]?=some u∧m.2[i]?=some x∧VR O w kty sz n gs u x
 hole:∀i,ho=some i→i<rows.length→m.2[i]?=some none
def M6 (bw kty:TypeId) (sz z:Nat) (rows:List (Nat×List G)) (ho:Option Nat):Dp where
 φ:=fun O w b m=>∃cs,OV bw kty sz z rows ho O w b m cs
 ib:=rows=[]
 mono:=by
  rintro O O' w w' b m ⟨cs,h⟩ hk hO hb
  refine⟨cs,{len:=h.len,root:=fun i c k e=>⟨(h.root i c k e).1,bW (h.root i c k e).2 hk.size⟩,inj:=h.inj,heap:=(hb b (.self _ _)).trans h.heap,size:=h.size,le:=h.le,max:=h.max,row:=fun i n gs e hn=>?_,hole:=h.hole}⟩
  obtain⟨u,x,h1,h2,h3,h4⟩:=h.row i n gs e hn
  exact⟨u,x,h1,h2,h3.mono hk hO fun c k e=>hb c (.tM (k:=k) (by rw[h2,e])),h4⟩
 shut:=by
  rintro O Z w w' b m ⟨cs,h⟩ hs _
  refine⟨cs,{len:=h.len,root:=fun i c k e=>⟨(h.root i c k e).1,by rw[hs.size];exact(h.root i c k e).2⟩,inj:=h.inj,heap:=hs.cells h.heap,size:=h.size,le:=h.le,max:=h.max,row:=fun i n gs e hn=>?_,hole:=h.hole}⟩
  obtain⟨u,x,h1,h2,h3,h4⟩:=h.row i n gs e hn
  exact⟨u,x,h1,h2,h3.shut hs,h4⟩
 live:=by
  rintro O w b m ⟨cs,h⟩ x hx
  rcases hx with rfl | ⟨n,hn⟩
  ·exact lt_of_heap h.heap
  ·obtain⟨i,hi⟩:=e8 hn
   exact(h.root i x n hi).2
section
variable {P:Program}{N:Nat}{cx:Cx}{s:St}{W:List Nat}
variable {ty:TypeId}{pos:String}{after:Array Edge}{guard:Option (Nat×Bool)}
theorem Rel.rows {μ:Mu}{a:Act}{w:World}(hr:Rel N cx μ s a w){h:Nat}{k:ao}{bw kty:TypeId}{sz z:Nat}{rows:List (Nat×List G)}{ho:Option Nat}(hk:az s.st h=some k) (hl:k.lp=some (.deep (M6 bw kty sz z rows ho))){b:Nat}{m:Mm}(hm:μ h=some (b,m)):
  ∃cs,OV bw kty sz z rows ho (bif k.fresh then hJ (cx.O s.st μ) cx.base else cx.O s.st μ) w b m cs:=by
 have:=hr.st.dB h k hk
 rw[hm] at this
 exact((aS.deep hl).1 this).1
end
end Go.AM
/-
 AM:one of the slices of a block is taken out;one is put in.
-/
namespace Go.AM
section
variable {P:Program}{N:Nat}{cx:Cx}{s:St}{W:List Nat}
variable {ty:TypeId}{pos:String}{after:Array Edge}{guard:Option (Nat×Bool)}
end
end Go.AM
/-
 AM:arrays of numbers:an element's address,equality.
-/
namespace Go.AM
def Dv:List Int→List Int→Bool
 | [],[]=>true
 | x::xs,y::ys=>x==y&&Dv xs ys
 | _,_=>false
section
variable {P:Program}{s:St}{dst:Option Tmp}{ty:TypeId}{pos:String}{after:Array Edge}{guard:Option (Nat×Bool)}
theorem PY.P7 {t e:TypeId}{x y:Operand}{h off n:Nat}{k:IntKind}{i:Int}(hx:ev s x=some (.loc h off)) (hy:ev s y=some (.val (.int k i))) (h0:0≤i) (hn:i<n) (ht:P.underlying t=some (.array n e)) (hsz:∀w,(sizeOf e).run P w=.ok 1 w):
  PY P s ⟨dst,.indexAddr t x y,ty,pos,after,guard⟩ (.loc h (i.toNat+off)):=fun _ cx μ a w hrel=>by
 have hv:=hrel.ev hx
 generalize e1:a.eval x=v at hv
 cases hv with
 | aC h=>cases h
 | loc _ _ b m hm=>
  refine⟨_,.loc h (i.toNat+off) b m hm,fun w'=>?_⟩
  simp[execOp,e1,hrel.val hy,Instr.indexAt,asIntOf,Instr.sureAddr,run_underlying ht,h0,hn,hsz,Addr.lf,Nat.add_comm]
theorem M3 {e:TypeId}{k k':IntKind}(he:P.underlying e=some (.int k')) (a b:Int) (d:Nat) (w:World):(Op.equalIn (d+1) e (.int k a) (.int k b)).run P w=.ok (a==b) w:=by
 simp[Op.equalIn,run_underlying he]
theorem qP {e:TypeId}(hag:∀w,(isAgg e).run P w=.ok false w){cs:Array Value}{i:Nat}{v:Value}(h:cs[i]?=some v) (w:World):(part e cs i).run P w=.ok v w:=by
 unfold part
 simp[hag,h]
theorem KJ {e:TypeId}{k:IntKind}(he:P.underlying e=some (.int k)) (w:World):(isAgg e).run P w=.ok false w:=by
 simp[isAgg,underlying,he]
theorem M4 {t e:TypeId}{n:Nat}{k k':IntKind}(ht:P.underlying t=some (.array n e)) (he:P.underlying e=some (.int k')) (hsz:∀w,(sizeOf e).run P w=.ok 1 w) (xs ys:List Int) (hx:xs.length=n) (hy:ys.length=n) (w:World):
  (Op.equal t (.agg (xs.map (Value.int k)).toArray) (.agg (ys.map (Value.int k)).toArray)).run P w=.ok (Dv xs ys) w:=by
 have key:∀d,(Op.equalIn (d+2) t (.agg (xs.map (Value.int k)).toArray) (.agg (ys.map (Value.int k)).toArray)).run P w=.ok (Dv xs ys) w:=fun d=>by
  rw[Op.equalIn]
  simp only[Sem.run_bind,run_underlying ht,Result.andThen_ok,hsz,kc]
  rw[Std.Legacy.Range.forIn_eq_forIn_range']
  have loop:∀(m i:Nat),i+m=n→Sem.run P (forIn (List.range' i m) ((none,()):Option Bool×Unit) fun i __s=>do
      let __do_lift ←part e (xs.map (Value.int k)).toArray i
      let __do_lift_1 ←part e (ys.map (Value.int k)).toArray i
      let __do_lift ←Op.equalIn (d+1) e __do_lift __do_lift_1
      if (!__do_lift)=true then pure (ForInStep.done (some false,())) else pure (ForInStep.yield (none,()))) w=.ok (if Dv (xs.drop i) (ys.drop i) then(none,()) else(some false,())) w:=by
   intro m
   induction m with
   | zero=>
    intro i h
    rw[List.drop_eq_nil_of_le (by omega),List.drop_eq_nil_of_le (by omega)]
    simp[Dv]
   | succ m ih=>
    intro i h
    have h1:i<xs.length:=by omega
    have h2:i<ys.length:=by omega
    have p1:=qP (P:=P) (KJ he) (cs:=(xs.map (Value.int k)).toArray) (i:=i) (v:=.int k xs[i]) (by simp[h1]) w
    have p2:=qP (P:=P) (KJ he) (cs:=(ys.map (Value.int k)).toArray) (i:=i) (v:=.int k ys[i]) (by simp[h2]) w
    rw[List.range'_succ,List.forIn_cons]
    simp only[Sem.run_bind,p1,p2,Result.andThen_ok,M3 he]
    rw[fc h1,fc h2]
    simp only[Dv]
    by_cases hb:xs[i]=ys[i]
    ·have e1:(xs[i]==ys[i])=true:=by simpa using hb
     simp only[e1,de,Bool.false_eq_true,if_false,Sem.run_pure,Result.andThen_ok,iL]
     exact ih (i+1) (by omega)
    ·have e1:(xs[i]==ys[i])=false:=by simpa using hb
     simp only[e1,eo,if_true,Sem.run_pure,Result.andThen_ok,Bool.false_and,Bool.false_eq_true,if_false]
  have:=loop n 0 (by omega)
  simp only[iN] at this
  have e0:([:n]:Std.Legacy.Range).size=n:=by simp[Std.Legacy.Range.size]
  rw[e0]
  show(Result.andThen (Sem.run P (forIn (List.range' 0 n 1) _ _) w) _)=_
  rw[this]
  cases Dv xs ys <;> simp
 exact key 9998
theorem PY.Va {t e t':TypeId}{n:Nat}{k k':IntKind}{x y:Operand}{xs ys:List Int}(hx:ev s x=some (.agg (xs.map fun a=>.val (.int k a)))) (hy:ev s y=some (.agg (ys.map fun a=>.val (.int k a)))) (ht:P.underlying t=some (.array n e)) (he:P.underlying e=some (.int k')) (hsz:∀w,(sizeOf e).run P w=.ok 1 w) (h1:xs.length=n) (h2:ys.length=n) (hgt:P.eqGuardType P.depth t=false):
  PY P s ⟨dst,.binOp .eql t x y t',ty,pos,after,guard⟩ (.val (.bool (Dv xs ys))):=fun N cx μ a w hr=>by
 have hv:∀{l:List Int}{v:Value},aM (cx.O s.st μ) cx.base w μ (.agg (l.map fun a=>.val (.int k a))) v→v=.agg (l.map (Value.int k)).toArray:=by
  intro l v h
  have aC:∀{O:Nat→Prop}{us:List Value},us.length=(l.map fun a=>G.val (.int k a)).length→(∀(j:Nat) (g:G) (v:Value),(l.map fun a=>G.val (.int k a))[j]?=some g→us[j]?=some v→g=.val v)→us=l.map (Value.int k):=by
   intro O us hl hr
   apply List.ext_getElem (by simpa using hl)
   intro j h1 h2
   have hjl:j<l.length:=by simpa using h2
   have:=hr j (.val (.int k l[j])) us[j] (by simp[hjl]) (av h1)
   rw[←G.val.inj this]
   simp
  cases h with
  | aC h=>
   cases h with
   | agg cells us hl hr=>rw[aC (O:=cx.O s.st μ) hl fun j g v hg hv=>by
     have:=hr j g v hg hv
     rw[ar] at hg
     obtain⟨a,_,rfl⟩:=ay.1 hg
     cases this
     rfl]
  | agg cells us hl hr=>rw[aC (O:=cx.O s.st μ) hl fun j g v hg hv=>by
     have:=hr j g v hg hv
     rw[ar] at hg
     obtain⟨a,_,rfl⟩:=ay.1 hg
     cases this with
     | aC h=>cases h;rfl]
 have q1:=hv (hr.ev hx)
 have q2:=hv (hr.ev hy)
 refine⟨_,.aC (.val _),fun w'=>?_⟩
 have h:=M4 (P:=P) (k:=k) ht he hsz xs ys h1 h2 w'
 have hg:(eqGuard .eql t x y (.agg (xs.map (Value.int k)).toArray) (.agg (ys.map (Value.int k)).toArray)).run P w'=.ok () w':=by simp[eqGuard,hgt]
 simp only[execOp,q1,q2,Sem.run_bind,hg,Result.andThen_ok]
 simp[binOp,h]
def Hk:Value→Value→Option Bool
 | .int k a,.int k' b=>match decEq k k' with
  | isTrue _=>some (a==b)
  | isFalse _=>none
 | .bool a,.bool b=>some (a==b)
 | .string a,.string b=>some (a==b)
 | _,_=>none
def xy (P:Program) (e:TypeId) (v:Value):Bool:=match P.underlying e with
 | some (.int _)=>match v with
  | .int _ _=>true
  | _=>false
 | some .bool=>match v with
  | .bool _=>true
  | _=>false
 | some .string=>match v with
  | .string _=>true
  | _=>false
 | _=>false
def EH (P:Program):List Field→List Value→List Value→Option Bool
 | [],_,_=>some true
 | f::r,us,vs=>match us[f.offset]?,vs[f.offset]? with
  | some u, some v => match f.name != "_" && (xy P f.type u && xy P f.type v) with
   | true=>match Hk u v with
    | some b=>match EH P r us vs with
     | some c=>some (b&&c)
     | none=>none
    | none=>none
   | false=>none
  | _,_=>none
theorem E5 {e:TypeId}{v:Value}(h:xy P e v=true) (w:World):(isAgg e).run P w=.ok false w:=by
 unfold xy at h
 split at h
 ·rename_i he;simp[isAgg,underlying,he]
 ·rename_i he;simp[isAgg,underlying,he]
 ·rename_i he;simp[isAgg,underlying,he]
 ·cases h
theorem K4 {e:TypeId}{u v:Value}{b:Bool}(hu:xy P e u=true) (hv:xy P e v=true) (h:Hk u v=some b) (d:Nat) (w:World):(Op.equalIn (d+1) e u v).run P w=.ok b w:=by
 unfold xy at hu hv
 unfold Hk at h
 split at h
 ·split at h
  ·rename_i e1 _
   subst e1
   cases h
   split at hu
   ·rename_i he;simp[Op.equalIn,run_underlying he]
   ·cases hu
   ·cases hu
   ·cases hu
  ·cases h
 ·cases h
  split at hu
  ·cases hu
  ·rename_i he;simp[Op.equalIn,run_underlying he]
  ·cases hu
  ·cases hu
 ·cases h
  split at hu
  ·cases hu
  ·cases hu
  ·rename_i he;simp[Op.equalIn,run_underlying he]
  ·cases hu
 ·cases h
theorem Pu {t:TypeId}{fs:Array Field}{us vs:List Value}{b:Bool}(ht:P.underlying t=some (.struct fs)) (hs:P.stoodInHeld t=false) (h:EH P fs.toList us vs=some b) (w:World):
  (Op.equal t (.agg us.toArray) (.agg vs.toArray)).run P w=.ok b w:=by
 have key:∀d,(Op.equalIn (d+2) t (.agg us.toArray) (.agg vs.toArray)).run P w=.ok b w:=fun d=>by
  rw[Op.equalIn]
  simp only[Sem.run_bind,run_underlying ht,Result.andThen_ok]
  have loop:∀(l:List Field) (b:Bool),EH P l us vs=some b→Sem.run P (forIn l ((none,()):Option Bool×Unit) fun f __s=>
     if f.name ≠ "_" then do
      let __do_lift ←part f.type us.toArray f.offset
      let __do_lift_1 ←part f.type vs.toArray f.offset
      let __do_lift ←Op.equalIn (d+1) f.type __do_lift __do_lift_1
      if (!__do_lift)=true then pure (ForInStep.done (some false,())) else pure (ForInStep.yield (none,()))
     else pure (ForInStep.yield (none,()))) w=.ok (if b then(none,()) else(some false,())) w:=by
   intro l
   induction l with
   | nil=>intro b h;cases h;simp
   | cons f r ih=>
    intro b h
    simp only[EH] at h
    split at h
    ·rename_i u v hu hv
     split at h
     ·rename_i hc
      simp only[ag,bne_iff_ne,ne_eq] at hc
      obtain⟨c0,c1,c2⟩:=hc
      split at h
      ·rename_i b1 hb1
       split at h
       ·rename_i c hc
        cases h
        have p1:=qP (P:=P) (E5 c1) (cs:=us.toArray) (i:=f.offset) (v:=u) (by simpa using hu) w
        have p2:=qP (P:=P) (E5 c2) (cs:=vs.toArray) (i:=f.offset) (v:=v) (by simpa using hv) w
        rw[List.forIn_cons]
        simp only[c0,ne_eq,not_false_eq_true,if_true,Sem.run_bind,p1,p2,Result.andThen_ok,K4 c1 c2 hb1]
        cases b1 with
        | false=>simp
        | true=>
         simp only[de,Bool.false_eq_true,if_false,Sem.run_pure,Result.andThen_ok,iL]
         exact ih c hc
       ·cases h
      ·cases h
     ·cases h
    ·cases h
  have:=loop fs.toList b h
  rw[show Sem.run P program w=.ok P w from rfl]
  simp only[Result.andThen_ok,hs,Bool.false_eq_true,if_false,Sem.run_bind]
  rw[Array.forIn_toList] at this
  rw[this]
  cases b <;> simp
 exact key 9998
theorem yI {O:Nat→Prop}{base:Nat}{μ:Mu}{w:World}{l:List Value}{v:Value}(h:aM O base w μ (.agg (l.map .val)) v):v=.agg l.toArray:=by
 have aC:∀{us:List Value},us.length=(l.map G.val).length→(∀(j:Nat) (g:G) (v:Value),(l.map G.val)[j]?=some g→us[j]?=some v→g=.val v)→us=l:=by
  intro us hl hr
  apply List.ext_getElem (by simpa using hl)
  intro j h1 h2
  have:=hr j (.val l[j]) us[j] (by simp[h2]) (av h1)
  rw[←G.val.inj this]
 cases h with
 | aC h=>
  cases h with
  | agg cells us hl hr=>rw[aC hl fun j g v hg hv=>by
    have:=hr j g v hg hv
    rw[ar] at hg
    obtain⟨a,_,rfl⟩:=ay.1 hg
    cases this
    rfl]
 | agg cells us hl hr=>rw[aC hl fun j g v hg hv=>by
    have:=hr j g v hg hv
    rw[ar] at hg
    obtain⟨a,_,rfl⟩:=ay.1 hg
    cases this with
    | aC h=>cases h;rfl]
theorem PY.Vw {t t':TypeId}{x y:Operand}{us vs:List Value}{fs:Array Field}{b:Bool}(hx:ev s x=some (.agg (us.map .val))) (hy:ev s y=some (.agg (vs.map .val))) (ht:P.underlying t=some (.struct fs)) (hs:P.stoodInHeld t=false) (hgt:P.eqGuardType P.depth t=false) (hb:EH P fs.toList us vs=some b):
  PY P s ⟨dst,.binOp .eql t x y t',ty,pos,after,guard⟩ (.val (.bool b))∧PY P s ⟨dst,.binOp .neq t x y t',ty,pos,after,guard⟩ (.val (.bool (!b))):=by
 have h:=Pu (P:=P) ht hs hb
 constructor
 ·intro N cx μ a w hr
  have q1:=yI (hr.ev hx)
  have q2:=yI (hr.ev hy)
  refine⟨_,.aC (.val _),fun w'=>?_⟩
  have hg:(eqGuard .eql t x y (.agg us.toArray) (.agg vs.toArray)).run P w'=.ok () w':=by simp[eqGuard,hgt]
  simp only[execOp,q1,q2,Sem.run_bind,hg,Result.andThen_ok]
  simp[binOp,h]
 ·intro N cx μ a w hr
  have q1:=yI (hr.ev hx)
  have q2:=yI (hr.ev hy)
  refine⟨_,.aC (.val _),fun w'=>?_⟩
  have hg:(eqGuard .neq t x y (.agg us.toArray) (.agg vs.toArray)).run P w'=.ok () w':=by simp[eqGuard,hgt]
  simp only[execOp,q1,q2,Sem.run_bind,hg,Result.andThen_ok]
  simp[binOp,h]
end
end Go.AM
