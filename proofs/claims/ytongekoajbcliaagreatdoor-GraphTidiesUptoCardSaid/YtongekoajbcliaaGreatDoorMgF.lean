/-
  AM, third part.
-/
import Derived.Test.YtongekoajbcliaaGreatDoorMgB
import Derived.Laws.CopyRow
import Derived.Laws.IdiomCopy
set_option linter.unusedSectionVars false
set_option linter.unusedSimpArgs false
set_option linter.unusedVariables false
/-
 AM,part BA:what a callee hands back of the blocks that were lent to it.
-/
namespace Go.AM
def iy:List (Nat×av)→Nat→Bool
 | [],_=>false
 | (j,_)::r,x=>Nat.beq j x||iy r x
theorem Qs {st:List (Nat×av)}{j:Nat}{k:av}(h:ay st j=some k):iy st j=true:=by
 induction st with
 | nil=>cases h
 | cons x r ih=>
  obtain⟨y,k'⟩:=x;simp only[ay,iy,eK] at h⊢;cases hb:Nat.beq y j with
  | true=>exact .inl rfl
  | false=>rw[hb] at h;exact .inr (ih h)
theorem DT {st:List (Nat×av)}{j:Nat}(h:iy st j=true):∃k,ay st j=some k:=by
 induction st with
 | nil=>cases h
 | cons x r ih=>
  obtain⟨y,k'⟩:=x;simp only[ay,iy,eK] at h⊢;cases hb:Nat.beq y j with
  | true=>exact⟨k',rfl⟩
  | false=>rw[hb] at h;exact ih (h.resolve_left (fun h=>by cases h))
def kj:List (Nat×av)→List Nat→Nat→Option Nat
 | (j,_)::r,h::hs,x=>bif Nat.beq j x then some h else kj r hs x
 | _,_,_=>none
def rL:List (Nat×av)→List Nat→Nat→Option Nat
 | (j,_)::r,h::hs,y=>bif Nat.beq h y then some j else rL r hs y
 | _,_,_=>none
def ez (vw:Bool) (f:Nat→Option Nat):G→Option G
 | .loc h off=>(f h).map fun x=>.loc x off
 | .aL h sz off m=>(f h).map fun x=>.aL x sz off m
 | .cW h=>(f h).map .cW
 | .eN h=>(f h).map .eN
 | .kp h i off=>(f h).map fun x=>.kp x i off
 | .ks h i sz n=>(f h).map fun x=>.ks x i sz n
 | .agg gs=>(go gs).map .agg
 | .bB gs=>(go gs).map .bB
 | .ba g gs=>(go gs).map (.ba g)
 | .val v=>some (.val v)
 | .dw b=>some (.dw b)
 | .fr g=>some (.fr g)
 | .sl n cs=>bif vw then none else some (.sl n cs)
 | .ptr cs=>bif vw then none else some (.ptr cs)
 | .any=>some .any
where go:List G→Option (List G)
 | []=>some []
 | g::r=>match ez vw f g,go r with
  | some g',some r'=>some (g'::r')
  | _,_=>none
theorem vJ {vw:Bool}{f:Nat→Option Nat}:∀{gs gs':List G},ez.go vw f gs=some gs'→gs'.length=gs.length∧∀(j:Nat) (g':G),gs'[j]?=some g'→∃g,gs[j]?=some g∧ez vw f g=some g'
 | [],_,h=>by cases h;exact⟨rfl,fun j g h=>by simp at h⟩
 | g::r,gs',h=>by
  simp only[ez.go] at h;cases h1:ez vw f g with
  | none=>rw[h1] at h;cases h
  | some g1=>
   rw[h1] at h;cases h2:ez.go vw f r with
   | none=>rw[h2] at h;cases h
   | some r1=>
    rw[h2] at h;cases h;obtain⟨h3,h4⟩:=vJ h2;refine⟨by simp[h3],fun j g' hg'=>?_⟩;cases j with
    | zero=>cases hg';exact⟨g,rfl,h1⟩
    | succ j=>exact h4 j g' hg'
def vV (vw:Bool) (f:Nat→Option Nat) (k:av):Option av:=
 bif k.pure then bif vw&&!k.fresh then none else some k else match ez.go vw f k.cells with
  | some cs=>some {k with cells:=cs}
  | none=>none
def sq:Option Kd→Bool
 | some (.loop _)=>true
 | _=>false
def B4 (st:List (Nat×av)) (h:Nat):Bool:=match ay st h with
 | some k=>k.ew
 | none=>false
def kz (st st':List (Nat×av)):List Nat→Nat→Bool
 | [],_=>true
 | h::r,i=>(match ay st h with
  | some k=>k.ew||(sq k.lp&&iy st' (1000+i))
  | none=>false)&&kz st st' r (i+1)
theorem Gb {st st':List (Nat×av)}:∀{r:List Nat}{i:Nat},kz st st' r i=true→∀{n h:Nat}{k:av},r[n]?=some h→ay st h=some k→k.ew=true∨iy st' (1000+(i+n))=true
 | [],_,_,_,_,_,e,_=>by cases e
 | x::r,i,ha,n,h,k,e,hk=>by
  simp only[kz,af] at ha;cases n with
  | zero=>
   cases e;rw[hk] at ha;simp only[eK,af] at ha;rcases ha.1 with h1 | h1
   ·exact .inl h1
   ·exact .inr h1.2
  | succ n=>
   have:=Gb ha.2 (n:=n) (by simpa using e) hk;rw[show i+1+n=i+(n+1) by omega] at this;exact this
def pz (A:Bool) (st:List (Nat×av)) (j h:Nat) (lp:Option Kd) (k:av):av:=bif sq lp then k else bif pinned j then {k with ew:=B4 st h} else {k with ew:=k.ew||A}
def lK (vw:Bool) (f:Nat→Option Nat) (A:Bool) (st:List (Nat×av)):List (Nat×av)→List Nat→Option (List (Nat×av))
 | [],[]=>some []
 | (j,k)::r,h::hs=>match vV vw f k,lK vw f A st r hs with
  | some k',some r'=>some ((h,pz A st j h k.lp k')::r')
  | _,_=>none
 | _,_=>none
def Wm (H:List Nat) (i h:Nat):Bool:=match H[i]? with
 | some x=>Nat.beq x h
 | none=>false
theorem SQ {H:List Nat}{i h:Nat}(e:Wm H i h=true):H[i]?=some h:=by
 unfold Wm at e;cases hx:H[i]? with
 | none=>rw[hx] at e;cases e
 | some x=>rw[hx] at e;rw[ab e]
def qp (s:St) (H:List Nat):List (Nat×av)→List Nat→Bool
 | [],[]=>true
 | (j,_)::r,h::hs=>!(iy r j)&&(!(hs.contains h)&&((bif pinned j then Wm H (j-1000) h else Nat.blt h 1000&&((dD H h).isSome||fresh s h))&&qp s H r hs))
 | _,_=>false
def eM (st':List (Nat×av)):List Nat→Nat→List Nat
 | [],_=>[]
 | h::r,i=>bif iy st' (1000+i) then eM st' r (i+1) else h::eM st' r (i+1)
theorem Ct {st':List (Nat×av)}:∀{r:List Nat}{i h:Nat},h∈r→h∉eM st' r i→∃n,r[n]?=some h∧iy st' (1000+(i+n))=true
 | [],_,_,hm,_=>by cases hm
 | x::r,i,h,hm,hn=>by
  simp only[eM] at hn;cases hb:iy st' (1000+i) with
  | true=>
   rw[hb] at hn;rcases bf.1 hm with rfl | hm
   ·exact⟨0,rfl,hb⟩
   ·obtain⟨n,h1,h2⟩:=Ct hm hn;exact⟨n+1,h1,by rw[show 1000+(i+(n+1))=1000+(i+1+n) by omega];exact h2⟩
  | false=>
   rw[hb] at hn;simp only[cond_false,bf,not_or] at hn;rcases bf.1 hm with rfl | hm
   ·exact absurd rfl hn.1
   ·obtain⟨n,h1,h2⟩:=Ct hm hn.2;exact⟨n+1,h1,by rw[show 1000+(i+(n+1))=1000+(i+1+n) by omega];exact h2⟩
def rk:List Nat→G→Bool
 | [],_=>false
 | h::r,g=>g.cv h||rk r g
theorem AX:∀{ds:List Nat}{g:G},rk ds g=false→∀h∈ds,g.cv h=false
 | [],_,_,_,h=>by cases h
 | x::r,g,e,h,hm=>by
  simp only[rk,bi] at e;rcases bf.1 hm with rfl | hm
  ·exact e.1
  ·exact AX e.2 h hm
def tZ (ds:List Nat) (g:G):G:=bif rk ds g then .any else g
def oA (ds:List Nat):List (Nat×G)→List (Nat×G)
 | []=>[]
 | (t,g)::r=>(t,tZ ds g)::oA ds r
def oV (ds:List Nat) (k:av):av:=bif k.pure then k else {k with cells:=k.cells.map (tZ ds)}
def eD (ds:List Nat):List (Nat×av)→List (Nat×av)
 | []=>[]
 | (h,k)::r=>(h,oV ds k)::eD ds r
theorem Qz {ds:List Nat}{fr:List (Nat×G)}{t:Nat}{g:G}(hg:get (oA ds fr) t=some g):∃g0,get fr t=some g0∧g=tZ ds g0:=by
 induction fr with
 | nil=>cases hg
 | cons x r ih=>
  obtain⟨k,g'⟩:=x;simp only[oA,iS] at hg⊢;cases hb:Nat.beq k t with
  | true=>rw[hb] at hg;cases hg;exact⟨g',rfl,rfl⟩
  | false=>rw[hb] at hg;exact ih hg
theorem NJ {ds:List Nat}{st:List (Nat×av)}{t:Nat}{k:av}(hg:ay (eD ds st) t=some k):∃k0,ay st t=some k0∧k=oV ds k0:=by
 induction st with
 | nil=>cases hg
 | cons x r ih=>
  obtain⟨y,k'⟩:=x;simp only[eD,rr] at hg⊢;cases hb:Nat.beq y t with
  | true=>rw[hb] at hg;cases hg;exact⟨k',rfl,rfl⟩
  | false=>rw[hb] at hg;exact ih hg
theorem Av {O:Nat→Prop}{base:Nat}{w:World}{μ μ':Mu}{ds:List Nat}{g:G}{v:Value}(hv:aU O base w μ g v) (hμ:∀k,k∉ds→g.cv k=true→Ext (μ k) (μ' k)):aU O base w μ' (tZ ds g) v:=by
 unfold tZ;cases hh:rk ds g with
 | true=>exact .aF (.any _)
 | false=>exact hv.qA fun k hk=>hμ k (fun hm=>by rw[AX hh k hm] at hk;cases hk) hk
theorem aV.dead {O:Nat→Prop}{base:Nat}{w:World}{μ μ':Mu}{k:av}{x:Option (Nat×Mm)}(hb:aV O base w μ k x) (ds:List Nat) (hμ:k.pure=false→∀g∈k.cells,∀y,y∉ds→g.cv y=true→Ext (μ y) (μ' y)):aV O base w μ' (oV ds k) x:=by
 unfold oV;cases hp:k.pure with
 | true=>exact hb.gS fun hp'=>by rw[hp] at hp';cases hp'
 | false=>
  have hμ:=hμ hp;simp only[cond_false];cases x with
  | none=>
   obtain⟨h1,h2⟩:=hb;refine⟨by simp[h1],?_⟩;dsimp only;split at h2
   ·trivial
   ·exact h2.elim
   ·rw[hp] at h2;cases h2.2
  | some bm=>
   obtain⟨b,m⟩:=bm;cases hl:k.lp with
   | none=>
    obtain⟨cs1,h4,h5,h6,h7,h8,h9⟩:=hb.cells hl;refine .mk rfl (hb.nf hl) ⟨cs1,h4,h5,by simpa using h6,h7,h8,fun j g hg=>?_⟩;dsimp only at hg;rw[ak] at hg;cases hg0:k.cells[j]? with
    | none=>rw[hg0] at hg;cases hg
    | some g0=>
     rw[hg0] at hg;cases hg;obtain⟨v,hv,hrv⟩:=h9 j g0 hg0;refine⟨v,hv,?_⟩;unfold cZ at hrv⊢;rw[hp] at hrv;simp only;exact Av hrv (hμ g0 (aj hg0))
   | some kd=>
    cases kd with
    | deep d=>have:=((aV.deep hl).1 hb).2.1;rw[hp] at this;cases this
    | loop lp=>
     obtain⟨D,vs,h1,h2,h3,h4,h5⟩:=(aV.loop hl).1 hb;refine(aV.loop rfl).2 ⟨D,vs,h1,h2,h3,rfl,fun j t g ht hg=>?_⟩;dsimp only at hg;rw[ak] at hg;cases hg0:k.cells[j]? with
     | none=>rw[hg0] at hg;cases hg
     | some g0=>
      rw[hg0] at hg;cases hg;obtain⟨v,hv,hrv⟩:=h5 j t g0 ht hg0;exact⟨v,hv,Av hrv (hμ g0 (aj hg0))⟩
def qc (vw:Bool) (s:St) (H:List Nat) (st':List (Nat×av)) (bk:List Nat):Option St:=
 bif qp s H st' bk&&s.df.all (fun g=>!(rk (eM st' H 0) g)) then match lK vw (kj st' bk) (kz s.st st' H 0) s.st st' bk with
  | some sb=>some {fr:=oA (eM st' H 0) s.fr,st:=sb++eD (eM st' H 0) (gd H s.st),df:=s.df}
  | none=>none
 else none
theorem NK {a b:List (Nat×av)}{h:Nat}:ay (a++b) h=(ay a h).or (ay b h):=by
 induction a with
 | nil=>rfl
 | cons x r ih=>
  obtain⟨y,k⟩:=x;simp only[bU,ay];cases Nat.beq y h with
  | true=>rfl
  | false=>exact ih
theorem Hn {vw A:Bool}{f:Nat→Option Nat}{st:List (Nat×av)}{s:St}{H:List Nat}:∀{st':List (Nat×av)}{bk:List Nat}{sb:List (Nat×av)},lK vw f A st st' bk=some sb→qp s H st' bk=true→
  ∀{h:Nat}{k2:av},ay sb h=some k2→∃j k' k1,ay st' j=some k'∧rL st' bk h=some j∧vV vw f k'=some k1∧k2=pz A st j h k'.lp k1
 | [],[],_,e,_,_,_,hg=>by cases e;cases hg
 | [],_::_,_,e,_,_,_,_=>by cases e
 | _::_,[],_,e,_,_,_,_=>by cases e
 | (j,k)::r,x::hs,sb,e,ok,h,k2,hg=>by
  simp only[lK] at e;cases h1:vV vw f k with
  | none=>rw[h1] at e;cases e
  | some k1=>
   rw[h1] at e;cases h2:lK vw f A st r hs with
   | none=>rw[h2] at e;cases e
   | some r'=>
    rw[h2] at e;cases e;simp only[qp,af,aS] at ok;obtain⟨o1,o2,o3,o4⟩:=ok;simp only[ay] at hg;cases hb:Nat.beq x h with
    | true=>
     rw[hb] at hg;cases hg;have:=ab hb;subst this;exact⟨j,k,k1,dU _ _ _,by simp only[rL,aW,cond_true],h1,rfl⟩
    | false=>
     rw[hb] at hg;obtain⟨j',k',k1',q1,q2,q3,q4⟩:=Hn h2 o4 hg;refine⟨j',k',k1',?_,by simp only[rL,hb,cond_false];exact q2,q3,q4⟩;rw[aB _ _ (fun e=>by subst e;rw[Qs q1] at o1;cases o1)];exact q1
theorem ol {s:St}{H:List Nat}:∀{st':List (Nat×av)}{bk:List Nat},qp s H st' bk=true→∀{h j:Nat},rL st' bk h=some j→
  iy st' j=true∧h∈bk∧kj st' bk j=some h∧((pinned j=true∧H[j-1000]?=some h)∨(pinned j=false∧Nat.blt h 1000=true∧(h∈H∨fresh s h=true)))
 | [],[],_,_,_,e=>by cases e
 | [],_::_,ok,_,_,_=>by cases ok
 | _::_,[],ok,_,_,_=>by cases ok
 | (j,k)::r,x::hs,ok,h,j',e=>by
  simp only[qp,af,aS] at ok;obtain⟨o1,o2,o3,o4⟩:=ok;simp only[rL] at e;cases hb:Nat.beq x h with
  | true=>
   rw[hb] at e;cases e;have:=ab hb;subst this;refine⟨by simp[iy,aW],ar,by simp only[kj,aW,cond_true],?_⟩;cases hp:pinned j with
   | true=>rw[hp] at o3;exact .inl ⟨rfl,SQ o3⟩
   | false=>
    rw[hp] at o3;simp only[cond_false,af,eK] at o3;refine .inr ⟨rfl,o3.1,o3.2.imp (fun h=>?_) id⟩;obtain⟨i,hi⟩:=Option.isSome_iff_exists.1 h;exact nY (eY hi)
  | false=>
   rw[hb] at e;obtain⟨q1,q2,q3,q4⟩:=ol o4 e;refine⟨by simp[iy,q1],ap _ q2,?_,q4⟩;simp only[kj];have:Nat.beq j j'=false:=by
    cases hb2:Nat.beq j j' with
    | false=>rfl
    | true=>have:=ab hb2;subst this;rw[q1] at o1;cases o1
   rw[this];exact q3
theorem IS {s:St}{H:List Nat}:∀{st':List (Nat×av)}{bk:List Nat},qp s H st' bk=true→∀{j h:Nat},kj st' bk j=some h→h∈bk∧rL st' bk h=some j
 | [],[],_,_,_,e=>by cases e
 | [],_::_,ok,_,_,_=>by cases ok
 | _::_,[],ok,_,_,_=>by cases ok
 | (j,k)::r,x::hs,ok,j',h,e=>by
  simp only[qp,af,aS] at ok;obtain⟨o1,o2,o3,o4⟩:=ok;simp only[kj] at e;cases hb:Nat.beq j j' with
  | true=>
   rw[hb] at e;cases e;have:=ab hb;subst this;exact⟨ar,by simp only[rL,aW,cond_true]⟩
  | false=>
   rw[hb] at e;obtain⟨q1,q2⟩:=IS o4 e;refine⟨ap _ q1,?_⟩;simp only[rL];have:Nat.beq x h=false:=by
    cases hb2:Nat.beq x h with
    | false=>rfl
    | true=>have:=ab hb2;subst this;simp at o2;exact absurd q1 o2
   rw[this];exact q2
theorem Pa {s:St}{H:List Nat}:∀{st':List (Nat×av)}{bk:List Nat},qp s H st' bk=true→∀{j:Nat},iy st' j=true→∃h,kj st' bk j=some h
 | [],[],_,_,e=>by cases e
 | [],_::_,ok,_,_=>by cases ok
 | _::_,[],ok,_,_=>by cases ok
 | (j,k)::r,x::hs,ok,j',e=>by
  simp only[qp,af,aS] at ok;simp only[iy,eK] at e;simp only[kj];cases hb:Nat.beq j j' with
  | true=>exact⟨x,rfl⟩
  | false=>rw[hb] at e;exact Pa ok.2.2.2 (e.resolve_left fun h=>by cases h)
def kg (μ μ'':Mu) (st':List (Nat×av)) (bk:List Nat):Mu:=fun y=>match rL st' bk y with
 | some j=>μ'' j
 | none=>μ y
section
variable {P:Program}{N:Nat}{cx:Cx}{s:St}
theorem wL {a:Act}{w w':World}{μ μ'':Mu}{H:List Nat}{vw:Bool}{ei st':List (Nat×av)}{bk:List Nat}{s2:St}(hr:Rel N cx μ s a w) (hls:gz H (ft s.st H vw) s.st H 0=some ei) (_hnd:H.Nodup)
  (hC:cI (jc (j6 cx s.st μ H vw) ei (kf H μ) w) μ'' st' w') (hb:qc vw s H st' bk=some s2):
  Rel N cx (kg μ μ'' st' bk) s2 a w'∧
  (∀g g' v,aU ((jc (j6 cx s.st μ H vw) ei (kf H μ) w).O st' μ'') w.heap.size w' μ'' g v→ez vw (kj st' bk) g=some g'→aU (cx.O s2.st (kg μ μ'' st' bk)) cx.base w' (kg μ μ'' st' bk) g' v)∧
  (∀W:List Nat,(∀h∈H,h∈W)→Step W s.st μ s2.st (kg μ μ'' st' bk) w w')∧(∀y,y∈H→y∉eM st' H 0→Ext (μ y) (kg μ μ'' st' bk y)):=by
 unfold qc at hb;cases hok:qp s H st' bk&&s.df.all (fun g=>!(rk (eM st' H 0) g)) with
 | false=>rw[hok] at hb;cases hb
 | true=>
 rw[hok,cond_true] at hb;simp only[af] at hok;obtain⟨hok,hdf⟩:=hok;cases hbs:lK vw (kj st' bk) (kz s.st st' H 0) s.st st' bk with
 | none=>rw[hbs] at hb;cases hb
 | some sb=>
 rw[hbs] at hb;cases hb;have hst:=hr.st;have alive:∀y,y∉eM st' H 0→(rL st' bk y=none∨y∈H∨fresh s y=false)→Ext (μ y) (kg μ μ'' st' bk y):=by
  intro y hy hn;unfold kg
  by_cases hyH:y∈H
  ·obtain⟨n,e1,e2⟩:=Ct hyH hy;rw[da] at e2;obtain⟨h',e3⟩:=Pa hok e2;obtain⟨_,e4⟩:=IS hok e3;have e5:=(ol hok e4).2.2.2;have e6:h'=y:=by
    rcases e5 with ⟨_,e5⟩ | ⟨e5,_⟩
    ·rw[show 1000+n-1000=n by omega,e1] at e5;exact(dV e5).symm
    ·rw[sa] at e5;cases e5
   subst e6;rw[e4];obtain⟨k,hk⟩:=DT e2;have:=(hC.fD _ k hk (sa n)).ext;simp only;rw[←kc (μ:=μ) e1];exact this
  ·cases hI:rL st' bk y with
   | none=>exact .inl rfl
   | some j=>
    rcases(ol hok hI).2.2.2 with ⟨_,e⟩ | ⟨_,_,e | e⟩
    ·exact absurd (nY e) hyH
    ·exact absurd e hyH
    ·rcases hn with hn | hn | hn
     ·rw[hI] at hn;cases hn
     ·exact absurd hn hyH
     ·rw[hn] at e;cases e
 have notfr:∀y t g,get s.fr t=some g→g.cv y=true→fresh s y=false:=by
  intro y t g hg hh;cases hf:fresh s y with
  | false=>rfl
  | true=>rw[mX (gr hf).2.1 hg] at hh;cases hh
 have notst:∀y x k g,ay s.st x=some k→k.pure=false→g∈k.cells→g.cv y=true→fresh s y=false:=by
  intro y x k g hk hp hg hh;cases hf:fresh s y with
  | false=>rfl
  | true=>rw[sY (gr hf).2.2.1 hk hp hg] at hh;cases hh
 have hsz:w.heap.size≤w'.heap.size:=hC.hb;have hkeep:∀b,b<w.heap.size→¬Own ei (kf H μ) b→w'.heap[b]?=w.heap[b]?:=fun b hb hn=>hC.dq b hb hn;have hown:∀b,Own ei (kf H μ) b→Own s.st μ b:=fun b ho=>by obtain⟨i,h,k,c,m,_,h2,h3,hi⟩:=jR hls ho;exact⟨h,k,c,m,h2,h3,hi⟩
 have hkept:Kept (cx.O s.st μ) w w':=⟨hsz,fun b hb hn=>hkeep b hb fun ho=>hn (.inr (hown b ho))⟩;have row:∀y k2,ay (sb++eD (eM st' H 0) (gd H s.st)) y=some k2→
   (∃j k' k1,ay st' j=some k'∧rL st' bk y=some j∧vV vw (kj st' bk) k'=some k1∧k2=pz (kz s.st st' H 0) s.st j y k'.lp k1)∨
   (rL st' bk y=none∧∃k0,dD H y=none∧ay s.st y=some k0∧k2=oV (eM st' H 0) k0):=by
  intro y k2 h;rw[NK] at h;cases hs:ay sb y with
  | some k3=>
   rw[hs] at h;cases h;exact .inl (Hn hbs hok hs)
  | none=>
   rw[hs,Option.none_or] at h;obtain⟨k0,h1,h2⟩:=NJ h;obtain⟨h3,h4⟩:=ul h1;refine .inr ⟨?_,k0,h3,h4,h2⟩;cases hI:rL st' bk y with
   | none=>rfl
   | some j=>
    rcases(ol hok hI).2.2.2 with ⟨_,e⟩ | ⟨_,_,e | e⟩
    ·exact absurd (nY e) (pH h3)
    ·exact absurd e (pH h3)
    ·rw[(gr e).1] at h4;cases h4
 have notdead:∀{y},dD H y=none→y∉eM st' H 0:=by
  intro y hy hm;have:∀(r:List Nat) (i:Nat),y∈eM st' r i→y∈r:=by
   intro r
   induction r with
   | nil=>intro i h;cases h
   | cons x r ih=>
    intro i h;simp only[eM] at h;cases hb:iy st' (1000+i) with
    | true=>rw[hb] at h;exact ap _ (ih _ h)
    | false=>
     rw[hb] at h;rcases bf.1 h with rfl | h
     ·exact ar
     ·exact ap _ (ih _ h)
  exact pH hy (this H 0 hm)
 have whr:∀y k2 b m,ay (sb++eD (eM st' H 0) (gd H s.st)) y=some k2→kg μ μ'' st' bk y=some (b,m)→
   (∃j k',rL st' bk y=some j∧ay st' j=some k'∧μ'' j=some (b,m))∨(rL st' bk y=none∧dD H y=none∧∃k0,ay s.st y=some k0∧μ y=some (b,m)):=by
  intro y k2 b m h1 h2;rcases row y k2 h1 with ⟨j,k',k1,e1,e2,_,_⟩ | ⟨e0,k0,e1,e2,_⟩
  ·left;refine⟨j,k',e2,e1,?_⟩;unfold kg at h2;rw[e2] at h2;exact h2
  ·right;refine⟨e0,e1,k0,e2,?_⟩;unfold kg at h2;rw[e0] at h2;exact h2
 have hO2:∀b,cx.O (sb++eD (eM st' H 0) (gd H s.st)) (kg μ μ'' st' bk) b→cx.X b∨Own st' μ'' b∨Own (gd H s.st) μ b:=by
  rintro b (ho | ⟨y,k2,c,m,h1,h2,hi⟩)
  ·exact .inl ho
  ·rcases whr y k2 c m h1 h2 with ⟨j,k',e1,e2,e3⟩ | ⟨e0,e1,k0,e2,e3⟩
   ·exact .inr (.inl ⟨j,k',c,m,e2,e3,hi⟩)
   ·exact .inr (.inr ⟨y,k0,c,m,zH e1 e2,e3,hi⟩)
 have outlt:∀b,Own (gd H s.st) μ b→b<w.heap.size:=fun b ho=>by
  obtain⟨h,k,c,m,_,h2,h3,hi⟩:=yH ho;exact qC hst ⟨h,k,c,m,h2,h3,hi⟩
 have hOO:∀b,b<w.heap.size→¬cx.O s.st μ b→¬cx.O (sb++eD (eM st' H 0) (gd H s.st)) (kg μ μ'' st' bk) b:=by
  intro b hb hn ho;rcases hO2 b ho with ho | ⟨j,k',c,m,h1,h2,hi⟩ | ho
  ·exact hn (.inl ho)
  ·rcases(hC.cq j k' c m b h1 h2 hi).2.1 with h3 | h3
   ·exact absurd hb (by show ¬b<w.heap.size;exact Nat.not_lt.2 h3)
   ·exact hn (.inr (hown b h3))
  ·obtain⟨h,k,c,m,_,h2,h3,hi⟩:=yH ho;exact hn (.inr ⟨h,k,c,m,h2,h3,hi⟩)
 have impO:∀(f:Bool),(vw=true→f=true)→∀{b},(bif f then ir (cx.O (sb++eD (eM st' H 0) (gd H s.st)) (kg μ μ'' st' bk)) cx.base else cx.O (sb++eD (eM st' H 0) (gd H s.st)) (kg μ μ'' st' bk)) b→
   (bif f then ir ((jc (j6 cx s.st μ H vw) ei (kf H μ) w).O st' μ'') w.heap.size else(jc (j6 cx s.st μ H vw) ei (kf H μ) w).O st' μ'') b:=by
  intro f hf b ho;have key:∀{b},cx.O (sb++eD (eM st' H 0) (gd H s.st)) (kg μ μ'' st' bk) b→(vw=false∨w.heap.size≤b)→(jc (j6 cx s.st μ H vw) ei (kf H μ) w).O st' μ'' b:=by
   intro b ho hv;rcases hO2 b ho with ho | ho | ho
   ·exact .inl (.inl ho)
   ·exact .inr ho
   ·rcases hv with hv | hv
    ·exact .inl (.inr ⟨hv,ho⟩)
    ·have:=outlt b ho;omega
  cases f with
  | false=>exact key ho (.inl (by cases vw with | false=>rfl | true=>cases hf rfl))
  | true=>
   rcases ho with ho | ho
   ·exact .inl (by have:=hst.hb;show b<w.heap.size;omega)
   ·by_cases hlt:b<w.heap.size
    ·exact .inl hlt
    ·exact .inr (key ho (.inr (by omega)))
 have impo:∀(f:Bool){g:G}{v:Value},(vw=true→f=true)→bH (bif f then ir ((jc (j6 cx s.st μ H vw) ei (kf H μ) w).O st' μ'') w.heap.size else(jc (j6 cx s.st μ H vw) ei (kf H μ) w).O st' μ'') w' g v→
   bH (bif f then ir (cx.O (sb++eD (eM st' H 0) (gd H s.st)) (kg μ μ'' st' bk)) cx.base else cx.O (sb++eD (eM st' H 0) (gd H s.st)) (kg μ μ'' st' bk)) w' g v:=by
  intro f g v hf h;exact h.mono (Kept.refl _ _) fun b _ hn ho=>hn (impO f hf ho)
 have mw:∀{g g':G}{v:Value},aU ((jc (j6 cx s.st μ H vw) ei (kf H μ) w).O st' μ'') w.heap.size w' μ'' g v→ez vw (kj st' bk) g=some g'→
   aU (cx.O (sb++eD (eM st' H 0) (gd H s.st)) (kg μ μ'' st' bk)) cx.base w' (kg μ μ'' st' bk) g' v:=by
  intro g g' v hv hg;have hmu:∀{j h},kj st' bk j=some h→kg μ μ'' st' bk h=μ'' j:=by
   intro j h e;unfold kg;rw[(IS hok e).2]
  have aF:∀{g:G}{v:Value},bH ((jc (j6 cx s.st μ H vw) ei (kf H μ) w).O st' μ'') w' g v→∀{g'},ez vw (kj st' bk) g=some g'→
    aU (cx.O (sb++eD (eM st' H 0) (gd H s.st)) (kg μ μ'' st' bk)) cx.base w' (kg μ μ'' st' bk) g' v:=by
   intro g v h
   induction h with
   | any v=>intro g' hg;cases hg;exact .aF (.any _)
   | val v=>intro g' hg;cases hg;exact .aF (.val _)
   | dw b v h=>intro g' hg;cases hg;exact .aF (.dw b v h)
   | nil=>
    intro g' hg;simp only[ez] at hg;cases vw with
    | true=>cases hg
    | false=>cases hg;exact .aF .nil
   | jb a c=>
    intro g' hg;simp only[ez] at hg;cases vw with
    | true=>cases hg
    | false=>cases hg;exact .aF (.jb a c)
   | sl n cells b off cap us h1 h2 h3 h4 h5 ih=>
    intro g' hg;simp only[ez] at hg;cases hvw:vw with
    | true=>rw[hvw] at hg;cases hg
    | false=>rw[hvw] at hg;cases hg;exact .aF (impo false (fun h=>by rw[hvw] at h;cases h) (.sl n cells b off cap us h1 h2 h3 h4 h5))
   | ptr cells b off us h1 h2 h3 h4 ih=>
    intro g' hg;simp only[ez] at hg;cases hvw:vw with
    | true=>rw[hvw] at hg;cases hg
    | false=>rw[hvw] at hg;cases hg;exact .aF (impo false (fun h=>by rw[hvw] at h;cases h) (.ptr cells b off us h1 h2 h3 h4))
   | agg cells us hl hr ih=>
    intro g' hg;simp only[ez,az] at hg;obtain⟨gs',h1,rfl⟩:=hg;obtain⟨h2,h3⟩:=vJ h1;refine .agg gs' us (by omega) fun j g v hg hv=>?_;obtain⟨g0,h4,h5⟩:=h3 j g hg;exact ih j g0 v h4 hv h5
  induction hv generalizing g' with
  | aF h=>exact aF h hg
  | fr h=>cases hg;exact .fr (impo true (fun _=>rfl) h)
  | loc h off b m hm=>
   simp only[ez,az] at hg;obtain⟨x,h1,rfl⟩:=hg;exact .loc x off b m (by rw[hmu h1];exact hm)
  | gk h sz hm=>
   simp only[ez,az] at hg;obtain⟨x,h1,rfl⟩:=hg;exact .gk x sz (by rw[hmu h1];exact hm)
  | aL h sz off n b m cap hm hn hc=>
   simp only[ez,az] at hg;obtain⟨x,h1,rfl⟩:=hg;exact .aL x sz off n b m cap (by rw[hmu h1];exact hm) hn hc
  | fq h sz off0 b m hm hpos=>
   simp only[ez,az] at hg;obtain⟨x,h1,rfl⟩:=hg;exact .fq x sz off0 b m (by rw[hmu h1];exact hm) hpos
  | agg cells us hl hr ih=>
   simp only[ez,az] at hg;obtain⟨gs',h1,rfl⟩:=hg;obtain⟨h2,h3⟩:=vJ h1;refine .agg gs' us (by omega) fun j g v hg hv=>?_;obtain⟨g0,h4,h5⟩:=h3 j g hg;exact ih j g0 v h4 hv h5
  | bB cells us hl hr ih=>
   simp only[ez,az] at hg;obtain⟨gs',h1,rfl⟩:=hg;obtain⟨h2,h3⟩:=vJ h1;refine .bB gs' us (by omega) fun j g v hg hv=>?_;obtain⟨g0,h4,h5⟩:=h3 j g hg;exact ih j g0 v h4 hv h5
  | ba f caps us hl hr ih=>
   simp only[ez,az] at hg;obtain⟨gs',h1,rfl⟩:=hg;obtain⟨h2,h3⟩:=vJ h1;refine .ba f gs' us (by omega) fun j g v hg hv=>?_;obtain⟨g0,h4,h5⟩:=h3 j g hg;exact ih j g0 v h4 hv h5
  | cW h b m hm=>
   simp only[ez,az] at hg;obtain⟨x,h1,rfl⟩:=hg;exact .cW x b m (by rw[hmu h1];exact hm)
  | eN h b m hm=>
   simp only[ez,az] at hg;obtain⟨x,h1,rfl⟩:=hg;exact .eN x b m (by rw[hmu h1];exact hm)
  | kp h i off b m c n hm hk=>
   simp only[ez,az] at hg;obtain⟨x,h1,rfl⟩:=hg;exact .kp x i off b m c n (by rw[hmu h1];exact hm) hk
  | mh h i sz a cap hb=>
   simp only[ez,az] at hg;obtain⟨x,h1,rfl⟩:=hg;exact .mh x i sz a cap hb
  | ks h i sz n b m c k cap hm hk hn hc=>
   simp only[ez,az] at hg;obtain⟨x,h1,rfl⟩:=hg;exact .ks x i sz n b m c k cap (by rw[hmu h1];exact hm) hk hn hc
 have hmineA:∀{j y:Nat}{k' k1 k2:av},ay st' j=some k'→rL st' bk y=some j→vV vw (kj st' bk) k'=some k1→k2=pz (kz s.st st' H 0) s.st j y k'.lp k1→
   ∀b m x,μ'' j=some (b,m)→In x b m→k2.ew=true→cx.base≤x:=by
  intro j y k' k1 k2 e1 e2 e3 e4 b m x hm hi hk2;have hk1:k1.ew=k'.ew:=by
   unfold vV at e3;cases hpp:k'.pure with
   | true=>
    rw[hpp,cond_true] at e3;cases hvf:(vw&&!k'.fresh) with
    | true=>rw[hvf] at e3;cases e3
    | false=>rw[hvf] at e3;cases e3;rfl
   | false=>
    rw[hpp,cond_false] at e3;cases hgo:ez.go vw (kj st' bk) k'.cells with
    | none=>rw[hgo] at e3;cases e3
    | some cs=>rw[hgo] at e3;cases e3;rfl
  have own:k'.ew=true→cx.base≤x:=fun h=>by
   have:w.heap.size≤x:=(hC.cq j k' b m x e1 hm hi).2.2.2 h;have:=hst.hb;omega
  unfold pz at e4;cases hl:sq k'.lp with
  | true=>
   rw[hl,cond_true] at e4;subst e4;exact own (hk1▸hk2)
  | false=>
  rw[hl,cond_false] at e4;cases hp:pinned j with
  | true=>
   rw[hp,cond_true] at e4;subst e4;simp only[B4] at hk2;have hH:H[j-1000]?=some y:=by
    rcases(ol hok e2).2.2.2 with ⟨_,e⟩ | ⟨e,_⟩
    ·exact e
    ·rw[hp] at e;cases e
   have hpin:=hC.fD j k' e1 hp;have hj:1000≤j:=fK hp;have hmy:wP w.heap.size (μ y) (μ'' j):=by
    have:=kc (μ:=μ) hH;rw[show 1000+(j-1000)=j by omega] at this;rw[←this];exact hpin
   cases hky:ay s.st y with
   | none=>rw[hky] at hk2;cases hk2
   | some k0=>
    rw[hky] at hk2;rcases hmy.YI hm hi with h | ⟨m0,h1,h2⟩
    ·have:=hst.hb;omega
    ·exact(hst.cq y k0 b m0 x hky h1 h2).2.2.2 hk2
  | false=>
   rw[hp,cond_false] at e4;subst e4;simp only[eK] at hk2;rcases hk2 with hk2 | hA
   ·exact own (hk1▸hk2)
   ·rcases(hC.cq j k' b m x e1 hm hi).2.1 with h5 | h5
    ·have:=hst.hb;have h6:w.heap.size≤x:=h5;omega
    ·obtain⟨i,h,k,c,m',q1,q2,q3,q4⟩:=jR hls h5;rcases Gb hA q1 q2 with h7 | h7
     ·exact(hst.cq h k c m' x q2 q3 q4).2.2.2 h7
     ·exfalso;rw[da] at h7;obtain⟨k'',h8⟩:=DT h7;obtain⟨m2,h10,h11⟩:=(hC.fD _ k'' h8 (sa i)).ext.YI ((kc q1).trans q3) q4;have:=hC.de j (1000+i) k' k'' x b m c m2 e1 h8 hm h10 hi h11;rw[this,sa] at hp;cases hp
 refine⟨{st:={en:=?_,de:=?_,cq:=?_,fD:=?_,fg:=hst.fg,hb:=cK hst.hb hsz,os:=hC.os.trans hst.os,tape:=hC.tape.trans hst.tape,output:=hC.output.trans hst.output,gl:=hst.gl,dq:=?_},nd:=?_,sz:=hr.sz,fr:=?_},fun g g' v=>mw,?_,fun y h1 h2=>alive y h2 (.inr (.inl h1))⟩
 ·intro y k2 h1;rcases row y k2 h1 with ⟨j,k',k1,e1,e2,e3,e4⟩ | ⟨e0,k0,e1,e2,e3⟩
  ·have hmy:kg μ μ'' st' bk y=μ'' j:=by unfold kg;rw[e2]
   rw[hmy];have hbj:=hC.en j k' e1;have hmine:∀b m x,μ'' j=some (b,m)→In x b m→k2.ew=true→cx.base≤x:=hmineA e1 e2 e3 e4;have hloop:sq k'.lp=true→k2=k1:=by
    intro hl;rw[e4];unfold pz;rw[hl];rfl
   have hfields:k2.bI=k1.bI∧k2.pure=k1.pure∧k2.fresh=k1.fresh∧k2.sz=k1.sz∧k2.cells=k1.cells∧k2.lp=k1.lp:=by
    rw[e4];unfold pz;cases sq k'.lp <;> cases pinned j <;> exact⟨rfl,rfl,rfl,rfl,rfl,rfl⟩
   obtain⟨f1,f2,f3,f4,f5,f6⟩:=hfields;clear e4;unfold vV at e3;cases hpp:k'.pure with
   | true=>
    rw[hpp,cond_true] at e3;cases hvf:(vw&&!k'.fresh) with
    | true=>rw[hvf] at e3;cases e3
    | false=>
     rw[hvf] at e3;cases e3;cases hm:μ'' j with
     | none=>rw[hm] at hbj;exact hbj.yL f5 f6 f2
     | some bm=>
      obtain⟨b,m⟩:=bm;rw[hm] at hbj;cases hl:k'.lp with
      | none=>
       obtain⟨cs,h1,h2,h3,h4,h5,h6⟩:=hbj.cells hl;refine .mk (f6.trans hl) (hbj.nf hl) ⟨cs,by rw[f1];exact h1,h2,by rw[f5];exact h3,hmine b m b hm (.self _ _),by rw[f4];exact h5,fun j' g hg=>?_⟩;rw[f5] at hg;obtain⟨v,hv,hrv⟩:=h6 j' g hg;refine⟨v,hv,?_⟩;unfold cZ at hrv⊢;rw[f2,f3];simp only[hpp] at hrv⊢;exact impo k'.fresh (fun e=>by rw[e] at hvf;simpa using hvf) hrv
      | some kd=>
       cases kd with
       | loop lp=>
        obtain⟨D,vs,_,_,_,h4,_⟩:=(aV.loop hl).1 hbj;rw[hpp] at h4;cases h4
       | deep d=>
        obtain⟨h1,h2,h3,h4⟩:=(aV.deep hl).1 hbj;refine(aV.deep (f6.trans hl)).2 ⟨?_,f2.trans hpp,f5.trans h3,hmine b m b hm (.self _ _)⟩;rw[f3];exact d.mono h1 (Kept.refl _ _) (fun x _ hn ho=>hn (impO k'.fresh (fun e=>by rw[e] at hvf;simpa using hvf) ho)) (fun _ _=>rfl)
   | false=>
    rw[hpp,cond_false] at e3;cases hgo:ez.go vw (kj st' bk) k'.cells with
    | none=>rw[hgo] at e3;cases e3
    | some cs'=>
     rw[hgo] at e3;cases e3;obtain⟨q1,q2⟩:=vJ hgo;simp only at f1 f2 f3 f4 f5 f6;cases hm:μ'' j with
     | none=>
      rw[hm] at hbj;refine hbj.yL (f5.trans ?_) f6 (f2.trans hpp.symm);rw[hbj.1];exact bu (by rw[q1,hbj.1];rfl)
     | some bm=>
      obtain⟨b,m⟩:=bm;rw[hm] at hbj;cases hl:k'.lp with
      | none=>
       obtain⟨cs,h1,h2,h3,h4,h5,h6⟩:=hbj.cells hl;refine .mk (f6.trans hl) (hbj.nf hl) ⟨cs,by rw[f1];exact h1,h2,by rw[f5];omega,hmine b m b hm (.self _ _),by rw[f4];exact h5,fun j' g hg=>?_⟩;rw[f5] at hg;obtain⟨g0,q3,q4⟩:=q2 j' g hg;obtain⟨v,hv,hrv⟩:=h6 j' g0 q3;refine⟨v,hv,?_⟩;unfold cZ at hrv⊢;rw[f2];simp only[hpp] at hrv⊢;exact mw hrv q4
      | some kd=>
       cases kd with
       | deep d=>have:=((aV.deep hl).1 hbj).2.1;rw[hpp] at this;cases this
       | loop lp=>
        obtain⟨D,vs,h1,h2,h3,h4,h5⟩:=(aV.loop hl).1 hbj;have hk2:k2.ew=false:=by rw[hloop (by rw[hl];rfl)];exact h3
        refine(aV.loop (f6.trans hl)).2 ⟨D,vs,h1,h2,hk2,f2,fun j' t g ht hg=>?_⟩;rw[f5] at hg;obtain⟨g0,q3,q4⟩:=q2 j' g hg;obtain⟨v,hv,hrv⟩:=h5 j' t g0 ht q3;exact⟨v,hv,mw hrv q4⟩
  ·subst e3;have hmy:kg μ μ'' st' bk y=μ y:=by unfold kg;rw[e0]
   rw[hmy];refine((hst.en y k0 e2).mono (fun b m hm z hz=>hkeep z (qC hst ⟨y,k0,b,m,e2,hm,hz⟩) fun ho=>?_) hkept hOO).dead _ fun hp g hg x hx hh=>alive x hx (.inr (.inr (notst x y k0 g e2 hp hg hh)));obtain⟨i,h,k,c',m',q1,q2,q3,q4⟩:=jR hls ho;exact td hst q1 q2 q3 q4 e1 e2 hm hz
 ·intro y y' k2 k2' x b m b' m' h1 h2 h3 h4 hi hi';rcases whr y k2 b m h1 h3 with ⟨j,k',e1,e2,e3⟩ | ⟨e0,e1,k0,e2,e3⟩ <;> rcases whr y' k2' b' m' h2 h4 with ⟨j',k'',e1',e2',e3'⟩ | ⟨e0',e1',k0',e2',e3'⟩
  ·have:=hC.de j j' k' k'' x b m b' m' e2 e2' e3 e3' hi hi';subst this;have:=(ol hok e1).2.2.1.symm.trans (ol hok e1').2.2.1;exact dV this
  ·exfalso;have hlt:=qC hst ⟨y',k0',b',m',e2',e3',hi'⟩;rcases(hC.cq j k' b m x e2 e3 hi).2.1 with h5 | h5
   ·exact absurd hlt (Nat.not_lt.2 h5)
   ·obtain⟨i,h,k,c2,m2,q1,q2,q3,q4⟩:=jR hls h5;exact td hst q1 q2 q3 q4 e1' e2' e3' hi'
  ·exfalso;have hlt:=qC hst ⟨y,k0,b,m,e2,e3,hi⟩;rcases(hC.cq j' k'' b' m' x e2' e3' hi').2.1 with h5 | h5
   ·exact absurd hlt (Nat.not_lt.2 h5)
   ·obtain⟨i,h,k,c2,m2,q1,q2,q3,q4⟩:=jR hls h5;exact td hst q1 q2 q3 q4 e1 e2 e3 hi
  ·exact hst.de y y' k0 k0' x b m b' m' e2 e2' e3 e3' hi hi'
 ·intro y k2 b m x h1 h3 hi;rcases row y k2 h1 with ⟨j,k',k1,e2,e1,er,e4⟩ | ⟨e0,k0,e1,e2,er⟩
  ·have e3:μ'' j=some (b,m):=by unfold kg at h3;rw[e1] at h3;exact h3
   obtain⟨h5,h6,h7,_⟩:=hC.cq j k' b m x e2 e3 hi;refine⟨fun hx=>h5 (.inl hx),?_,h7,hmineA e2 e1 er e4 b m x e3 hi⟩;rcases h6 with h6 | h6
   ·exact .inl (cK hst.hb h6)
   ·obtain⟨i,h,k,c2,m2,q1,q2,q3,q4⟩:=jR hls h6;exact(hst.cq h k c2 m2 x q2 q3 q4).2.1
  ·have e3:μ y=some (b,m):=by unfold kg at h3;rw[e0] at h3;exact h3
   obtain⟨h5,h6,h7,h8⟩:=hst.cq y k0 b m x e2 e3 hi;exact⟨h5,h6,cJ h7 hsz,fun hm=>h8 (by subst er;unfold oV at hm;cases hp:k0.pure <;> simp only[hp] at hm <;> exact hm)⟩
 ·intro y k2 h1 hp;rcases row y k2 h1 with ⟨j,k',k1,e1,e2,e3,e4⟩ | ⟨e0,k0,e1,e2,e3⟩
  ·rcases(ol hok e2).2.2.2 with ⟨e5,e6⟩ | ⟨_,e5,_⟩
   ·have hj:1000≤j:=fK e5;have h6:kg μ μ'' st' bk y=μ'' j:=by unfold kg;rw[e2]
    rw[h6];have h7:=kc (μ:=μ) e6;rw[show 1000+(j-1000)=j by omega] at h7;obtain⟨_,k0,hk0⟩:=Gi hls e6;have h8:=hC.fD j k' e1 e5;refine(hst.fD y k0 hk0 hp).trans (?_:wP w.heap.size (μ y) (μ'' j)) hst.hb;rw[←h7];exact h8
   ·rw[j5 e5] at hp;cases hp
  ·have h6:kg μ μ'' st' bk y=μ y:=by unfold kg;rw[e0]
   rw[h6];exact hst.fD y k0 e2 hp
 ·intro b hb hA;rw[hkeep b (by have:=hst.hb;omega) fun ho=>?_]
  ·exact hst.dq b hb hA
  ·obtain⟨i,h,k,c,m,q1,q2,q3,q4⟩:=jR hls ho;rcases(hst.cq h k c m b q2 q3 q4).2.1 with h4 | h4
   ·omega
   ·exact hA h4
 ·refine(hr.nd.mono hkept hOO).qA fun g hg y hy=>?_;have hd:=dB.1 hdf g hg;simp only[aS] at hd;refine alive y (fun hm=>by rw[AX hd y hm] at hy;cases hy) (.inr (.inr ?_));cases hf:fresh s y with
  | false=>rfl
  | true=>rw[pP (gr hf).2.2.2.1 hg] at hy;cases hy
 ·intro t g hg;obtain⟨g0,h1,rfl⟩:=Qz hg;obtain⟨v,hv,hrv⟩:=hr.fr t g0 h1;exact⟨v,hv,Av (hrv.mono hkept hOO (aG _)) fun y hy hh=>alive y hy (.inr (.inr (notfr y t g0 h1 hh)))⟩
 ·intro W hW;refine⟨hsz,fun b hb hn=>hkeep b hb fun ho=>?_,fun y k2 c m b hy h1 h2 hi=>?_⟩
  ·obtain⟨i,h,k,c,m,q1,q2,q3,q4⟩:=jR hls ho;exact hn h k c m (hW h (nY q1)) q2 q3 q4
  ·rcases whr y k2 c m h1 h2 with ⟨j,k',e1,e2,e3⟩ | ⟨e0,e1,k0,e2,e3⟩
   ·rcases(hC.cq j k' c m b e2 e3 hi).2.1 with h6 | h6
    ·exact .inr h6
    ·obtain⟨i,h,k,c2,m2,q1,q2,q3,q4⟩:=jR hls h6;exact .inl ⟨h,k,c2,m2,hW h (nY q1),q2,q3,q4⟩
   ·exact .inl ⟨y,k0,c,m,hy,e2,e3,hi⟩
end
end Go.AM
/-
 AM,part BB:the steps:calls to which blocks are lent;handles under other numbers.
-/
namespace Go.AM
def qg:List Nat→Bool
 | []=>true
 | h::r=>!(r.contains h)&&qg r
theorem nX:∀{H:List Nat},qg H=true→H.Nodup
 | [],_=>List.nodup_nil
 | h::r,e=>by
  simp only[qg,af,aS] at e;refine ov.2 ⟨fun hm=>?_,nX e.2⟩;have:=e.1;simp at this;exact this hm
section
variable {P:Program}{N:Nat}{cx:Cx}{s:St}
variable {ty:TypeId}{pos:String}{after:Array Edge}{guard:Option (Nat×Bool)}{W:List Nat}{d:Nat}
theorem Step.sub {st st' st2:List (Nat×av)}{μ μ':Mu}{w w':World}(h:Step W st μ st' μ' w w') (hs:pe st' st2):Step W st μ st2 μ' w w':=
 ⟨h.size,h.block,fun x k c m b h1 h2 h3 hi=>h.hand x k c m b h1 (hs.get h2) h3 hi⟩
theorem xj {f:FuncId}{vs:List Value}{gs gs':List G}{ei:List (Nat×av)}{Q:G→List (Nat×av)→Prop}{Qp:List PanicEntry→List (Nat×av)→Prop}{H:List Nat}{vw:Bool}{μ:Mu}{a:Act}{w:World}(hr:Rel N cx μ s a w)
  (hv:bR.go H (ft s.st H vw) gs=some gs') (hl:gz H (ft s.st H vw) s.st H 0=some ei) (di:qg H=true) (hvs:vs.length=gs.length)
  (hrep:∀(j:Nat) (g:G) (v:Value),gs[j]?=some g→vs[j]?=some v→aU (cx.O s.st μ) cx.base w μ g v) (hcon:GP P f gs' ei Q Qp):
  Calls P f vs.toArray w (FD (j6 cx s.st μ H vw) ei (kf H μ) w Q Qp):=by
 obtain⟨h1,h2⟩:=n5 hv;have hrel:=Mg hr.st hl (nX di);refine hcon (j6 cx s.st μ H vw) (kf H μ) w vs hrel.fg hrel (by omega) fun j g v hg hv=>?_;obtain⟨g0,h3,h4⟩:=h2 j g hg;exact si hr.st hl (hrep j g0 v h3 hv) h4
def AZ (H W:List Nat):Bool:=H.all W.contains
theorem AY {H W:List Nat}(h:AZ H W=true):∀x∈H,x∈W:=fun x hx=>by
 have:=dB.1 h x hx;simpa using this
end
end Go.AM
/-
 AM,part BC:a handle under another number (a block that was handed in and may move from now on).
-/
namespace Go.AM
def mv (h h' x:Nat):Nat:=bif Nat.beq x h then h' else x
theorem vK (h h':Nat):mv h h' h=h':=by simp[mv,aW]
theorem jt {h h' x:Nat}(e:x≠h):mv h h' x=x:=by
 unfold mv;cases hb:Nat.beq x h with
 | false=>rfl
 | true=>exact absurd (ab hb) e
def px (h h':Nat):G→G
 | .loc x off=>.loc (mv h h' x) off
 | .aL x sz off n=>.aL (mv h h' x) sz off n
 | .cW x=>.cW (mv h h' x)
 | .eN x=>.eN (mv h h' x)
 | .kp x i off=>.kp (mv h h' x) i off
 | .ks x i sz n=>.ks (mv h h' x) i sz n
 | .agg gs=>.agg (go gs)
 | .bB gs=>.bB (go gs)
 | .ba f gs=>.ba f (go gs)
 | g=>g
where go:List G→List G
 | []=>[]
 | g::r=>px h h' g::go r
theorem ow {h h':Nat}{gs:List G}:(px.go h h' gs).length=gs.length∧∀(j:Nat) (g':G),(px.go h h' gs)[j]?=some g'→∃g,gs[j]?=some g∧g'=px h h' g:=by
 induction gs with
 | nil=>exact⟨rfl,fun j g e=>by simp[px.go] at e⟩
 | cons x r ih=>
  refine⟨by simp[px.go,ih.1],fun j g' e=>?_⟩;simp only[px.go] at e;cases j with
  | zero=>cases e;exact⟨x,rfl,rfl⟩
  | succ j=>exact ih.2 j g' e
def Jx (h h':Nat) (k:av):av:=bif k.pure then k else {k with cells:=px.go h h' k.cells}
def B3 (h h':Nat):List (Nat×G)→List (Nat×G)
 | []=>[]
 | (t,g)::r=>(t,px h h' g)::B3 h h' r
def wa (h h':Nat):List (Nat×av)→List (Nat×av)
 | []=>[]
 | (x,k)::r=>(mv h h' x,Jx h h' k)::wa h h' r
theorem U7 {h h':Nat}{fr:List (Nat×G)}{t:Nat}{g:G}(hg:get (B3 h h' fr) t=some g):∃g0,get fr t=some g0∧g=px h h' g0:=by
 induction fr with
 | nil=>cases hg
 | cons x r ih=>
  obtain⟨k,g'⟩:=x;simp only[B3,iS] at hg⊢;cases hb:Nat.beq k t with
  | true=>rw[hb] at hg;cases hg;exact⟨g',rfl,rfl⟩
  | false=>rw[hb] at hg;exact ih hg
theorem RJ {h h':Nat}(hne:h'≠h){st:List (Nat×av)}{y:Nat}{k2:av}(hn:ay st h'=none) (hg:ay (wa h h' st) y=some k2):
  (y=h'∧∃k,ay st h=some k∧k2=Jx h h' k)∨(y≠h'∧y≠h∧∃k,ay st y=some k∧k2=Jx h h' k):=by
 induction st with
 | nil=>cases hg
 | cons x r ih=>
  obtain⟨z,k⟩:=x;have hz:z≠h':=fun e=>by subst e;rw[dU] at hn;cases hn
  rw[aB _ _ (Ne.symm hz)] at hn;simp only[wa,rr] at hg;cases hb:Nat.beq (mv h h' z) y with
  | true=>
   rw[hb] at hg;cases hg;have hb:=ab hb
   by_cases e:z=h
   ·subst e;rw[vK] at hb;exact .inl ⟨hb.symm,k,dU _ _ _,rfl⟩
   ·rw[jt e] at hb;subst hb;exact .inr ⟨hz,e,k,dU _ _ _,rfl⟩
  | false=>
   rw[hb] at hg;have hbz:mv h h' z≠y:=fun e=>by rw[e,aW] at hb;cases hb
   rcases ih hn hg with ⟨e,k',h1,h2⟩ | ⟨e1,e2,k',h1,h2⟩
   ·refine .inl ⟨e,k',?_,h2⟩;rw[aB _ _ (fun e'=>by subst e';rw[vK] at hbz;exact hbz e.symm)];exact h1
   ·refine .inr ⟨e1,e2,k',?_,h2⟩;rw[aB _ _ (fun e'=>by subst e';rw[jt e2] at hbz;exact hbz rfl)];exact h1
theorem zP {O:Nat→Prop}{base:Nat}{w:World}{μ μ':Mu}{h h':Nat}{g:G}{v:Value}(hv:aU O base w μ g v) (h1:μ' h'=μ h) (h2:∀y,y≠h→g.cv y=true→μ' y=μ y):aU O base w μ' (px h h' g) v:=by
 have key:∀{y:Nat}{x:Option (Nat×Mm)},μ y=x→(y≠h→μ' y=μ y)→μ' (mv h h' y)=x:=by
  intro y x hm hy
  by_cases e:y=h
  ·subst e;rw[vK,h1];exact hm
  ·rw[jt e,hy e];exact hm
 have aF:∀{g:G}{v:Value},bH O w g v→aU O base w μ' (px h h' g) v:=by
  intro g v hi
  induction hi with
  | any v=>exact .aF (.any v)
  | val v=>exact .aF (.val v)
  | dw b v h=>exact .aF (.dw b v h)
  | nil=>exact .aF .nil
  | jb a c=>exact .aF (.jb a c)
  | sl n cells b off cap us h1 h2 h3 h4 h5 ih=>exact .aF (.sl n cells b off cap us h1 h2 h3 h4 h5)
  | ptr cells b off us h1 h2 h3 h4 ih=>exact .aF (.ptr cells b off us h1 h2 h3 h4)
  | agg cells us hl hr ih=>
   refine .agg _ us (by rw[ow.1];exact hl) fun j g v hg hv=>?_;obtain⟨g0,e1,rfl⟩:=ow.2 j g hg;exact ih j g0 v e1 hv
 induction hv with
 | aF h=>exact aF h
 | fr h=>exact .fr h
 | loc x off b m hm=>exact .loc _ off b m (key hm fun e=>h2 x e (by simp[G.cv,aW]))
 | gk x sz hm=>exact .gk _ sz (key hm fun e=>h2 x e (by simp[G.cv,aW]))
 | aL x sz off n b m cap hm hn hc=>exact .aL _ sz off n b m cap (key hm fun e=>h2 x e (by simp[G.cv,aW])) hn hc
 | fq x sz off0 b m hm hp=>exact .fq _ sz off0 b m (key hm fun e=>h2 x e (by simp[G.cv,aW])) hp
 | cW x b m hm=>exact .cW _ b m (key hm fun e=>h2 x e (by simp[G.cv,aW]))
 | eN x b m hm=>exact .eN _ b m (key hm fun e=>h2 x e (by simp[G.cv,aW]))
 | kp x i off b m c n hm hk=>exact .kp _ i off b m c n (key hm fun e=>h2 x e (by simp[G.cv,aW])) hk
 | mh x i sz a cap hb=>exact .mh _ i sz a cap hb
 | ks x i sz n b m c k cap hm hk hn hc=>exact .ks _ i sz n b m c k cap (key hm fun e=>h2 x e (by simp[G.cv,aW])) hk hn hc
 | agg cells us hl hr ih=>
  refine .agg _ us (by rw[ow.1];exact hl) fun j g v hg hv=>?_;obtain⟨g0,e1,rfl⟩:=ow.2 j g hg;exact ih j g0 v e1 hv fun y hy hh=>h2 y hy (by simp only[G.cv];exact G.rC (aj e1) hh)
 | bB cells us hl hr ih=>
  refine .bB _ us (by rw[ow.1];exact hl) fun j g v hg hv=>?_;obtain⟨g0,e1,rfl⟩:=ow.2 j g hg;exact ih j g0 v e1 hv fun y hy hh=>h2 y hy (by simp only[G.cv];exact G.rC (aj e1) hh)
 | ba f cells us hl hr ih=>
  refine .ba f _ us (by rw[ow.1];exact hl) fun j g v hg hv=>?_;obtain⟨g0,e1,rfl⟩:=ow.2 j g hg;exact ih j g0 v e1 hv fun y hy hh=>h2 y hy (by simp only[G.cv];exact G.rC (aj e1) hh)
theorem aV.move {O:Nat→Prop}{base:Nat}{w:World}{μ μ':Mu}{k:av}{x:Option (Nat×Mm)}{h h':Nat}(hb:aV O base w μ k x) (h1:μ' h'=μ h) (h2:k.pure=false→∀g∈k.cells,∀y,y≠h→g.cv y=true→μ' y=μ y):aV O base w μ' (Jx h h' k) x:=by
 unfold Jx;cases hp:k.pure with
 | true=>exact hb.gS fun hp'=>by rw[hp] at hp';cases hp'
 | false=>
  have h2:=h2 hp;simp only[cond_false];cases x with
  | none=>
   obtain⟨e1,e2⟩:=hb;refine⟨bu (by simp only;rw[ow.1,e1];rfl),?_⟩;dsimp only;split at e2
   ·trivial
   ·exact e2.elim
   ·rw[hp] at e2;cases e2.2
  | some bm=>
   obtain⟨b,m⟩:=bm;cases hl:k.lp with
   | none=>
    obtain⟨cs1,h4,h5,h6,h7,h8,h9⟩:=hb.cells hl;refine .mk rfl (hb.nf hl) ⟨cs1,h4,h5,by simp only;rw[ow.1];exact h6,h7,h8,fun j g hg=>?_⟩;obtain⟨g0,e1,rfl⟩:=ow.2 j g hg;obtain⟨v,hv,hrv⟩:=h9 j g0 e1;refine⟨v,hv,?_⟩;unfold cZ at hrv⊢;rw[hp] at hrv;simp only;exact zP hrv h1 (h2 g0 (aj e1))
   | some kd=>
    cases kd with
    | deep d=>have:=((aV.deep hl).1 hb).2.1;rw[hp] at this;cases this
    | loop lp=>
     obtain⟨D,vs,q1,q2,q3,q4,q5⟩:=(aV.loop hl).1 hb;refine(aV.loop rfl).2 ⟨D,vs,q1,q2,q3,rfl,fun j t g ht hg=>?_⟩;obtain⟨g0,e1,rfl⟩:=ow.2 j g hg;obtain⟨v,hv,hrv⟩:=q5 j t g0 ht e1;exact⟨v,hv,zP hrv h1 (h2 g0 (aj e1))⟩
theorem UA (h h':Nat) (k:av):(Jx h h' k).ew=k.ew:=by unfold Jx;cases k.pure <;> rfl
section
variable {P:Program}{N:Nat}{cx:Cx}{s:St}{Q:Exit→St→Prop}
theorem Rel.move {μ : Mu} {a : Act} {w : World} (hr : Rel N cx μ s a w) (h h' : Nat) (hf : fresh s h' = true) (hne : Nat.beq h' h = false) :
    Rel N cx (lk μ h' (μ h)) { fr := B3 h h' s.fr, st := wa h h' s.st, df := px.go h h' s.df } a w := by
  have hne : h' ≠ h := fun e => by subst e; rw [aW] at hne; cases hne
  obtain ⟨f1, f2, f3, f4, f5⟩ := gr hf
  have other : ∀ {y}, y ≠ h' → lk μ h' (μ h) y = μ y := fun e => aZ e
  have row := fun (y : Nat) (k2 : av) (e : ay (wa h h' s.st) y = some k2) => RJ hne f1 e
  have whr : ∀ y k2, ay (wa h h' s.st) y = some k2 → ∃ x k, ay s.st x = some k ∧ k2 = Jx h h' k ∧ lk μ h' (μ h) y = μ x ∧ y = mv h h' x := by
    intro y k2 e
    rcases row y k2 e with ⟨rfl, k, e1, e2⟩ | ⟨e0, e1, k, e2, e3⟩
    · exact ⟨h, k, e1, e2, b7 _ _ _, (vK _ _).symm⟩
    · exact ⟨y, k, e2, e3, other e0, (jt e1).symm⟩
  have hO : ∀ b, ¬ cx.O s.st μ b → ¬ cx.O (wa h h' s.st) (lk μ h' (μ h)) b := by
    rintro b hn (ho | ⟨y, k2, c, m, e1, e2, hi⟩)
    · exact hn (.inl ho)
    · obtain ⟨x, k, q1, _, q3, _⟩ := whr y k2 e1
      rw [q3] at e2
      exact hn (.inr ⟨x, k, c, m, q1, e2, hi⟩)
  refine { st := { en := ?_, de := ?_, cq := ?_, fD := ?_, fg := hr.st.fg, hb := hr.st.hb, os := hr.st.os, tape := hr.st.tape, output := hr.st.output, gl := hr.st.gl, dq := hr.st.dq }, nd := ?_, sz := hr.sz, fr := ?_ }
  · intro y k2 e
    obtain ⟨x, k, q1, rfl, q3, _⟩ := whr y k2 e
    rw [q3]
    exact ((hr.st.en x k q1).mono (fun _ _ _ _ _ => rfl) (Kept.refl _ _) fun b _ => hO b).move (b7 _ _ _) fun hp g hg y _ hh => other fun e => by subst e; rw [sY f3 q1 hp hg] at hh; cases hh
  · intro y y' k2 k2' z b m b' m' e1 e2 e3 e4 hi hi'
    obtain ⟨x, k, q1, _, q3, q4⟩ := whr y k2 e1
    obtain ⟨x', k', q1', _, q3', q4'⟩ := whr y' k2' e2
    rw [q3] at e3
    rw [q3'] at e4
    rw [q4, q4', hr.st.de x x' k k' z b m b' m' q1 q1' e3 e4 hi hi']
  · intro y k2 b m z e1 e2 hi
    obtain ⟨x, k, q1, rfl, q3, _⟩ := whr y k2 e1
    rw [q3] at e2
    obtain ⟨a1, a2, a3, a4⟩ := hr.st.cq x k b m z q1 e2 hi
    exact ⟨a1, a2, a3, fun hm => a4 (by rw [UA] at hm; exact hm)⟩
  · intro y k2 e hp
    rcases row y k2 e with ⟨rfl, _⟩ | ⟨e0, e1, k, e2, _⟩
    · rw [j5 f5] at hp; cases hp
    · rw [other e0]; exact hr.st.fD y k e2 hp
  · have di := hr.nd.mono (Kept.refl _ _) fun b _ => hO b
    clear hO whr row
    generalize s.df = gs at di f4
    generalize a.defers = ds at di
    induction di with
    | nil => exact .nil
    | mark h1 h2 h3 h4 h5 h6 ih => exact .mark h1 h2 h3 h4 h5 (ih f4)
    | ba h1 h2 ih =>
      simp only [qn, af, aS] at f4
      exact .ba (zP h1 (b7 _ _ _) fun y _ hh => other fun e => by subst e; rw [f4.1] at hh; cases hh) (ih f4.2)
  · intro t g hg
    obtain ⟨g0, e1, rfl⟩ := U7 hg
    obtain ⟨v, hv, hrv⟩ := hr.fr t g0 e1
    exact ⟨v, hv, zP (hrv.mono (Kept.refl _ _) (fun b _ => hO b) (aG _)) (b7 _ _ _) fun y _ hh => other fun e => by subst e; rw [mX f2 e1] at hh; cases hh⟩
theorem GW.move {c:Code}(h h':Nat) (hf:fresh s h'=true) (hne:Nat.beq h' h=false) (k:GW P N cx c Q {fr:=B3 h h' s.fr,st:=wa h h' s.st,df:=px.go h h' s.df}):GW P N cx c Q s:=fun _ a w hr=>k _ a w (hr.move h h' hf hne)
end
end Go.AM
/-
 AM,part BD:loops over functions:their rounds,the calls of yield,the loop itself.
-/
namespace Go.AM
theorem cI.ro {cx:Cx}{μ:Mu}{st:List (Nat×av)}{w:World}(h:cI cx μ st w) (r:Option Nat):cI {cx with ro:=r} μ st w:=
 {en:=h.en,de:=h.de,cq:=h.cq,fD:=h.fD,fg:=h.fg,hb:=h.hb,os:=h.os,tape:=h.tape,output:=h.output,gl:=h.gl,dq:=h.dq}
def qk:List Nat→List G→List (Nat×G)
 | t::ts,g::gs=>(t,g)::qk ts gs
 | _,_=>[]
theorem EW:∀{ts:List Nat}{gs:List G}{t:Nat}{g:G},get (qk ts gs) t=some g→∃j:Nat,ts[j]?=some t∧gs[j]?=some g
 | [],_,_,_,h=>by cases h
 | _::_,[],_,_,h=>by cases h
 | x::ts,y::gs,t,g,h=>by
  simp only[qk,iS] at h;cases hb:Nat.beq x t with
  | true=>rw[hb] at h;cases h;have:=ab hb;subst this;exact⟨0,rfl,rfl⟩
  | false=>
   rw[hb] at h;obtain⟨j,h1,h2⟩:=EW h;exact⟨j+1,h1,h2⟩
theorem get_append {a b:List (Nat×G)}{t:Nat}:get (a++b) t=(get a t).or (get b t):=by
 induction a with
 | nil=>rfl
 | cons x r ih=>
  obtain⟨y,k⟩:=x;simp only[bU,get];cases Nat.beq y t with
  | true=>rfl
  | false=>exact ih
def TH (Q:Option Code→List (Nat×av)→Prop):Exit→St→Prop:=fun e s=>s.df=[]∧∃st',pe s.st st'∧match e with
 | .normal=>Q none st'
 | .ret=>Q (some .ret) st'
 | .exit id=>Q (some (.exit id)) st'
 | _=>False
def GY (P : Program) (lp : Lp) (cells args : List G) (st : List (Nat × av)) (Q : Option Code → List (Nat × av) → Prop) : Prop :=
 ∀ cx, GW P lp.N cx lp.assign (fun e s => e = .normal ∧ ∀ cx', GW P lp.N cx' lp.body (TH Q) s) { fr := qk lp.ps.toList args ++ qk lp.aw cells, st := st, df := [] }
theorem GY.of {P : Program} {lp : Lp} {cells args : List G} {st : List (Nat × av)} {Q : Option Code → List (Nat × av) → Prop} {nF body : Code} (ha : lp.assign = nF) (hb : lp.body = body)
  (h : ∀ cx, GW P lp.N cx nF (fun e s => e = .normal ∧ ∀ cx', GW P lp.N cx' body (TH Q) s) { fr := qk lp.ps.toList args ++ qk lp.aw cells, st := st, df := [] }) : GY P lp cells args st Q := by
 unfold GY; rw [ha, hb]; exact h
section
variable {P:Program}{N:Nat}{cx:Cx}{s:St}
theorem foldl_set (ps:List Nat) (vs:List Value) (tm:Array Value) (t:Nat):((ps.zip vs).foldl (fun (tm:Array Value) (x:Nat×Value)=>tm.setIfInBounds x.1 x.2) tm).size=tm.size∧
  (t∉ps→((ps.zip vs).foldl (fun (tm:Array Value) (x:Nat×Value)=>tm.setIfInBounds x.1 x.2) tm)[t]?=tm[t]?):=by
 induction ps generalizing vs tm with
 | nil=>exact⟨rfl,fun _=>rfl⟩
 | cons p r ih=>
  cases vs with
  | nil=>exact⟨rfl,fun _=>rfl⟩
  | cons v vs=>
   simp only[List.zip_cons_cons,cz];obtain⟨h1,h2⟩:=ih vs (tm.setIfInBounds p v);refine⟨h1.trans (by simp),fun hn=>?_⟩;rw[bf,not_or] at hn;rw[h2 hn.2,gR (Ne.symm hn.1)]
theorem A4:∀(ps:List Nat) (vs:List Value) (tm:Array Value) (j t:Nat) (v:Value),ps.Nodup→ps[j]?=some t→vs[j]?=some v→t<tm.size→
  ((ps.zip vs).foldl (fun (tm:Array Value) (x:Nat×Value)=>tm.setIfInBounds x.1 x.2) tm)[t]?=some v
 | [],_,_,_,_,_,_,h,_,_=>by cases h
 | _::_,[],_,_,_,_,_,_,h,_=>by cases h
 | p::r,u::vs,tm,j,t,v,hn,h1,h2,hl=>by
  simp only[List.zip_cons_cons,cz];cases j with
  | zero=>
   cases h1;cases h2;rw[(foldl_set r vs _ _).2 (ov.1 hn).1,Array.getElem?_setIfInBounds_self_of_lt hl]
  | succ j=>exact A4 r vs _ j t v (ov.1 hn).2 h1 h2 (by simpa using hl)
theorem Rel.Ma {μ:Mu}{a:Act}{w:World}(hr:Rel N cx μ s a w){h:Nat}{k:av}{lp:Lp}(hk:ay s.st h=some k) (hlp:k.lp=some (.loop lp)):
  ∃l m,μ h=some (l,m)∧Dt (cx.O s.st μ) cx.base w μ k lp l:=by
 have hb:=hr.st.en h k hk;cases hm:μ h with
 | none=>rw[hm] at hb;have:=hb.2;rw[hlp] at this;exact this.elim
 | some bm=>
  obtain⟨l,m⟩:=bm;rw[hm] at hb;exact⟨l,m,rfl,(aV.loop hlp).1 hb⟩
theorem Dt.shut {O Z:Nat→Prop}{base:Nat}{w w':World}{μ:Mu}{k k':av}{lp lp':Lp}{l:Nat}(hr:Dt O base w μ k lp l) (h:iM Z w w') (hl:∀(D:Nat×FuncId) vs,w.heap[l]?=some (.loop {state:=if lp.nU.isNone then .ready else .done,pending:=lp.nU,fn:=D.2,tmps:=vs,params:=lp.ps,assign:=lp.assign,body:=lp.body,defers:=D.1})→
   w'.heap[l]?=some (.loop {state:=if lp'.nU.isNone then .ready else .done,pending:=lp'.nU,fn:=D.2,tmps:=vs,params:=lp'.ps,assign:=lp'.assign,body:=lp'.body,defers:=D.1})) (e1:lp'.N=lp.N) (e2:lp'.aw=lp.aw) (e3:k'.cells=k.cells) (e4:k'.ew=k.ew) (e5:k'.pure=k.pure):Dt O base w' μ k' lp' l:=by
 obtain⟨D,vs,h1,h2,h3,h4,h5⟩:=hr;refine⟨D,vs,hl D vs h1,h2.trans e1.symm,e4.trans h3,e5.trans h4,fun j t g ht hg=>?_⟩;rw[e2] at ht;rw[e3] at hg;obtain⟨v,hv,hrv⟩:=h5 j t g ht hg;exact⟨v,hv,hrv.shut h⟩
theorem Rel.WT {μ:Mu}{a:Act}{w:World}(hr:Rel N cx μ s a w){h l:Nat}{m:Mm}{k:av}{lp:Lp}(hk:ay s.st h=some k) (hlp:k.lp=some (.loop lp)) (hm:μ h=some (l,m)) (j:Option Code){D:Nat×FuncId}{vs:Array Value}
  (hD:w.heap[l]?=some (.loop {state:=if lp.nU.isNone then .ready else .done,pending:=lp.nU,fn:=D.2,tmps:=vs,params:=lp.ps,assign:=lp.assign,body:=lp.body,defers:=D.1})):
  Rel N cx μ {s with st:=dF s.st h {k with lp:=some (.loop {lp with nU:=j})}} a (w.putObj l (.loop {state:=if j.isNone then .ready else .done,pending:=j,fn:=D.2,tmps:=vs,params:=lp.ps,assign:=lp.assign,body:=lp.body,defers:=D.1})):=by
 have hs:iM (fun b=>b=l) w (w.putObj l (.loop {state:=if j.isNone then .ready else .done,pending:=j,fn:=D.2,tmps:=vs,params:=lp.ps,assign:=lp.assign,body:=lp.body,defers:=D.1})):=iM.put _ rfl hD rfl;have hll:l<w.heap.size:=dQ hD;have hOO:∀b,cx.O (dF s.st h {k with lp:=some (.loop {lp with nU:=j})}) μ b↔cx.O s.st μ b:=fun b=>or_congr Iff.rfl (Own.dF hk);have hO:∀b,¬cx.O s.st μ b→¬cx.O (dF s.st h {k with lp:=some (.loop {lp with nU:=j})}) μ b:=fun b hn ho=>hn ((hOO b).1 ho);have MV:∀x k1,ay (dF s.st h {k with lp:=some (.loop {lp with nU:=j})}) x=some k1→∃k0,ay s.st x=some k0:=fun x k1 h1=>by
  rcases dm hk h1 with ⟨rfl,rfl⟩ | ⟨_,h1⟩
  ·exact⟨k,hk⟩
  ·exact⟨_,h1⟩
 refine {st:={en:=?_,de:=?_,cq:=?_,fD:=?_,fg:=hr.st.fg,hb:=by rw[hs.size];exact hr.st.hb,os:=hr.st.os,tape:=hr.st.tape,output:=hr.st.output,gl:=hr.st.gl,dq:=?_},nd:=?_,sz:=hr.sz,fr:=?_}
 ·intro x k1 h1;rcases dm hk h1 with ⟨rfl,rfl⟩ | ⟨hne,h1⟩
  ·rw[hm];have hb:=hr.st.en x k hk;rw[hm] at hb;have hb:=(aV.loop hlp).1 hb;refine(aV.loop rfl).2 ?_;refine(hb.shut (Z:=fun b=>b=l) (w:=w) (k':=k) (lp':={lp with nU:=j}) hs (fun D' vs' h'=>?_) rfl rfl rfl rfl rfl).imp fun D' hx=>hx.imp fun vs' hx=>⟨hx.1,hx.2.1,hx.2.2.1,hx.2.2.2.1,fun j' t g ht hg=>let ⟨v,hv,hrv⟩:=hx.2.2.2.2 j' t g ht hg;⟨v,hv,hrv.mono (Kept.refl _ _) (fun b _=>hO b) (aG _)⟩⟩;rw[hD] at h';obtain⟨_,_⟩:=D;obtain⟨_,_⟩:=D';cases h';rw[World.putObj_heap_same hll]
  ·exact((hr.st.en x k1 h1).shut hs fun b m' hmx _ y hy hb=>hne (hr.st.de x h k1 k y b m' l m h1 hk hmx hm hy (.inl hb))).mono (fun _ _ _ _ _=>rfl) (Kept.refl _ _) (fun b _=>hO b)
 ·intro x x' k1 k2 y b m1 b2 m2 h1 h2;obtain⟨k1',h1'⟩:=MV x k1 h1;obtain⟨k2',h2'⟩:=MV x' k2 h2;exact hr.st.de x x' k1' k2' y b m1 b2 m2 h1' h2'
 ·intro x k1 b m1 y h1 h2 hi;rw[hs.size];rcases dm hk h1 with ⟨rfl,rfl⟩ | ⟨_,h1⟩
  ·exact hr.st.cq x k b m1 y hk h2 hi
  ·exact hr.st.cq x k1 b m1 y h1 h2 hi
 ·intro x k1 h1 h2;obtain⟨k1',h1'⟩:=MV x k1 h1;exact hr.st.fD x k1' h1' h2
 ·intro b hb hA;have hne:b≠l:=fun e=>by
   subst e;rcases(hr.st.out h k b m hk hm).2 with h1 | h1
   ·omega
   ·exact hA h1
  rw[World.putObj_heap_other hne];exact hr.st.dq b hb hA
 ·refine(iG.shut hr.nd hs fun d hd D' e hz=>?_).mono (Kept.refl _ _) (fun b _=>hO b);subst hz;have key:∀{ds:List Deferred}{gs:List G},iG (cx.O s.st μ) cx.base w μ ds gs→d∈ds→∃x,w.heap[D']?=some (.deferred x):=by
   intro ds gs hdf
   induction hdf with
   | nil=>intro h;cases h
   | mark _ _ _ h4 _ _ ih=>
    intro hd;rcases bf.1 hd with rfl | hd
    ·cases e;exact⟨_,h4⟩
    ·exact ih hd
   | ba _ _ ih=>
    intro hd;rcases bf.1 hd with rfl | hd
    ·cases e
    ·exact ih hd
  obtain⟨x,hx⟩:=key hr.nd hd;rw[hD] at hx;cases hx
 ·intro t g hg;obtain⟨v,hv,hrv⟩:=hr.fr t g hg;exact⟨v,hv,(hrv.shut hs).mono (Kept.refl _ _) (fun b _=>hO b) (aG _)⟩
theorem LG (w:World) (l:Nat) (o o':Obj):(w.putObj l o).putObj l o'=w.putObj l o':=by
 simp[World.putObj]
variable {ty:TypeId}{pos:String}{after:Array Edge}{guard:Option (Nat×Bool)}{d:Nat}{ops:Array Oper}{rest:List Oper}{R:Exit→St→Prop}
theorem PP {μ : Mu} {a : Act} {w : World} {vs : List Value} {gs gs' cells' : List G} {ei : List (Nat × av)} {Q : Option Code → List (Nat × av) → Prop} {h l : Nat} {m : Mm} {k : av} {lp : Lp} (hr : Rel N cx μ s a w) (hk : ay s.st h = some k) (hlp : k.lp = some (.loop lp)) (hpend : lp.nU = none) (hm : μ h = some (l, m))
  (H : List Nat) (hh : dD H h = none) (hv : bR.go H [] gs = some gs') (hc : bR.go H [] k.cells = some cells') (hl : gz H [] s.st H 0 = some ei) (di : qg H = true) (hps : gs'.length = lp.ps.size) (hpn : qg lp.ps.toList = true) (hpl : lp.ps.toList.all (Nat.blt · lp.N) = true)
  (hvs : vs.length = gs.length) (hrep : ∀ (j : Nat) (g : G) (v : Value), gs[j]? = some g → vs[j]? = some v → aU (cx.O s.st μ) cx.base w μ g v) (hcon : GY P lp cells' gs' ei Q)
  {T : Ending → World → Prop} (hT : ∀ j st' μ'' w3, Q j st' → cI (jc (j6 cx s.st μ H false) ei (kf H μ) w) μ'' st' w3 → ∀ (D : Nat × FuncId) tm, w3.heap[l]? = some (.loop { state := .ready, pending := none, fn := D.2, tmps := tm, params := lp.ps, assign := lp.assign, body := lp.body, defers := D.1 }) →
   T (.returned (.bool j.isNone)) (w3.putObj l (.loop { state := if j.isNone then .ready else .done, pending := j, fn := D.2, tmps := tm, params := lp.ps, assign := lp.assign, body := lp.body, defers := D.1 }))) :
  ∃ (tm0 : Array Value) (D : Nat × FuncId), w.heap[l]? = some (.loop { state := .ready, pending := none, fn := D.2, tmps := tm0, params := lp.ps, assign := lp.assign, body := lp.body, defers := D.1 }) ∧
   RoundIn (FF cx.ro) 0 P l D.2 ((lp.ps.zip vs.toArray).foldl (fun tmps (t, a) => tmps.setIfInBounds t a) tm0) lp.assign lp.body w T := by
 obtain ⟨l', m', hm', D, tm0, q1, q2, q3, q4, q5⟩ := hr.Ma hk hlp
 rw [hm] at hm'
 cases hm'
 simp only [hpend, Option.isNone_none, if_true] at q1
 refine ⟨tm0, D, q1, ?_⟩
 have hll := dQ q1
 have hls : gz H (ft s.st H false) s.st H 0 = some ei := hl
 have hrel := Mg hr.st hls (nX di)
 have hlX : j6 cx s.st μ H false l := .inr ⟨rfl, ⟨h, k, l, m, zH hh hk, hm, .self _ _⟩⟩
 have hlA : ¬ Own ei (kf H μ) l := fun ho => by
  obtain ⟨i, h', k', c', m', e1, e2, e3, e4⟩ := jR hls ho
  exact td hr.st e1 e2 e3 e4 hh hk hm (.self _ _)
 generalize htm : (lp.ps.zip vs.toArray).foldl (fun tmps (t, a) => tmps.setIfInBounds t a) tm0 = tm
 have htm' : (lp.ps.toList.zip vs).foldl (fun (tm : Array Value) (x : Nat × Value) => tm.setIfInBounds x.1 x.2) tm0 = tm := by
  rw [← htm, ← Array.foldl_toList, Array.toList_zip]
 obtain ⟨v1, v2⟩ := n5 hv
 obtain ⟨c1, c2⟩ := n5 hc
 have hstart : Rel lp.N { jc (j6 cx s.st μ H false) ei (kf H μ) w with ro := some l } (kf H μ) { fr := qk lp.ps.toList gs' ++ qk lp.aw cells', st := ei, df := [] } { tmps := tm, defers := [] } w := by
  refine { st := hrel.ro _, nd := .nil, sz := by rw [← htm']; exact (foldl_set _ _ _ 0).1.trans q2, fr := fun t g hg => ?_ }
  rw [get_append] at hg
  have hslot : ∀ t, t ∈ lp.ps.toList → t < tm0.size := fun t ht => by
   have := dB.1 hpl t ht
   rw [q2]; simpa [gG] using this
  cases hz : get (qk lp.ps.toList gs') t with
  | some g1 =>
   rw [hz] at hg
   cases hg
   obtain ⟨j, e1, e2⟩ := EW hz
   obtain ⟨g0, e3, e4⟩ := v2 j _ e2
   have hj : j < vs.length := by have := (ai.1 e3).1; omega
   refine ⟨vs[j], ?_, si hr.st hls (hrep j g0 _ e3 (ag hj)) e4⟩
   rw [← htm']
   exact A4 _ _ _ j t _ (nX hpn) e1 (ag hj) (hslot t (aj e1))
  | none =>
   rw [hz, Option.none_or] at hg
   obtain ⟨j, e1, e2⟩ := EW hg
   obtain ⟨g0, e3, e4⟩ := c2 j _ e2
   obtain ⟨v, hv0, hrv⟩ := q5 j t g0 e1 e3
   refine ⟨v, ?_, si hr.st hls hrv e4⟩
   have hnot : t ∉ lp.ps.toList := fun ht => by
    obtain ⟨i, hi, rfl⟩ := List.getElem_of_mem ht
    have hlen : i < gs'.length := by rw [hps]; simpa using hi
    have key : ∀ (ts : List Nat) (gs : List G) (i : Nat) (hi : i < ts.length), i < gs.length → get (qk ts gs) ts[i] ≠ none := by
     intro ts
     induction ts with
     | nil => intro gs i hi; cases hi
     | cons x r ih =>
      intro gs i hi hg
      cases gs with
      | nil => cases hg
      | cons y ys =>
       simp only [qk, iS]
       cases i with
       | zero => simp [aW]
       | succ i =>
        simp only [List.getElem_cons_succ]
        cases Nat.beq x (r[i]'(by simpa using hi)) with
        | true => simp
        | false => exact ih ys i (by simpa using hi) (by simpa using hg)
    exact key _ _ i hi hlen hz
   rw [← htm', (foldl_set _ _ _ t).2 hnot]
   exact hv0
 refine roundIn_of_wpIn trivial ?_
 have hA := hcon { jc (j6 cx s.st μ H false) ei (kf H μ) w with ro := some l } (kf H μ) { tmps := tm, defers := [] } w hstart
 refine wpIn_mono (show lp.assign.wpIn ((FF cx.ro).inRound l) 0 P _ _ _ from hA) fun e a1 w1 hq => ?_
 have hnorm : e = .normal := by
  cases e with
  | normal => rfl
  | outgrown => exact hq.elim
  | panic c => obtain ⟨_, _, _, hq, _⟩ := hq; cases hq
  | _ => obtain ⟨_, _, _, hq, _⟩ := hq; exact hq
 subst hnorm
 obtain ⟨μ1, s1, hr1, _, hB⟩ := hq
 have hw1 : w1.heap[l]? = some (.loop { state := .ready, pending := none, fn := D.2, tmps := tm0, params := lp.ps, assign := lp.assign, body := lp.body, defers := D.1 }) := (hr1.st.dq l hll hlA).trans q1
 refine ⟨_, run_beginRound hw1 rfl, ?_⟩
 generalize hbusy : (({ state := .busy, pending := none, fn := D.2, tmps := tm0, params := lp.ps, assign := lp.assign, body := lp.body, defers := D.1 } : Loop)) = busy
 have hs1 : iM (fun b => b = l) w1 (w1.putObj l (.loop busy)) := iM.put _ rfl hw1 rfl
 have hl1 := dQ hw1
 have hr2 : Rel lp.N { ({ jc (j6 cx s.st μ H false) ei (kf H μ) w with ro := some l } : Cx) with w0 := w.putObj l (.loop busy) } μ1 s1 a1 (w1.putObj l (.loop busy)) := by
  have hst2 := hr1.st.shut (w0 := w.putObj l (.loop busy)) hs1 (fun x k1 b m1 h1 h2 _ y hy hz => (hr1.st.cq x k1 b m1 y h1 h2 hy).1 (by rw [hz]; exact hlX)) ⟨rfl, rfl, rfl⟩ fun b hb hnA => by
   by_cases e : b = l
   · subst e; rw [World.putObj_heap_same hl1, World.putObj_heap_same hll]
   · rw [World.putObj_heap_other e, World.putObj_heap_other e]; exact hr1.st.dq b hb hnA
  refine { st := hst2, nd := ?_, sz := hr1.sz, fr := fun t g hg => let ⟨v, hv, hrv⟩ := hr1.fr t g hg; ⟨v, hv, hrv.shut hs1⟩ }
  refine iG.shut hr1.nd hs1 fun d hd D' e hz => ?_
  subst hz
  have key : ∀ {ds : List Deferred} {gs : List G} {O : Nat → Prop} {base : Nat}, iG O base w1 μ1 ds gs → d ∈ ds → ∃ x, w1.heap[D']? = some (.deferred x) := by
   intro ds gs O base hdf
   induction hdf with
   | nil => intro h; cases h
   | mark _ _ _ h4 _ _ ih =>
    intro hd
    rcases bf.1 hd with rfl | hd
    · cases e; exact ⟨_, h4⟩
    · exact ih hd
   | ba _ _ ih =>
    intro hd
    rcases bf.1 hd with rfl | hd
    · cases e
    · exact ih hd
  obtain ⟨x, hx⟩ := key hr1.nd hd
  rw [hw1] at hx; cases hx
 refine wpIn_mono (show lp.body.wpIn ((FF cx.ro).inRound l) 0 P _ _ _ from hB _ μ1 a1 _ hr2) fun e a3 w3 hq => ?_
 have fin : ∀ (μ3 : Mu) (s3 : St) (j : Option Code), cI { ({ jc (j6 cx s.st μ H false) ei (kf H μ) w with ro := some l } : Cx) with w0 := w.putObj l (.loop busy) } μ3 s3.st w3 → (∃ st', pe s3.st st' ∧ Q j st') →
   ∃ v w', (Instr.endRound l j).run P w3 = .ok v w' ∧ T (.returned v) w' := by
  rintro μ3 s3 j hr3 ⟨st', hsub, hQ⟩
  have hw3 : w3.heap[l]? = some (.loop busy) := (hr3.dq l hll hlA).trans (World.putObj_heap_same hll)
  have hl3 := dQ hw3
  refine ⟨_, _, run_endRound j hw3, ?_⟩
  have hr3 := hr3.sub hsub
  have hs3 : iM (fun b => b = l) w3 (w3.putObj l (.loop { state := .ready, pending := none, fn := D.2, tmps := tm0, params := lp.ps, assign := lp.assign, body := lp.body, defers := D.1 })) := iM.put _ rfl hw3 rfl
  have hr4 := (hr3.shut (w0 := w) hs3 (fun x k1 b m1 h1 h2 _ y hy hz => (hr3.cq x k1 b m1 y h1 h2 hy).1 (by rw [hz]; exact hlX)) ⟨rfl, rfl, rfl⟩ fun b hb hnA => by
   by_cases e : b = l
   · subst e; rw [World.putObj_heap_same hl3]; exact q1.symm
   · rw [World.putObj_heap_other e, hr3.dq b hb hnA]; exact World.putObj_heap_other e).ro none
  have := hT j st' μ3 _ hQ hr4 D tm0 (World.putObj_heap_same hl3)
  rw [LG] at this
  rw [← hbusy]
  exact this
 cases e with
 | normal => obtain ⟨μ3, s3, hr3, _, hq⟩ := hq; exact fin μ3 s3 none hr3.st hq
 | ret => obtain ⟨μ3, s3, hr3, _, hq⟩ := hq; exact fin μ3 s3 (some .ret) hr3.st hq
 | exit id => obtain ⟨μ3, s3, hr3, _, hq⟩ := hq; exact fin μ3 s3 (some (.exit id)) hr3.st hq
 | goto t => obtain ⟨_, _, _, _, _, _, hq⟩ := hq; exact hq.elim
 | panic c => obtain ⟨_, _, _, _, _, _, hq⟩ := hq; exact hq.elim
 | outgrown => exact hq.elim
theorem GL.cW {x:Operand}{xs:Array Operand}{ts:Array TypeId}{gs gs' cells':List G}{ei:List (Nat×av)}{Q:Option Code→List (Nat×av)→Prop}{h:Nat}{k:av}{lp:Lp}(H bk:List Nat) (hx:ev s x=some (.cW h)) (hxs:wu s xs.toList=some gs) (hk:ay s.st h=some k) (hlp:k.lp=some (.loop lp))
  (hpend:lp.nU=none) (hh:dD H h=none) (hv:bR.go H [] gs=some gs') (hc:bR.go H [] k.cells=some cells') (hl:gz H [] s.st H 0=some ei) (di:qg H=true) (hps:gs'.length=lp.ps.size) (hpn:qg lp.ps.toList=true) (hpl:lp.ps.toList.all (Nat.blt · lp.N)=true)
  (hcon:GY P lp cells' gs' ei Q) (hw:ej ops s guard=some true) (hN:Nat.blt d N=true)
  (hres:∀j st',Q j st'→∃s2,qc false s H st' bk=some s2∧∃k2,ay s2.st h=some k2∧k2.lp=some (.loop lp)∧∃b,j.isNone=b∧GL P N cx ops R rest (({s2 with st:=dF s2.st h {k2 with lp:=some (.loop {lp with nU:=j})}}:St).put d (.val (.bool b)))):
  GL P N cx ops R (⟨some d,.call ⟨.value x,xs,ts⟩,ty,pos,after,guard⟩::rest) s:=by
 intro μ a w hr;unfold wpListIn;rw[if_pos (fB hr hw)];refine⟨fun _ _=>trivial,?_⟩;rw[Oper.semAt_eq _ _ _ (fun _ h=>by cases h)];obtain⟨l,m,hm,hlpr⟩:=hr.Ma hk hlp;obtain⟨e1,e2⟩:=oJ hxs;have hls:gz H (ft s.st H false) s.st H 0=some ei:=hl;have hxv:a.eval x=.func (.yield l) #[] #[]:=by
  have hv:=hr.ev hx;generalize a.eval x=v at hv;cases hv with
  | aF h=>cases h
  | cW _ b m' hm'=>rw[hm] at hm';cases hm';rfl
 obtain⟨tm0,D,q1,hround⟩:=PP (P:=P) (vs:=xs.toList.map a.eval) hr hk hlp hpend hm H hh hv hc hl di hps hpn hpl (by simp[e1]) (fun j g v hg hv=>by
  obtain⟨x,hxj,he⟩:=e2 j g hg;rw[ak,hxj] at hv;cases hv;exact hr.ev he) hcon (T:=fun
   | .returned v,w''=>wpListIn (FF cx.ro) 0 P ops (lift N cx R) rest (a.put (some d) v) w''
   | .panicked chain,w''=>lift N cx R (.panic chain) a w''
   | .outgrown,_=>LetsOut (lift N cx R)) (by
  intro j st' μ'' w3 hQ hC D tm hw3;obtain⟨s2,hb,k2,hk2,hk2l,b0,hb0,hgl⟩:=hres j st' hQ;subst hb0;obtain⟨r1,_,_,_⟩:=wL hr hls (nX di) hC hb;have hm2:kg μ μ'' st' bk h=some (l,m):=by
   unfold kg;have hbk:rL st' bk h=none:=by
    unfold qc at hb;cases hok:qp s H st' bk&&s.df.all (fun g=>!(rk (eM st' H 0) g)) with
    | false=>rw[hok] at hb;cases hb
    | true=>
     simp only[af] at hok;cases hI:rL st' bk h with
     | none=>rfl
     | some j'=>
      rcases(ol hok.1 hI).2.2.2 with ⟨_,e⟩ | ⟨_,_,e | e⟩
      ·exact absurd (nY e) (pH hh)
      ·exact absurd e (pH hh)
      ·rw[(gr e).1] at hk;cases hk
   rw[hbk];exact hm
  have r2:=r1.WT hk2 hk2l hm2 j (D:=D) (vs:=tm) (by rw[hpend];exact hw3);exact hgl _ _ _ (r2.put (by simpa[gG] using hN) (.aF (.val _))))
 have hrun:(execOp a.eval ⟨some d,.call ⟨.value x,xs,ts⟩,ty,pos,after,guard⟩).run P w=.ok (.round l D.2 ((lp.ps.zip (xs.toList.map a.eval).toArray).foldl (fun tmps (t,a)=>tmps.setIfInBounds t a) tm0) lp.assign lp.body) w:=by
  have e:xs.map a.eval=(xs.toList.map a.eval).toArray:=by rw[←iu]
  have hy:=run_yield (P:=P) (args:=(xs.toList.map a.eval).toArray) q1 (by
   have:=(n5 hv).1;simp only[List.size_toArray,aN];omega)
  simp[execOp,resolve,invoke,Deferred.ofValue,hxv,e,hy]
 rw[hrun];exact⟨(fun h=>by cases h),hround⟩
end
end Go.AM
/-
 AM,part BE:the loop over a function.
-/
namespace Go.AM
section
variable {P:Program}{N:Nat}{cx:Cx}{s:St}
theorem Rel.Zp {μ : Mu} {a : Act} {w : World} (hr : Rel N cx μ s a w) {hd : Nat} (k : av) (o : Obj) (m : Nat) (hfr : fresh s hd = true)
    (hblk : ∀ O' μ', (∀ b, b < w.heap.size → ¬ cx.O s.st μ b → ¬ O' b) → (∀ y, y ≠ hd → μ' y = μ y) → aV O' cx.base (w.alloc o) μ' k (some (w.heap.size, m, []))) :
    Rel N cx (lk μ hd (some (w.heap.size, m, []))) { fr := s.fr, st := (hd, k) :: s.st, df := s.df } a (w.alloc o) := by
  obtain ⟨f1, f2, f3, f4, f5⟩ := gr hfr
  have h := hr.st
  have hO : ∀ b, b < w.heap.size → ¬ cx.O s.st μ b → ¬ cx.O ((hd, k) :: s.st) (lk μ hd (some (w.heap.size, m, []))) b := by
    intro b hb hn ho
    rcases ho with ho | ⟨x, k', c, m', h1, h2, hi⟩
    · exact hn (.inl ho)
    · by_cases e : x = hd
      · subst e; rw [b7] at h2; cases h2; rw [In.plain.1 hi] at hb; omega
      · rw [aB k _ e] at h1; rw [aZ e] at h2; exact hn (.inr ⟨x, k', c, m', h1, h2, hi⟩)
  have hlt : ∀ x k' b m' y, ay s.st x = some k' → μ x = some (b, m') → In y b m' → y < w.heap.size := fun x k' b m' y h1 h2 h3 => qC h ⟨x, k', b, m', h1, h2, h3⟩
  have hkept := p8 (cx.O s.st μ) w o
  refine { st := { en := ?_, de := ?_, cq := ?_, fD := ?_, fg := h.fg, hb := ?_, os := h.os, tape := h.tape, output := h.output, gl := h.gl, dq := ?_ }, nd := ?_, sz := hr.sz, fr := ?_ }
  · intro x k' h1
    by_cases e : x = hd
    · subst e
      rw [dU] at h1; cases h1
      rw [b7]
      exact hblk _ _ hO fun y hy => aZ hy
    · rw [aB k _ e] at h1
      rw [aZ e]
      refine ((h.en x k' h1).mono (fun b m hm y hy => dO w _ y (hlt x k' b m y h1 hm hy)) hkept hO).gS fun hp g hg y hy => aZ ?_
      intro e
      subst e
      rw [sY f3 h1 hp hg] at hy
      cases hy
  · intro x x' k1 k2 y b m1 b2 m2 h1 h2 h3 h4 hi hi'
    by_cases e : x = hd
    · by_cases e' : x' = hd
      · rw [e, e']
      · subst e
        rw [b7] at h3; rw [aZ e'] at h4; rw [aB k _ e'] at h2
        cases h3
        have := hlt x' k2 _ m2 y h2 h4 hi'
        rw [In.plain.1 hi] at this
        omega
    · by_cases e' : x' = hd
      · subst e'
        rw [b7] at h4; rw [aZ e] at h3; rw [aB k _ e] at h1
        cases h4
        have := hlt x k1 _ m1 y h1 h3 hi
        rw [In.plain.1 hi'] at this
        omega
      · rw [aB k _ e] at h1; rw [aB k _ e'] at h2; rw [aZ e] at h3; rw [aZ e'] at h4
        exact h.de x x' k1 k2 y b m1 b2 m2 h1 h2 h3 h4 hi hi'
  · intro x k' b m1 y h1 h2 hi
    by_cases e : x = hd
    · subst e
      rw [b7] at h2
      cases h2
      rw [In.plain.1 hi]
      refine ⟨fun hx => ?_, .inl h.hb, by simp, fun _ => h.hb⟩
      have := h.fg _ hx
      have := h.hb
      omega
    · rw [aB k _ e] at h1; rw [aZ e] at h2
      obtain ⟨a1, a2, a3, a4⟩ := h.cq x k' b m1 y h1 h2 hi
      exact ⟨a1, a2, by simp only [World.size_alloc]; omega, a4⟩
  · intro x k1 h1 h2
    by_cases e : x = hd
    · subst e; rw [j5 f5] at h2; cases h2
    · rw [aB k _ e] at h1; rw [aZ e]; exact h.fD x k1 h1 h2
  · simp only [World.size_alloc]; have := h.hb; omega
  · intro b hb hA
    rw [dO w _ b (by have := h.hb; omega)]
    exact h.dq b hb hA
  · exact (hr.nd.mono hkept hO).gS (fun g hg y hy => aZ fun e => by subst e; rw [pP f4 hg] at hy; cases hy)
  · intro t g hg
    obtain ⟨v, hv, hrv⟩ := hr.fr t g hg
    refine ⟨v, hv, (hrv.mono hkept hO (aG _)).gS fun y hy => aZ ?_⟩
    intro e
    subst e
    rw [mX f2 hg] at hy
    cases hy
theorem Rel.marked {μ : Mu} {a : Act} {w : World} (hr : Rel N cx μ s a w) : Rel N cx μ s { a with defers := { target := .collected w.heap.size, args := #[] } :: a.defers } (w.alloc (.deferred (some []))) := by
  have hr1 := hr.kept (w' := w.alloc (.deferred (some []))) (by simp) (fun b hb => dO w _ b hb) rfl rfl rfl
  refine { st := hr1.st, nd := .mark (D := w.heap.size) ?_ hr.st.hb (by simp) (World.alloc_heap_new _ _) ?_ hr1.nd, sz := hr1.sz, fr := hr1.fr }
  · rintro (ho | ho)
    · have := hr.st.fg _ ho; have := hr.st.hb; omega
    · have := qC hr.st ho; omega
  · intro d hd e
    have key : ∀ {ds : List Deferred} {gs : List G} {O : Nat → Prop} {base : Nat}, iG O base w μ ds gs → d ∈ ds → ∀ D, d.target = .collected D → D < w.heap.size := by
      intro ds gs O base hdf
      induction hdf with
      | nil => intro h; cases h
      | mark _ _ h3 _ _ _ ih =>
        intro hd D e
        rcases bf.1 hd with rfl | hd
        · cases e; exact h3
        · exact ih hd D e
      | ba _ _ ih =>
        intro hd D e
        rcases bf.1 hd with rfl | hd
        · cases e
        · exact ih hd D e
    exact absurd (key hr.nd hd _ e) (mT _)
def Ri (s s':St):Prop:=(∀t g,get s'.fr t=some g→get s.fr t=some g)∧(∀t k,ay s'.st t=some k→ay s.st t=some k)∧s.df=s'.df
theorem Rel.Z5 {N:Nat}{cx:Cx}{μ:Mu}{s s':St}{a:Act}{w:World}(h:Rel N cx μ s a w) (hs:Ri s s'):Rel N cx μ s' a w:=by
 obtain⟨hf,ho,hd⟩:=hs;have hO:∀b,b<w.heap.size→¬cx.O s.st μ b→¬cx.O s'.st μ b:=fun b _ hn ho'=>hn (ho'.imp id fun ⟨x,k,c,m,h1,h2,hi⟩=>⟨x,k,c,m,ho _ _ h1,h2,hi⟩);have hr:=h.st;refine {st:={en:=fun x k hk=>(hr.en x k (ho _ _ hk)).mono (fun _ _ _ _ _=>rfl) (Kept.refl _ _) hO,de:=fun x x' k k' y b m b' m' h1 h2=>hr.de x x' k k' y b m b' m' (ho _ _ h1) (ho _ _ h2),cq:=fun x k b m y h1 h2=>hr.cq x k b m y (ho _ _ h1) h2,fD:=fun x k h1 h2=>hr.fD x k (ho _ _ h1) h2,fg:=hr.fg,hb:=hr.hb,os:=hr.os,tape:=hr.tape,output:=hr.output,gl:=hr.gl,dq:=hr.dq},nd:=hd▸h.nd.mono (Kept.refl _ _) hO,sz:=h.sz,fr:=?_};intro t g hg;obtain⟨v,hv,hrv⟩:=h.fr t g (hf _ _ hg);exact⟨v,hv,hrv.mono (Kept.refl _ _) hO (aG _)⟩
theorem Rel.Ug {μ:Mu}{a:Act}{w:World}(hr:Rel N cx μ s a w){h l:Nat}{m:Mm}{k:av}{s3:St}{o o':Obj}(hk:ay s.st h=some k) (hm:μ h=some (l,m)) (ho:w.heap[l]?=some o) (hc:Qv o=false) (hd:∀x,o≠.deferred x) (hb:cx.base≤l) (hs:Ri s s3) (hn:ay s3.st h=none):
  Rel N cx μ s3 a (w.putObj l o'):=by
 have h1:=hr.Z5 hs;have hs':iM (fun b=>b=l) w (w.putObj l o'):=iM.put _ rfl ho hc;refine {st:=h1.st.shut (w0:=cx.w0) hs' (fun x k1 b m1 q1 q2 _ y hy hz=>?_) ⟨rfl,rfl,rfl⟩ (fun b hb' hA=>?_),nd:=iG.shut h1.nd hs' fun d hd' D e hz=>?_,sz:=h1.sz,fr:=fun t g hg=>let ⟨v,hv,hrv⟩:=h1.fr t g hg;⟨v,hv,hrv.shut hs'⟩}
 ·subst hz;have:=hr.st.de x h k1 k y b m1 y m (hs.2.1 _ _ q1) hk q2 hm hy (.self _ _);subst this;rw[hn] at q1;cases q1
 ·rw[World.putObj_heap_other (by omega)];exact h1.st.dq b hb' hA
 ·subst hz;have key:∀{ds:List Deferred}{gs:List G}{O:Nat→Prop}{base:Nat},iG O base w μ ds gs→d∈ds→∃x,w.heap[D]?=some (.deferred x):=by
   intro ds gs O base hdf
   induction hdf with
   | nil=>intro h;cases h
   | mark _ _ _ h4 _ _ ih=>
    intro hd;rcases bf.1 hd with rfl | hd
    ·cases e;exact⟨_,h4⟩
    ·exact ih hd
   | ba _ _ ih=>
    intro hd;rcases bf.1 hd with rfl | hd
    ·cases e
    ·exact ih hd
  obtain⟨x,hx⟩:=key h1.nd hd';rw[ho] at hx;exact hd x (dV hx)
def vj (cells:List G) (lp:Lp):av:=⟨0,false,false,false,0,cells,some (.loop lp)⟩
def Wz (R:Exit→St→Prop) (s:St):Option Code→Prop
 | none=>R .normal s
 | some .ret=>R .ret s
 | some (.exit id)=>R (.exit id) s
 | _=>False
def getAll (fr:List (Nat×G)):List Nat→Option (List G)
 | []=>some []
 | t::r=>match get fr t,getAll fr r with
  | some g,some gs=>some (g::gs)
  | _,_=>none
theorem Gy {fr:List (Nat×G)}:∀{ts:List Nat}{gs:List G},getAll fr ts=some gs→∀{j:Nat}{g:G},gs[j]?=some g→∃t,ts[j]?=some t∧get fr t=some g
 | [],_,h,j,g,e=>by cases h;simp at e
 | t::r,gs,h,j,g,e=>by
  simp only[getAll] at h;cases h1:get fr t with
  | none=>rw[h1] at h;cases h
  | some g1=>
   rw[h1] at h;cases h2:getAll fr r with
   | none=>rw[h2] at h;cases h
   | some r1=>
    rw[h2] at h;cases h;cases j with
    | zero=>cases e;exact⟨t,rfl,h1⟩
    | succ j=>exact Gy h2 e
theorem aU.Tm {O:Nat→Prop}{base:Nat}{w:World}{μ:Mu}{f:FuncId}{caps:List G}{v:Value}(h:aU O base w μ (.ba f caps) v):
  ∃us:List Value,v=sE f us∧us.length=caps.length∧∀(j:Nat) (g:G) (v:Value),caps[j]?=some g→us[j]?=some v→aU O base w μ g v:=by
 cases h with
 | aF h=>cases h
 | ba _ _ us hl hr=>exact⟨us,rfl,hl,hr⟩
theorem GW.rangeFunc {g : Operand} {ps : Array Tmp} {nF body : Code} {f : FuncId} {caps cells gs' : List G} {ei : List (Nat × av)} {Q : G → List (Nat × av) → Prop} {f0 : FuncId} {R : Exit → St → Prop} (hb : tG.contains f = false) (hro : cx.ro = none) (lp : Option Code → Lp) (hd : Nat) (aw : List Nat) (H : List Nat) (vw : Bool) (bk : List Nat)
    (hlp : ∀ j, lp j = ⟨f0, N, aw, ps, nF, body, j⟩) (hg : ev s g = some (.ba f caps)) (hc : ∀ args w, (callFunc f args).run P w = .ok (.enter f args) w) (hcells : getAll s.fr aw = some cells) (hfr : fresh s hd = true)
    (hl : gz H (ft ((hd, vj cells (lp none)) :: s.st) H vw) ((hd, vj cells (lp none)) :: s.st) H 0 = some ei) (di : qg H = true) (hdH : hd ∈ H) (hcon : GM P f gs' ei Q)
    (hv : bR.go H (ft ((hd, vj cells (lp none)) :: s.st) H vw) (.cW hd :: caps) = some gs')
    (hres : ∀ r st', Q r st' → ∃ s2 s3 j k2, qc vw { fr := s.fr, st := (hd, vj cells (lp none)) :: s.st, df := s.df } H st' bk = some s2 ∧ (eM st' H 0).contains hd = false ∧ ay s2.st hd = some k2 ∧ k2.lp = some (.loop (lp j)) ∧ Ri s2 s3 ∧ ay s3.st hd = none ∧ Wz R s3 j) :
    GW P N cx (.rangeFunc g ps nF body) R s := by
  intro μ a w hr
  refine wpIn_rangeFunc ?_
  intro fn _
  have hround : (FF cx.ro).round = none := hro
  rw [hround]
  obtain ⟨us, hav, hlu, _⟩ := (hr.ev hg).Tm
  have hcv : ∀ us, sE f us = .func (.func f) #[] us.toArray := fun us => by unfold sE; rw [hb]
  rw [hcv] at hav
  refine ⟨w.heap.size + 1, _, (w.alloc (.deferred (some []))).alloc (.loop { state := .ready, pending := none, fn := fn, tmps := a.tmps, params := ps, assign := nF, body := body, defers := w.heap.size }), { target := .fn (.func f) us.toArray, args := #[.func (.yield (w.heap.size + 1)) #[] #[]] }, (w.alloc (.deferred (some []))).alloc (.loop { state := .ready, pending := none, fn := fn, tmps := a.tmps, params := ps, assign := nF, body := body, defers := w.heap.size }), f, #[.func (.yield (w.heap.size + 1)) #[] #[]] ++ us.toArray, (w.alloc (.deferred (some []))).alloc (.loop { state := .ready, pending := none, fn := fn, tmps := a.tmps, params := ps, assign := nF, body := body, defers := w.heap.size }), run_enterLoop_outer _ _ _ _ _, ?_, fun _ _ => trivial, ?_, fun h => (by cases h), ?_⟩
  · simp only [resolve, hav]
    simp [go_sem]
  · simp [invoke, go_sem, hc]
  ·
    generalize hW : (w.alloc (.deferred (some []))).alloc (.loop { state := .ready, pending := none, fn := fn, tmps := a.tmps, params := ps, assign := nF, body := body, defers := w.heap.size }) = W1
    have hr1 := hr.marked
    have hsz1 : (w.alloc (.deferred (some []))).heap.size = w.heap.size + 1 := by simp
    have hr2 := hr1.Zp (hd := hd) (vj cells (lp none)) (.loop { state := .ready, pending := none, fn := fn, tmps := a.tmps, params := ps, assign := nF, body := body, defers := w.heap.size }) 0 hfr (fun O' μ' hO hμ => by
      unfold aV
      simp only [vj]
      refine ⟨(w.heap.size, fn), a.tmps, ?_, ?_, rfl, rfl, fun j t g ht hg => ?_⟩
      · rw [hlp]; exact World.alloc_heap_new _ _
      · rw [hlp]; exact hr.sz
      · rw [hlp] at ht
        obtain ⟨t', e1, e2⟩ := Gy hcells hg
        rw [ht] at e1
        cases e1
        obtain ⟨v, hv, hrv⟩ := hr1.fr t g e2
        refine ⟨v, hv, (hrv.mono (p8 _ _ _) hO (aG _)).gS fun y hy => hμ y fun e => ?_⟩
        subst e
        rw [mX (gr hfr).2.1 e2] at hy; cases hy)
    rw [hW, hsz1] at hr2
    have hgv2 := hr2.ev (x := g) (g := .ba f caps) (by cases g <;> exact hg)
    rw [show ({ a with defers := { target := .collected w.heap.size, args := #[] } :: a.defers } : Act).eval g = .func (.func f) #[] us.toArray from hav] at hgv2
    obtain ⟨us', e1, _, hrc⟩ := hgv2.Tm
    rw [hcv] at e1
    have e2 : us' = us := by
      injection e1 with _ _ e3
      have := congrArg Array.toList e3
      simpa using this.symm
    subst e2
    have hcall := xj (P := P) (f := f) (vs := .func (.yield (w.heap.size + 1)) #[] #[] :: us') hr2 hv hl di (by simp [hlu]) (fun j g v hg hv => by
      cases j with
      | zero => cases hg; cases hv; exact .cW hd _ (0, []) (b7 _ _ _)
      | succ j => exact hrc j g v hg hv) hcon
    have hargs : (Value.func (.yield (w.heap.size + 1)) #[] #[] :: us').toArray = #[.func (.yield (w.heap.size + 1)) #[] #[]] ++ us'.toArray := by simp
    rw [hargs] at hcall
    refine AD.2 (hcall.mono ?_)
    rintro e w2 (⟨v, r, st', μ'', rfl, hq, hC, _⟩ | ⟨_, _, _, _, h, _⟩)
    rotate_left
    · exact h.elim
    obtain ⟨s2, s3, j, k2, hb, hdd, hk2, hk2l, hsub, hn3, hR⟩ := hres r st' hq
    obtain ⟨r2, _, _, r4⟩ := wL hr2 hl (nX di) hC hb
    have hm2 := r4 hd hdH (by simpa using hdd)
    rw [b7] at hm2
    obtain ⟨l, m, hm3, D, vs, q1, q2, _, _, _⟩ := r2.Ma hk2 hk2l
    obtain ⟨mE, hmE, _⟩ := hm2.get rfl
    rw [hmE] at hm3
    cases hm3
    have hend := run_endLoop (P := P) q1 (by cases (lp j).nU <;> simp)
    refine ⟨_, _, hend, ?_⟩
    have r5 := r2.Ug (o' := .loop { state := .exhausted, pending := (lp j).nU, fn := D.2, tmps := vs, params := (lp j).ps, assign := (lp j).assign, body := (lp j).body, defers := D.1 }) hk2 hmE q1 rfl (fun x h => by cases h) (by have := hr.st.hb; omega) hsub hn3
    have hpend : (lp j).nU = j := by rw [hlp]
    simp only [hpend] at r5 ⊢
    cases j with
    | none => exact ⟨_, s3, r5, hR⟩
    | some c =>
      cases c with
      | ret => exact wpIn_ret ⟨_, s3, r5, hR⟩
      | exit id => exact wpIn_exit ⟨_, s3, r5, hR⟩
      | _ => exact hR.elim
end
end Go.AM
/-
 AM,part BF:how a round was left,as data;lists of a callee's own;structs in slices of the call's own.
-/
namespace Go.AM
section
variable {P:Program}{N:Nat}{cx:Cx}{Q:Exit→St→Prop}{s:St}{ops:Array Oper}{rest:List Oper}
end
section
variable {α:Type}[aH α]
variable {P:Program}{N:Nat}{cx:Cx}{Q:Exit→St→Prop}{s:St}{ops:Array Oper}{rest:List Oper}
variable {W:List Nat}{dst:Option Tmp}{ty:TypeId}{pos:String}{after:Array Edge}{guard:Option (Nat×Bool)}
theorem Tg {l:List α}{i:Nat}(x:α) (h:i<l.length):(cr l).take (0+i*aH.sz α)++aH.cells x++(cr l).drop (0+i*aH.sz α+aH.sz α)=cr (l.set i x):=by
 have e:0+i*aH.sz α+aH.sz α=(i+1)*aH.sz α:=by rw[da,ff,Nat.one_mul]
 rw[e,Cn,da,uz,fk,if_pos h,D4,Th,aR]
theorem JN {l:List α}{i j:Nat}{x x':α}{g:G}(h:l[i]?=some x) (hj:j<aH.sz α) (hx:aH.cells x'=(aH.cells x).set j g):(cr l).set (0+i*aH.sz α+j) g=cr (l.set i x'):=by
 rw[da];apply du;intro n;have hil:=(ai.1 h).1;rw[dN];have hset:cr (l.set i x')=(cr l).take (0+i*aH.sz α)++aH.cells x'++(cr l).drop (0+i*aH.sz α+aH.sz α):=(Tg x' hil).symm;rw[hset,hx,aR,bS,br,fG,da];have hm:i*aH.sz α+aH.sz α≤l.length*aH.sz α:=by rw[←Nat.succ_mul];exact bW _ hil
 rw[iN (by omega)]
 by_cases e:i*aH.sz α+j=n
 ·rw[if_pos e,if_pos (by omega),if_neg (by omega),bS,fP,aH.len,if_pos (by omega),dN,if_pos (by omega),if_pos (by rw[aH.len];omega)]
 ·rw[if_neg e];split
  ·rename_i h1;rw[bo,if_pos h1]
  ·rename_i h1;rw[bS,fP,aH.len];split
   ·rename_i h2;rw[dN,if_neg (by omega),←re h (by omega)];congr 1;omega
   ·rename_i h2;rw[bE];congr 1;omega
end
end Go.AM
/-
 AM,part BG:make of elements of any make.
-/
namespace Go.AM
section
variable {α:Type}[aH α]
variable {P:Program}{N:Nat}{cx:Cx}{s:St}{W:List Nat}{d:Nat}
variable {ty:TypeId}{pos:String}{after:Array Edge}{guard:Option (Nat×Bool)}
variable {dst:Option Tmp}
end
end Go.AM
/-
 AM,part BH:a slice of the call's own in the place of one that was lent.
-/
namespace Go.AM
section
variable {P:Program}{N:Nat}{cx:Cx}{Q:Exit→St→Prop}{s:St}{ops:Array Oper}{rest:List Oper}
def aay:G→G
 | .val v=>nQ v
 | g=>RC g
variable {dst:Option Tmp}{ty:TypeId}{pos:String}{after:Array Edge}{guard:Option (Nat×Bool)}
theorem PY.Zj {t e:TypeId}{x:Operand}(hx:ev s x=some (.val (.slice none 0 0))) (ht:P.underlying t=some (.slice e)):PY P s ⟨dst,.call ⟨.builtin .cap,#[x],#[t]⟩,ty,pos,after,guard⟩ (.val (.int .i64 0)):=fun _ _ _ a w hrel=>by
 refine⟨_,.aF (.val _),fun w'=>?_⟩;simp[execOp,resolve,invoke,builtin,Builtin.cap_,hrel.val hx,run_underlying ht,goInt]
theorem PY.Yc {α:Type}[aH α]{t e:TypeId}{x hi:Operand}{k:IntKind}(hx:ev s x=some (.val (.slice none 0 0))) (hh:ev s hi=some (.val (.int k 0))) (ht:P.underlying t=some (.slice e)) (hsz:∀w,(sizeOf e).run P w=.ok (aH.sz α) w):
  PY P s ⟨dst,.slice t x none (some hi) none,ty,pos,after,guard⟩ (.val (.slice none 0 0)):=fun N cx μ a w hr=>by
 refine⟨_,.aF (.val _),fun w'=>?_⟩;have:=va (α:=α) (P:=P) ht hsz (k:=k) none 0 0 (iY 0) (iY 0) w';simp[execOp,hr.val hx,hr.val hh,this,sliced]
end
end Go.AM
/-
 AM,part BI:make with a capacity;an append of a make to the nil slice.
-/
namespace Go.AM
section
variable {P:Program}
theorem Ek (w:World) (t u ty e:TypeId) (i:TypeInfo) (z:Value) (k:IntKind) (ku:IntKind) (ht:P.underlying t=some (.slice e)) (hu:P.underlying u=some (.int ku)) (hi:P.info? e=some i) (hz:i.zero=some z)
  (n:Int) (h0:0<n) (hsz:0<i.size) (h63:n≤9223372036854775807) (h48:n*i.bytes≤281474976710656):
  (Builtin.append_ #[t,u] ty #[.slice none 0 0,.int k n]).run P w=
   .ok (.slice (some ⟨w.heap.size,0,none⟩) n.toNat (grownCap w n.toNat 0 e)) (w.drew.alloc (.cells (Builtin.zeroCells z.cells n.toNat++Builtin.zeroCells z.cells (grownCap w n.toNat 0 e-n.toNat)) e)):=by
 have hw:IntKind.i64.wrap n=n:=IntWalk.i64_in n ⟨by omega,by omega⟩;have hn:¬n<0:=by omega
 have hn2:n.toNat≠0:=by omega
 have h63':¬(9223372036854775807<(n.toNat:Int)):=by omega
 have hle:¬n≤0:=by omega
 have uM:¬(9223372036854775807<max n 0):=by omega
 have hb:¬(281474976710656<n*i.bytes):=by omega
 have h48':¬(281474976710656<Builtin.nextslicecap n.toNat 0*i.bytes):=by
  rw[nextslicecap_zero (by omega)];have:((n.toNat*i.bytes:Nat):Int)=n*i.bytes:=by rw[Int.natCast_mul,gD (by omega)]
  omega
 have hmul:¬(n.toNat*i.size=0):=by
  rw[Nat.mul_eq_zero];omega
 simp[Builtin.append_,run_underlying ht,run_underlying hu,sizeOf,typeInfo,zeroValue,hi,hz,asInt,asIntOf,hw,hle,uM,hn,hb,hn2,h63',h48',Question.forced,run_firstCells_none,newRow,grownCap];exact fun h=>absurd h hmul
end
section
variable {α:Type}[aH α]
variable {P:Program}{N:Nat}{cx:Cx}{s:St}{W:List Nat}{d:Nat}
variable {ty:TypeId}{pos:String}{after:Array Edge}{guard:Option (Nat×Bool)}
theorem Ge {O:Nat→Prop}{base:Nat}{w:World}{μ:Mu}{x:α}{z:Value}{e:TypeId}{m:Nat}{cs:Array Value}(hzs:z.cells.size=aH.sz α) (he:z.cells.toList.map nQ=aH.cells x)
  (hcs:∀j,j<m*aH.sz α→cs[j]?=(madeCells z.cells (m*aH.sz α))[j]?) (j:Nat) (g':G) (hg':(cr (List.replicate m x))[j]?=some g'):
  ∃v,cs[j]?=some v∧cZ O base w μ ⟨e,true,true,true,aH.sz α,cr (List.replicate m x),none⟩ g' v:=by
 have hpos:0<aH.sz α:=aH.pos;unfold cr at hg';rw[tX aH.cells (aH.sz α) hpos (List.replicate m x) (fun a _=>aH.len a) j,ko] at hg';split at hg'
 ·rename_i hj;simp only[aa] at hg';rw[←he,ak] at hg';have hlt:j%aH.sz α<z.cells.toList.length:=by rw[b9,hzs];exact Nat.mod_lt _ hpos
  rw[ag hlt] at hg';cases hg';have hjn:j<m*aH.sz α:=(Nat.div_lt_iff_lt_mul hpos).1 hj;refine⟨z.cells.toList[j%aH.sz α],?_,?_⟩
  ·rw[hcs j hjn];have hmod:j%z.cells.size=j%aH.sz α:=by rw[hzs]
   rw[b9] at hlt;simp[madeCells,hjn,hmod,hlt]
  ·unfold cZ;exact Bt _
 ·cases hg'
theorem ET.Gd {x:α}{t e:TypeId}{xo yo:Operand}{z:Value}{bt sz:Nat}{k k':IntKind}{n c:Int}(hd:Nat) (hx:ev s xo=some (.val (.int k n))) (hy:ev s yo=some (.val (.int k' c)))
  (ht:P.underlying t=some (.slice e)) (hi:(P.info? e).map (fun i=>(i.zero,i.size,i.bytes))=some (some z,sz,bt)) (hzs:z.cells.size=sz) (hsz:aH.sz α=sz) (he:z.cells.toList.map nQ=aH.cells x)
  (h0:0≤n) (hnc:n≤c) (hb:(bt:Int)*c≤281474976710656) (h63:c≤9223372036854775807) (hfr:fresh s hd=true):
  cm P W s ⟨some d,.makeSlice t xo yo,ty,pos,after,guard⟩ (·={fr:=(d,.aL hd (aH.sz α) 0 (List.replicate n.toNat x).length)::s.fr,st:=(hd,⟨e,true,true,true,aH.sz α,cr (List.replicate n.toNat x),none⟩)::s.st,df:=s.df}):=by
 subst hsz;refine cm.of (s1:={fr:=s.fr,st:=(hd,⟨e,true,true,true,aH.sz α,cr (List.replicate n.toNat x),none⟩)::s.st,df:=s.df}) (g:=.aL hd (aH.sz α) 0 (List.replicate n.toNat x).length) rfl (fun _ h=>by cases h) ?_;intro N cx μ a w hr;obtain⟨i,hi1,hi2⟩:=az.1 hi;simp only[qt] at hi2;obtain⟨hz,hs1,hb1⟩:=hi2;have hms:(madeCells z.cells (c.toNat*i.size)).size=c.toNat*aH.sz α:=by rw[size_madeCells,hs1]
 have hle:n.toNat*aH.sz α≤c.toNat*aH.sz α:=bW _ (by omega);obtain⟨μ',w',rfl,h1,h2,h3⟩:=hr.tO (k:=⟨e,true,true,true,aH.sz α,cr (List.replicate n.toNat x),none⟩) (cs:=madeCells z.cells (c.toNat*i.size)) hfr rfl (by rw[hms];simp only[fG,oM];exact hle)
  (fun _=>by rw[hms];exact bW _ (by unfold maxLen;omega))
  (fun j g' hg'=>Ge hzs he (fun j hj=>by
   rw[hs1];have h5:j<c.toNat*aH.sz α:=cJ hj hle;simp[madeCells,hj,h5]) j g' hg')
  (fun h=>by cases h) W
 have hrun:=run_make (P:=P) w t e i z ht hi1 hz k k' n c h0 hnc (by rw[hb1];exact hb) h63;rw[hms] at h2;refine⟨_,μ',_,?_,h1,.aL hd (aH.sz α) 0 _ _ _ c.toNat h2 (by simp;omega) (by simp),h3⟩;simp[execOp,hr.val hx,hr.val hy,hrun]
theorem ET.XW {x:α}{t u e:TypeId}{xo yo:Operand}{z:Value}{bt sz:Nat}{k ku:IntKind}{n:Int}(hd:Nat) (hx:ev s xo=some (.val (.slice none 0 0))) (hy:ev s yo=some (.val (.int k n)))
  (ht:P.underlying t=some (.slice e)) (hu:P.underlying u=some (.int ku)) (hi:(P.info? e).map (fun i=>(i.zero,i.size,i.bytes))=some (some z,sz,bt)) (hzs:z.cells.size=sz) (hsz:aH.sz α=sz) (he:z.cells.toList.map nQ=aH.cells x)
  (h0:0<n) (hb:n*(bt:Int)≤281474976710656) (h63:n≤9223372036854775807) (hfr:fresh s hd=true):
  cm P W s ⟨some d,.call ⟨.builtin .append,#[xo,yo],#[t,u]⟩,ty,pos,after,guard⟩ (·={fr:=(d,.aL hd (aH.sz α) 0 (List.replicate n.toNat x).length)::s.fr,st:=(hd,⟨e,true,true,true,aH.sz α,cr (List.replicate n.toNat x),none⟩)::s.st,df:=s.df}):=by
 subst hsz;refine cm.of (s1:={fr:=s.fr,st:=(hd,⟨e,true,true,true,aH.sz α,cr (List.replicate n.toNat x),none⟩)::s.st,df:=s.df}) (g:=.aL hd (aH.sz α) 0 (List.replicate n.toNat x).length) rfl (fun _ h=>by cases h) ?_;intro N cx μ a w hr;obtain⟨i,hi1,hi2⟩:=az.1 hi;simp only[qt] at hi2;obtain⟨hz,hs1,hb1⟩:=hi2;have hpos:0<aH.sz α:=aH.pos;have hge:=grownCap_ge w n.toNat 0 e;have hcm:=grownCap_le_maxLen w n.toNat 0 e (by unfold maxLen;omega);have hms:(Builtin.zeroCells z.cells n.toNat++Builtin.zeroCells z.cells (grownCap w n.toNat 0 e-n.toNat)).size=grownCap w n.toNat 0 e*aH.sz α:=by
  rw[Array.size_append,size_zeroCells,size_zeroCells,hzs,←ff];congr 1;omega
 obtain⟨μ',w',rfl,h1,h2,h3⟩:=hr.drew.tO (k:=⟨e,true,true,true,aH.sz α,cr (List.replicate n.toNat x),none⟩) (cs:=Builtin.zeroCells z.cells n.toNat++Builtin.zeroCells z.cells (grownCap w n.toNat 0 e-n.toNat)) hfr rfl (by rw[hms];simp only[fG,oM];exact bW _ hge)
  (fun _=>by rw[hms];exact bW _ hcm)
  (fun j g' hg'=>Ge hzs he (fun j hj=>by
   rw[Array.getElem?_append_left (by rw[size_zeroCells,hzs];exact hj)];unfold Builtin.zeroCells madeCells;rw[hzs]) j g' hg')
  (fun h=>by cases h) W
 have hrun:=Ek (P:=P) w t u ty e i z k ku ht hu hi1 hz n h0 (by rw[hs1];exact hpos) h63 (by rw[hb1];exact hb);rw[hms] at h2;refine⟨_,μ',_,?_,h1,.aL hd (aH.sz α) 0 _ _ _ (grownCap w n.toNat 0 e) h2 (by simp;omega) (by simp),⟨h3.1,h3.2,h3.3⟩⟩;simp[execOp,resolve,invoke,builtin,hr.val hx,hr.val hy,hrun]
end
section
variable {P:Program}{s:St}{W:List Nat}{d:Nat}{ty:TypeId}{pos:String}{after:Array Edge}{guard:Option (Nat×Bool)}
def wr:List Bool→List G→List G
 | true::bs,.val v::r=>.fr (.val v)::wr bs r
 | _::bs,g::r=>g::wr bs r
 | [],r=>r
 | _::_,[]=>[]
theorem Hy:∀(bs:List Bool) (gs:List G),(wr bs gs).length=gs.length∧∀(j:Nat) (g':G),(wr bs gs)[j]?=some g'→∃g,gs[j]?=some g∧(g'=g∨∃v,g=.val v∧g'=.fr (.val v))
 | [],gs=>by
  unfold wr;exact⟨rfl,fun j g' h=>⟨g',h,.inl rfl⟩⟩
 | b::bs,[]=>by cases b <;> exact⟨rfl,fun j g' h=>by simp[wr] at h⟩
 | b::bs,g::r=>by
  obtain⟨i1,i2⟩:=Hy bs r;have key:∀x,(x=g∨∃v,g=.val v∧x=.fr (.val v))→(x::wr bs r).length=(g::r).length∧∀(j:Nat) (g':G),(x::wr bs r)[j]?=some g'→∃g0,(g::r)[j]?=some g0∧(g'=g0∨∃v,g0=.val v∧g'=.fr (.val v)):=by
   intro x hx;refine⟨by simp[i1],fun j g' h=>?_⟩;cases j with
   | zero=>cases h;exact⟨g,rfl,hx⟩
   | succ j=>exact i2 j g' h
  cases b with
  | false=>unfold wr;exact key g (.inl rfl)
  | true=>
   cases g with
   | val v=>unfold wr;exact key _ (.inr ⟨v,rfl,rfl⟩)
   | _=>unfold wr;exact key _ (.inl rfl)
theorem EF.ZN (bs:List Bool){f:FuncId}{xs:Array Operand}{ts:Array TypeId}{gs gs':List G}{ei:List (Nat×av)}{Q:G→List (Nat×av)→Prop}{s1:St}(H:List Nat) (vw:Bool) (bk:List Nat) (hc:∀args w,(callFunc f args).run P w=.ok (.enter f args) w)
  (hx:wu s xs.toList=some gs) (hv:bR.go H (Go.AM.ft s.st H vw) (wr bs gs)=some gs') (hl:gz H (Go.AM.ft s.st H vw) s.st H 0=some ei) (di:qg H=true) (hcon:GM P f gs' ei Q)
  (hres:∀r st',Q r st'→∃s2 r',qc vw s H st' bk=some s2∧ez vw (kj st' bk) r=some r'∧Sub (s2.put d r') s1) (hW:AZ H W=true):
  cm P W s ⟨some d,.call ⟨.value (.func f),xs,ts⟩,ty,pos,after,guard⟩ (·=s1):=by
 refine⟨(fun _ h=>by cases h),?_⟩;intro N cx μ a w hr hN K Q' hK;obtain⟨h1,h2⟩:=oJ hx;have hcall:=xj (vs:=xs.toList.map a.eval) hr hv hl di (by rw[(Hy bs gs).1];simp[h1]) (fun j g' v hg' hv=>by
  obtain⟨g,hg,hor⟩:=(Hy bs gs).2 j g' hg';obtain⟨x,hxj,he⟩:=h2 j g hg;rw[ak,hxj] at hv;cases hv;rcases hor with rfl | ⟨u,rfl,rfl⟩
  ·exact hr.ev he
  ·have:=hr.ev he;cases this with
   | aF hi=>
    cases hi with
    | val _=>exact .fr (.val _)) hcon
 unfold Oper.wp;have:(execOp a.eval ⟨some d,.call ⟨.value (.func f),xs,ts⟩,ty,pos,after,guard⟩).run P w=.ok (.enter f (xs.toList.map a.eval).toArray) w:=by
  have e:xs.map a.eval=(xs.toList.map a.eval).toArray:=by rw[←iu]
  simp[execOp,resolve,invoke,Deferred.ofValue,Act.eval,hc,e]
 rw[this];refine hcall.mono ?_;rintro e w' (⟨v,r,st',μ',rfl,hq,hC,hrv⟩ | ⟨_,_,_,_,h,_⟩)
 ·obtain⟨s2,r',hb,hren,hsub⟩:=hres r st' hq;obtain⟨q1,q2,q3,_⟩:=wL hr hl (nX di) hC hb;exact hK _ _ _ w' ((q1.put (hN d rfl) (q2 r r' v hrv hren)).sub hsub) rfl ((q3 W (AY hW)).sub hsub.2.1)
 ·exact h.elim
end
end Go.AM
/-
 AM,part BJ:copy.
-/
namespace Go.AM
section
variable {P:Program}{N:Nat}{cx:Cx}{s:St}
variable {ty:TypeId}{pos:String}{after:Array Edge}{guard:Option (Nat×Bool)}{W:List Nat}{d:Nat}
end
end Go.AM
/-
 AM:pointers that may be nil;slices of slices,told as a whole.
-/
namespace Go.AM
section
variable {P:Program}{N:Nat}{cx:Cx}{s:St}{W:List Nat}
variable {dst:Option Tmp}{ty:TypeId}{pos:String}{after:Array Edge}{guard:Option (Nat×Bool)}
def vX:G→Option Bool
 | .val (.pointer none)=>some true
 | .kp _ _ _=>some false
 | .loc _ _=>some false
 | .ptr _=>some false
 | .fr (.ptr _)=>some false
 | _=>none
theorem aU.vX {O:Nat→Prop}{base:Nat}{w:World}{μ:Mu}{g:G}{v:Value}{b:Bool}(h:aU O base w μ g v) (hn:AM.vX g=some b):∃p,v=.pointer p∧p.isNone=b:=by
 cases g with
 | val u=>
  cases h with
  | aF h=>
   cases h;cases v with
   | pointer p=>cases p with
    | none=>cases hn;exact⟨none,rfl,rfl⟩
    | some _=>cases hn
   | _=>cases hn
 | kp h' i off=>
  cases hn;cases h with
  | aF h=>cases h
  | kp _ _ _ b m c n hm hk=>exact⟨_,rfl,rfl⟩
 | loc h' off=>
  cases hn;cases h with
  | aF h=>cases h
  | loc _ _ b m hm=>exact⟨_,rfl,rfl⟩
 | ptr cs=>
  cases hn;cases h with
  | aF h=>cases h with
   | ptr=>exact⟨_,rfl,rfl⟩
 | fr g=>
  cases g with
  | ptr cs=>
   cases hn;cases h with
   | aF h=>cases h
   | fr h=>cases h with
    | ptr=>exact⟨_,rfl,rfl⟩
  | _=>cases hn
 | _=>cases hn
theorem FQ {t e:TypeId}(ht:P.underlying t=some (.pointer e)) (p:Option Addr) (w:World):(Op.equal t (.pointer p) (.pointer none)).run P w=.ok p.isNone w:=by
 have key:∀d,(Op.equalIn (d+1) t (.pointer p) (.pointer none)).run P w=.ok p.isNone w:=fun d=>by
  cases p with
  | none=>simp[Op.equalIn,run_underlying ht]
  | some a=>simp[Op.equalIn,run_underlying ht]
 exact key 9999
theorem PY.ptrEq {t t' e:TypeId}{x:Operand}{g:G}{b:Bool}(hx:ev s x=some g) (hn:AM.vX g=some b) (ht:P.underlying t=some (.pointer e)):
  PY P s ⟨dst,.binOp .eql t x (.const (.pointer none)) t',ty,pos,after,guard⟩ (.val (.bool b)):=fun N cx μ a w hr=>by
 obtain⟨p,e1,rfl⟩:=(hr.ev hx).vX hn;refine⟨_,.aF (.val _),fun w'=>?_⟩;have h:=FQ (P:=P) ht p w';have hg:(eqGuard .eql t x (.const (.pointer none)) (.pointer p) (.pointer none)).run P w'=.ok () w':=by simp[eqGuard]
 simp only[execOp,e1,show a.eval (.const (.pointer none))=.pointer none from rfl,Sem.run_bind,hg,Result.andThen_ok];simp[binOp,h]
theorem PY.ZC {t t' e:TypeId}{x:Operand}{g:G}{b:Bool}(hx:ev s x=some g) (hn:AM.vX g=some b) (ht:P.underlying t=some (.pointer e)):
  PY P s ⟨dst,.binOp .neq t x (.const (.pointer none)) t',ty,pos,after,guard⟩ (.val (.bool (!b))):=fun N cx μ a w hr=>by
 obtain⟨p,e1,rfl⟩:=(hr.ev hx).vX hn;refine⟨_,.aF (.val _),fun w'=>?_⟩;have h:=FQ (P:=P) ht p w';have hg:(eqGuard .neq t x (.const (.pointer none)) (.pointer p) (.pointer none)).run P w'=.ok () w':=by simp[eqGuard]
 simp only[execOp,e1,show a.eval (.const (.pointer none))=.pointer none from rfl,Sem.run_bind,hg,Result.andThen_ok];simp[binOp,h]
theorem PY.Ju {x:Operand}{h i off:Nat}(hx:ev s x=some (.kp h i off)):PY P s ⟨dst,.nilCheck x,ty,pos,after,guard⟩ (.kp h i off):=fun N cx μ a w hrel=>by
 have hr:=hrel.ev hx;refine⟨_,hr,fun w'=>?_⟩;generalize e1:a.eval x=v at hr;cases hr with
 | aF h=>cases h
 | kp _ _ _ b m c n hm hk=>simp[execOp,e1]
def vE (O:Nat→Prop) (w:World) (kty:TypeId) (sz:Nat) (n:Nat) (gs:List G) (u:Value):Option (Nat×Nat)→Prop
 | none=>n=0∧gs=[]∧∃a cap,u=.slice a 0 cap∧(a=none→cap=0)
 | some (c,k)=>∃cap cs,u=.slice (some ⟨c,0,none⟩) n cap∧n≤cap∧cap*sz=k∧w.heap[c]?=some (.cells cs kty (0,0))∧cs.size=k∧k≤maxLen*sz∧gs.length=n*sz∧
   ∀(j:Nat) (g:G),gs[j]?=some g→∃v,cs[j]?=some v∧bH O w g v
structure WA (bI kty:TypeId) (sz:Nat) (rows:List (Nat×List G)) (O:Nat→Prop) (w:World) (b:Nat) (m:Mm) (cs:Array Value):Prop where
 len:m.2.length=rows.length
 root:∀(i c k:Nat),m.2[i]?=some (some (c,k))→c≠b∧c<w.heap.size
 inj:∀(i j c k k':Nat),m.2[i]?=some (some (c,k))→m.2[j]?=some (some (c,k'))→i=j
 heap:w.heap[b]?=some (.cells cs bI (0,0))
 size:cs.size=m.1
 le:rows.length≤m.1
 max:m.1≤maxLen
 row:∀(i n:Nat) (gs:List G),rows[i]?=some (n,gs)→∃u x,cs[i]?=some u∧m.2[i]?=some x∧vE O w kty sz n gs u x
theorem vE.mono {O O':Nat→Prop}{w w':World}{kty:TypeId}{sz n:Nat}{gs:List G}{u:Value}{x:Option (Nat×Nat)}(h:vE O w kty sz n gs u x) (hk:Kept O w w') (hO:∀x,x<w.heap.size→¬O x→¬O' x)
  (hc:∀c k,x=some (c,k)→w'.heap[c]?=w.heap[c]?):vE O' w' kty sz n gs u x:=by
 cases x with
 | none=>exact h
 | some ck=>
  obtain⟨c,k⟩:=ck;obtain⟨cap,cs,h1,h2,h3,h4,h5,h6,h7,h8⟩:=h;exact⟨cap,cs,h1,h2,h3,(hc c k rfl).trans h4,h5,h6,h7,fun j g hg=>let ⟨v,hv,hr⟩:=h8 j g hg;⟨v,hv,hr.mono hk hO⟩⟩
theorem vE.shut {O Z:Nat→Prop}{w w':World}{kty:TypeId}{sz n:Nat}{gs:List G}{u:Value}{x:Option (Nat×Nat)}(h:vE O w kty sz n gs u x) (hs:iM Z w w'):vE O w' kty sz n gs u x:=by
 cases x with
 | none=>exact h
 | some ck=>
  obtain⟨c,k⟩:=ck;obtain⟨cap,cs,h1,h2,h3,h4,h5,h6,h7,h8⟩:=h;exact⟨cap,cs,h1,h2,h3,hs.cells h4,h5,h6,h7,fun j g hg=>let ⟨v,hv,hr⟩:=h8 j g hg;⟨v,hv,hr.shut hs⟩⟩
theorem In.xp {b:Nat}{m:Mm}{i c k:Nat}(h:m.2[i]?=some (some (c,k))):In c b m:=.inr ⟨k,aj h⟩
def tY (bI kty:TypeId) (sz:Nat) (rows:List (Nat×List G)):Dp where
 φ:=fun O w b m=>∃cs,WA bI kty sz rows O w b m cs
 jb:=rows=[]
 mono:=by
  rintro O O' w w' b m ⟨cs,h⟩ hk hO hb;refine⟨cs,{len:=h.len,root:=fun i c k e=>⟨(h.root i c k e).1,cJ (h.root i c k e).2 hk.size⟩,inj:=h.inj,heap:=(hb b (.self _ _)).trans h.heap,size:=h.size,le:=h.le,max:=h.max,row:=fun i n gs e=>?_}⟩;obtain⟨u,x,h1,h2,h3⟩:=h.row i n gs e;exact⟨u,x,h1,h2,h3.mono hk hO fun c k e=>hb c (.xp (k:=k) (by rw[h2,e]))⟩
 shut:=by
  rintro O Z w w' b m ⟨cs,h⟩ hs _;refine⟨cs,{len:=h.len,root:=fun i c k e=>⟨(h.root i c k e).1,by rw[hs.size];exact(h.root i c k e).2⟩,inj:=h.inj,heap:=hs.cells h.heap,size:=h.size,le:=h.le,max:=h.max,row:=fun i n gs e=>?_}⟩;obtain⟨u,x,h1,h2,h3⟩:=h.row i n gs e;exact⟨u,x,h1,h2,h3.shut hs⟩
 live:=by
  rintro O w b m ⟨cs,h⟩ x hx;rcases hx with rfl | ⟨n,hn⟩
  ·exact dQ h.heap
  ·obtain⟨i,hi⟩:=cA hn;exact(h.root i x n hi).2
theorem Rel.wq {μ:Mu}{a:Act}{w:World}(hr:Rel N cx μ s a w){h:Nat}{k:av}{bI kty:TypeId}{sz:Nat}{rows:List (Nat×List G)}(hk:ay s.st h=some k) (hl:k.lp=some (.deep (tY bI kty sz rows))){b:Nat}{m:Mm}(hm:μ h=some (b,m)):
  ∃cs,WA bI kty sz rows (bif k.fresh then ir (cx.O s.st μ) cx.base else cx.O s.st μ) w b m cs:=by
 have:=hr.st.en h k hk;rw[hm] at this;exact((aV.deep hl).1 this).1
theorem Rel.zj {μ:Mu}{a:Act}{w w':World}(hrel:Rel N cx μ s a w){h:Nat}{k:av}(hk:ay s.st h=some k){b:Nat}{m:Mm}(hm:μ h=some (b,m))
  (hW:W.contains h=false) (hag:Rl W s μ w w'){c:Nat}(hi:In c b m):w'.heap[c]?=w.heap[c]?:=by
 refine hag.2 c (hrel.st.cq h k b m c hk hm hi).2.2.1 ?_;intro h' k' c' m' hin hk' hm' hi';have:=hrel.st.de h h' k k' c b m c' m' hk hk' hm hm' hi hi';subst this;simp at hW;exact hW hin
theorem XS {i:Nat}(h:i<maxLen):i≠IT:=by unfold IT;simp only[maxLen] at h;omega
theorem YL.YW {t:TypeId}{x:Operand}{h i sz n:Nat}{k:av}{bI kty:TypeId}{rows:List (Nat×List G)}{gs:List G}(hx:ev s x=some (.loc h i)) (hk:ay s.st h=some k) (hl:k.lp=some (.deep (tY bI kty sz rows))) (hi:rows[i]?=some (n,gs))
  (hag:∀w,(isAgg t).run P w=.ok false w) (hW:W.contains h=false):fI P W s ⟨dst,.load t x,ty,pos,after,guard⟩ (.ks h i sz n):=fun N cx μ a w hrel=>by
 obtain⟨b,m,e1,hm⟩:=hrel.loc hx;obtain⟨cs,hf⟩:=hrel.wq hk hl hm;obtain⟨u,x',h1,h2,h3⟩:=hf.row i n gs hi;refine⟨u,?_,fun w' hs hw'=>?_⟩
 ·cases x' with
  | none=>obtain⟨rfl,_,a',cap,rfl,_⟩:=h3;exact .mh h i sz a' cap (fun e=>absurd e (XS (cJ (ai.1 hi).1 (cK hf.le hf.max))))
  | some ck=>
   obtain⟨c,kk⟩:=ck;obtain⟨cap,cs',rfl,h4,h5,_⟩:=h3;exact .ks h i sz n b m c kk cap hm h2 h4 h5
 ·have hb:=hrel.zj hk hm hW ⟨hs,hw'⟩ (.self b m);rw[hf.heap] at hb;have hc:w'.cell? ⟨b,i,none⟩=some u:=by rw[cell_of hb,h1]
  simp[execOp,e1,Instr.loadAt,Instr.sureAddr,loadVar,hag,hc]
theorem Rel.kp {μ:Mu}{a:Act}{w:World}(hrel:Rel N cx μ s a w){x:Operand}{h i off:Nat}(hx:AM.ev s x=some (.kp h i off)):∃b m c n,a.eval x=.pointer (some ⟨c,off,none⟩)∧μ h=some (b,m)∧m.2[i]?=some (some (c,n)):=by
 have hr:=hrel.ev hx;generalize a.eval x=v at hr;cases hr with
 | aF h=>cases h
 | kp _ _ _ b m c n hm hk=>exact⟨b,m,c,n,rfl,hm,hk⟩
def SV (f:Bool):G→G
 | .val v=>.val v
 | g=>bif f then .fr g else g
theorem bH.SV {O:Nat→Prop}{base:Nat}{w:World}{μ:Mu}{f:Bool}{g:G}{v:Value}(h:bH (bif f then ir O base else O) w g v):aU O base w μ (AM.SV f g) v:=by
 have key:aU O base w μ (bif f then .fr g else g) v:=by
  cases f with
  | false=>exact .aF h
  | true=>exact .fr h
 cases g with
 | val u=>cases h;exact .aF (.val _)
 | _=>exact key
theorem YL.Ig {t:TypeId}{x:Operand}{h i off sz n:Nat}{k:av}{bI kty:TypeId}{rows:List (Nat×List G)}{gs:List G}{g:G}(hx:ev s x=some (.kp h i off)) (hk:ay s.st h=some k) (hl:k.lp=some (.deep (tY bI kty sz rows)))
  (hi:rows[i]?=some (n,gs)) (hg:gs[off]?=some g) (hag:∀w,(isAgg t).run P w=.ok false w) (hW:W.contains h=false):fI P W s ⟨dst,.load t x,ty,pos,after,guard⟩ (SV k.fresh g):=fun N cx μ a w hrel=>by
 obtain⟨b,m,c,n',e1,hm,hc⟩:=hrel.kp hx;obtain⟨cs,hf⟩:=hrel.wq hk hl hm;obtain⟨u,x',h1,h2,h3⟩:=hf.row i n gs hi;rw[hc] at h2;cases h2;obtain⟨cap,cs',_,_,_,h6,_,_,_,h10⟩:=h3;obtain⟨v,hv,hr⟩:=h10 off g hg;refine⟨v,hr.SV,fun w' hs hw'=>?_⟩;have hb:=hrel.zj hk hm hW ⟨hs,hw'⟩ (.xp hc);rw[h6] at hb;have hcell:w'.cell? ⟨c,off,none⟩=some v:=by rw[cell_of hb,hv]
 simp[execOp,e1,Instr.loadAt,Instr.sureAddr,loadVar,hag,hcell]
theorem cI.rewrite {μ:Mu}{st:List (Nat×av)}{w w':World}(h:cI cx μ st w){hh:Nat}{k k':av}{b c:Nat}{m:Mm}(hk:ay st hh=some k) (hm:μ hh=some (b,m)) (hc:In c b m)
  (hsz:w'.heap.size=w.heap.size) (hoth:∀b',b'≠c→w'.heap[b']?=w.heap[b']?) (hos:w'.os=w.os) (htape:w'.tape=w.tape) (hout:w'.output=w.output) (hmine:k'.ew=true→k.ew=true)
  (hb:∀O',(∀x,cx.O st μ x↔O' x)→aV O' cx.base w' μ k' (some (b,m))):
  cI cx μ (dF st hh k') w'∧Kept (cx.O st μ) w w'∧∀b,cx.O (dF st hh k') μ b↔cx.O st μ b:=by
 have hOO:∀b,cx.O (dF st hh k') μ b↔cx.O st μ b:=fun b=>or_congr Iff.rfl (Own.dF hk);have hown:cx.O st μ c:=.inr ⟨hh,k,b,m,hk,hm,hc⟩;have hkept:Kept (cx.O st μ) w w':=⟨by rw[hsz];exact aG _,fun b' _ hn=>hoth b' fun e=>hn (e▸hown)⟩;have hO:∀b,b<w.heap.size→¬cx.O st μ b→¬cx.O (dF st hh k') μ b:=fun b _ hn ho=>hn ((hOO b).1 ho);obtain⟨hx,hbA,_⟩:=h.cq hh k b m c hk hm hc;refine⟨{en:=?_,de:=?_,cq:=?_,fD:=?_,fg:=h.fg,hb:=by rw[hsz];exact h.hb,os:=hos.trans h.os,tape:=htape.trans h.tape,output:=hout.trans h.output,gl:=h.gl,dq:=?_},hkept,hOO⟩
 ·intro x k1 h1;rcases dm hk h1 with ⟨rfl,rfl⟩ | ⟨hne,h1⟩
  ·rw[hm];exact hb _ fun x=>(hOO x).symm
  ·exact(h.en x k1 h1).mono (fun b1 m1 hmx y hy=>hoth y fun e=>hne (h.de x hh k1 k y b1 m1 b m h1 hk hmx hm hy (e▸hc))) hkept hO
 ·intro x x' k1 k2 y b1 m1 b2 m2 h1 h2;have f:∀x k1,ay (dF st hh k') x=some k1→∃k1,ay st x=some k1:=fun x k1 h1=>by
   rcases dm hk h1 with ⟨rfl,rfl⟩ | ⟨_,h1⟩
   ·exact⟨k,hk⟩
   ·exact⟨_,h1⟩
  obtain⟨k1',h1'⟩:=f x k1 h1;obtain⟨k2',h2'⟩:=f x' k2 h2;exact h.de x x' k1' k2' y b1 m1 b2 m2 h1' h2'
 ·intro x k1 b1 m1 y h1 h2 h3;rw[hsz];rcases dm hk h1 with ⟨rfl,rfl⟩ | ⟨_,h1⟩
  ·exact let ⟨a1,a2,a3,a4⟩:=h.cq x k b1 m1 y hk h2 h3;⟨a1,a2,a3,fun hm=>a4 (hmine hm)⟩
  ·exact h.cq x k1 b1 m1 y h1 h2 h3
 ·intro x k1 h1 h2;rcases dm hk h1 with ⟨rfl,rfl⟩ | ⟨_,h1⟩
  ·exact h.fD x k hk h2
  ·exact h.fD x k1 h1 h2
 ·intro b' hb1 hA;rw[hoth b' (fun e=>by subst e;exact hbA.elim (fun h1=>by omega) (fun h1=>hA h1))];exact h.dq b' hb1 hA
theorem Rel.rewrite {μ:Mu}{a:Act}{w w':World}(h:Rel N cx μ s a w){hh:Nat}{k k':av}{b c:Nat}{m:Mm}(hk:ay s.st hh=some k) (hm:μ hh=some (b,m)) (hc:In c b m)
  (hsz:w'.heap.size=w.heap.size) (hoth:∀b',b'≠c→w'.heap[b']?=w.heap[b']?) (hos:w'.os=w.os) (htape:w'.tape=w.tape) (hout:w'.output=w.output) (hmine:k'.ew=true→k.ew=true)
  (hb:∀O',(∀x,cx.O s.st μ x↔O' x)→aV O' cx.base w' μ k' (some (b,m))) (hW:W.contains hh=true):
  Rel N cx μ {fr:=s.fr,st:=dF s.st hh k',df:=s.df} a w'∧Step W s.st μ (dF s.st hh k') μ w w':=by
 obtain⟨h1,h2,h3⟩:=h.st.rewrite hk hm hc hsz hoth hos htape hout hmine hb;refine⟨{st:=h1,nd:=h.nd.mono h2 (fun b _ hn ho=>hn ((h3 b).1 ho)),sz:=h.sz,fr:=fun t g hg=>?_},?_⟩
 ·obtain⟨v,hv,hr⟩:=h.fr t g hg;exact⟨v,hv,hr.mono h2 (fun b _ hn ho=>hn ((h3 b).1 ho)) (aG _)⟩
 ·refine⟨by rw[hsz];exact aG _,fun b' _ hn=>hoth b' fun e=>?_,fun x k1 c1 m1 y hw h1 h2 hy=>?_⟩
  ·subst e;exact hn hh k b m (by simpa using hW) hk hm hc
  ·rcases dm hk h1 with ⟨rfl,rfl⟩ | ⟨_,h1⟩
   ·exact .inl ⟨x,k,c1,m1,hw,hk,h2,hy⟩
   ·exact .inl ⟨x,k1,c1,m1,hw,h1,h2,hy⟩
theorem EF.Ig {t:TypeId}{x y:Operand}{h i off sz n:Nat}{k:av}{bI kty:TypeId}{rows:List (Nat×List G)}{gs:List G}{g g':G}{f:Bool}(hx:ev s x=some (.kp h i off)) (hy:ev s y=some g) (hk:ay s.st h=some k)
  (hl:k.lp=some (.deep (tY bI kty sz rows))) (hi:rows[i]?=some (n,gs)) (hoff:off<gs.length) (hig:MB g=some (g',f)) (hone:g.one=true) (hsz:∀w,(sizeOf t).run P w=.ok 1 w) (hW:W.contains h=true):
  cm P W s ⟨none,.store t x y,ty,pos,after,guard⟩ (·={fr:=s.fr,st:=dF s.st h {k with fresh:=k.fresh&&f,lp:=some (.deep (tY bI kty sz (rows.set i (n,gs.set off g'))))},df:=s.df}):=by
 refine cm.skip rfl (fun _ h=>by cases h) ?_;intro N cx μ a w hr;obtain⟨b,m,c,n',e1,hm,hc⟩:=hr.kp hx;obtain⟨cs0,hf⟩:=hr.wq hk hl hm;obtain⟨u,x',h1,h2,h3⟩:=hf.row i n gs hi;rw[hc] at h2;cases h2;obtain⟨cap,cs,q1,q2,q3,q4,q5,q6,q7,q8⟩:=h3;have hlen:off<cs.size:=by rw[q5,←q3];have:=bW sz q2;omega
 have hv:=hr.ev hy;have hvone:=hv.one hone;have hcells:=A2 hvone;have hrun:=run_storeCells_at P c off kty [a.eval y] 0 cs w q4 (by simp;omega) (fun v hv=>by simp at hv;subst hv;exact hvone);simp only[fZ,bL,jE,da] at hrun;refine⟨μ,w.setRow c (cs.toList.take off++[a.eval y]++cs.toList.drop (off+1)).toArray,?_,?_⟩
 ·simp only[execOp,Instr.storeAt,Instr.sureAddr,e1,storeVar,hsz,Sem.run_bind,Sem.run_pure,Result.andThen_ok];rw[if_neg (by rw[hcells];simp)];rw[hcells];show((storeCells ⟨c,off,none⟩ [a.eval y] 0).run P w).andThen _=_;rw[hrun];rfl
 ·have hset:(cs.toList.take off++[a.eval y]++cs.toList.drop (off+1)).toArray=cs.setIfInBounds off (a.eval y):=by
   apply Array.ext';rw[Array.toList_setIfInBounds,fk,if_pos (by rw[b9];omega)];simp
  rw[hset];refine hr.rewrite (k':={k with fresh:=k.fresh&&f,lp:=some (.deep (tY bI kty sz (rows.set i (n,gs.set off g'))))}) hk hm (.xp hc) (setRow_size _ _ _) (fun b' hb'=>setRow_other w c b' _ hb') rfl rfl rfl id (fun O' hO=>?_) hW;have hb0:=hr.st.en h k hk;rw[hm] at hb0;obtain⟨_,p2,p3,p4⟩:=(aV.deep hl).1 hb0;refine(aV.deep (d:=tY bI kty sz (rows.set i (n,gs.set off g'))) rfl).2 ⟨⟨cs0,?_⟩,p2,p3,p4⟩;have hOk:∀x,(bif (k.fresh&&f) then ir O' cx.base else O') x→(bif k.fresh then ir (cx.O s.st μ) cx.base else cx.O s.st μ) x∨k.fresh=true∧x<cx.base:=by
   intro x hx;cases hkf:k.fresh with
   | false=>rw[hkf] at hx;exact .inl ((hO x).2 hx)
   | true=>
    rw[hkf] at hx;cases f with
    | true=>
     rcases hx with hx | hx
     ·exact .inr ⟨rfl,hx⟩
     ·exact .inl (.inr ((hO x).2 hx))
    | false=>exact .inl (.inr ((hO x).2 hx))
  have hOk':∀x,(bif (k.fresh&&f) then ir O' cx.base else O') x→(bif k.fresh then ir (cx.O s.st μ) cx.base else cx.O s.st μ) x:=by
   intro x hx;rcases hOk x hx with h | ⟨h1,h2⟩
   ·exact h
   ·rw[h1];exact .inl h2
  have hkept:Kept (bif k.fresh then ir (cx.O s.st μ) cx.base else cx.O s.st μ) w (w.setRow c (cs.setIfInBounds off (a.eval y))):=by
   refine⟨by rw[setRow_size];exact aG _,fun b' _ hn=>setRow_other w c b' _ fun e=>hn ?_⟩;subst e;have:cx.O s.st μ b':=.inr ⟨h,k,b,m,hk,hm,.xp hc⟩;cases k.fresh with
   | false=>exact this
   | true=>exact .inr this
  have hne:b≠c:=fun e=>(hf.root i c n' hc).1 e.symm;refine {len:=by rw[fP];exact hf.len,root:=fun i c k e=>⟨(hf.root i c k e).1,by rw[setRow_size];exact(hf.root i c k e).2⟩,inj:=hf.inj,heap:=(setRow_other w c b _ hne).trans hf.heap,size:=hf.size,le:=by rw[fP];exact hf.le,max:=hf.max,row:=fun j nj gj hj=>?_};rw[dN] at hj;split at hj
  ·rename_i e;subst e;split at hj
   ·cases hj;refine⟨u,_,h1,hc,cap,cs.setIfInBounds off (a.eval y),q1,q2,q3,qX q4,by simp[q5],q6,by simp[q7],fun j g1 hg1=>?_⟩;rw[dN] at hg1;split at hg1
    ·rename_i hj;subst hj;cases hg1;refine⟨a.eval y,by rw[Array.getElem?_setIfInBounds_self_of_lt hlen],?_⟩;have:=Cb hv hig;refine this.mono (w':=w.setRow c (cs.setIfInBounds off (a.eval y))) ⟨by rw[setRow_size];exact aG _,fun b' hb' hn=>setRow_other w c b' _ fun e=>hn ?_⟩ fun x _ hn hx=>hn ?_
     ·subst e;have hown:cx.O s.st μ b':=.inr ⟨h,k,b,m,hk,hm,.xp hc⟩;cases f with
      | false=>exact hown
      | true=>exact .inr hown
     ·cases f with
      | false=>rw[Bool.and_false] at hx;exact(hO x).2 hx
      | true=>
       rw[jZ] at hx;cases hkf:k.fresh with
       | false=>rw[hkf] at hx;exact .inr ((hO x).2 hx)
       | true=>rw[hkf] at hx;exact hx.imp id (hO x).2
    ·rename_i hj;obtain⟨v,hv1,hrv⟩:=q8 j g1 hg1;refine⟨v,by rw[gR hj];exact hv1,hrv.mono hkept fun x _ hn hx=>hn (hOk' x hx)⟩
   ·cases hj
  ·rename_i hne';obtain⟨u',y',r1,r2,r3⟩:=hf.row j nj gj hj;refine⟨u',y',r1,r2,r3.mono hkept (fun x _ hn hx=>hn (hOk' x hx)) fun c' k' e=>setRow_other w c c' _ fun e'=>?_⟩;subst e';exact hne' (hf.inj i j c' n' k' hc (by rw[r2,e]))
end
section
variable {P:Program}{W:List Nat}{s:St}{dst:Option Nat}{ty:TypeId}{pos:String}{after:Array Edge}{guard:Option (Nat×Bool)}
theorem Ta {t:TypeId}{v:Value}{b:Bool}{ms:_}(hb:U5 v=some b) (ht:P.underlying t=some (.interface ms)) (w:World):(Op.equal t v .nilIface).run P w=.ok (!b) w:=by
 have h:∀d,(Op.equalIn (d+1) t v .nilIface).run P w=.ok (!b) w:=fun d=>by
  cases v <;> cases hb <;> simp[Op.equalIn,run_underlying ht]
 exact h 9999
theorem PY.SN {op:BinOp}{t t':TypeId}{x:Operand}{b:Bool}{ms:_}(neg:Bool) (ho:op=bif neg then .neq else .eql) (hx:ev s x=some (.dw b)∨ev s x=some (.fr (.dw b))) (ht:P.underlying t=some (.interface ms)):
  PY P s ⟨dst,.binOp op t x (.const .nilIface) t',ty,pos,after,guard⟩ (.val (.bool (b==neg))):=fun _ _ _ a _ hrel=>by
 have hr:U5 (a.eval x)=some b:=by
  rcases hx with hx | hx
  ·have hr:=hrel.ev hx;generalize a.eval x=v at hr;cases hr with
   | aF h=>cases h with
    | dw _ _ hb=>exact hb
  ·have hr:=hrel.ev hx;generalize a.eval x=v at hr;cases hr with
   | aF h=>cases h
   | fr h=>cases h with
    | dw _ _ hb=>exact hb
 refine⟨_,.aF (.val _),fun w'=>?_⟩;generalize e1:a.eval x=v at hr;have hb:=hr;have he:=Ta (P:=P) hb ht w';have e2:(eqGuard op t x (.const .nilIface) v .nilIface).run P w'=.ok () w':=by
  cases v <;> cases hb <;> cases neg <;> subst ho <;> simp[eqGuard]
 have e3:(binOp op t v .nilIface).run P w'=.ok (.bool (b==neg)) w':=by
  have h1:binOp .eql t v .nilIface=(do pure (.bool (←Op.equal t v .nilIface)):Sem Value):=by cases v <;> cases hb <;> rfl
  have h2:binOp .neq t v .nilIface=(do pure (.bool (!(←Op.equal t v .nilIface))):Sem Value):=by cases v <;> cases hb <;> rfl
  cases neg <;> subst ho <;> simp only[cond_true,cond_false,h1,h2,Sem.run_bind,he,Result.andThen_ok,Sem.run_pure] <;> cases b <;> rfl
 have e4:a.eval (.const .nilIface)=.nilIface:=rfl;simp only[execOp,e1,e4,Sem.run_bind,e2,e3,Result.andThen_ok,Sem.run_pure]
end
end Go.AM
/-
 AM:what belongs to a block is told anew:slices of slices that are empty,that are handed over,that are written no more.
-/
namespace Go.AM
section
variable {P:Program}{N:Nat}{cx:Cx}{s:St}{W:List Nat}
variable {ty:TypeId}{pos:String}{after:Array Edge}{guard:Option (Nat×Bool)}
end
end Go.AM
/-
 AM:slices of slices grow:one made of a slice of the call's own;one appended to another.
-/
namespace Go.AM
section
variable {P:Program}{N:Nat}{cx:Cx}{s:St}{W:List Nat}
variable {ty:TypeId}{pos:String}{after:Array Edge}{guard:Option (Nat×Bool)}{d:Nat}
end
end Go.AM
/-
 AM:parts of a slice beyond its end,append within the same block.
-/
namespace Go.AM
section
variable {P:Program}{N:Nat}{cx:Cx}{s:St}{W:List Nat}
variable {dst:Option Tmp}{ty:TypeId}{pos:String}{after:Array Edge}{guard:Option (Nat×Bool)}{d:Nat}
theorem aU.aau {O:Nat→Prop}{base:Nat}{w:World}{μ:Mu}{h sz off n:Nat}{v:Value}(hv:aU O base w μ (.aL h sz off n) v):∃a cap,v=.slice a n cap∧n≤cap:=by
 cases hv with
 | aF hv=>cases hv
 | gk _ _ hm=>exact⟨none,0,rfl,aG _⟩
 | aL _ _ _ _ b m cap hm hn hc=>exact⟨_,cap,rfl,hn⟩
 | fq _ _ off0 b m hm hpos=>exact⟨_,0,rfl,aG _⟩
theorem RV {O:Nat→Prop}{base:Nat}{w:World}{μ:Mu}{h sz off n i j:Nat}{v:Value}(hv:aU O base w μ (.aL h sz off n) v) (h1:i≤j) (h2:j≤n):
  ∃(a:Option Addr) (cap:Nat),v=.slice a n cap∧n≤cap∧aU O base w μ (.aL h sz (off+i*sz) (j-i)) (sliced a i j cap sz):=by
 cases hv with
 | aF hv=>cases hv
 | gk _ _ hm=>
  obtain rfl:i=0:=by omega
  obtain rfl:j=0:=by omega
  refine⟨none,0,rfl,aG _,?_⟩;simp only[sliced,gJ,fZ,if_true];exact .gk h sz hm
 | aL _ _ _ _ b m cap hm hn hc=>
  refine⟨_,cap,rfl,hn,?_⟩;unfold sliced
  by_cases e:cap=i
  ·rw[if_pos e];have hj:j-i=0:=by omega
   have hci:cap-i=0:=by omega
   rw[hj,hci]
   by_cases hpos:0<m.1
   ·have:off+i*sz=m.1:=by rw[←e];exact hc
    rw[this];exact .fq h sz off b m.1 hm hpos
   ·have h5:off=0:=by omega
    have h6:i*sz=0:=by rw[←e];omega
    rw[h5,h6];exact .aL h sz 0 0 b m 0 hm (aG _) (by omega)
  ·rw[if_neg e];simp only[cd,Addr.lz];refine .aL h sz _ _ b m _ hm (by omega) ?_;have:i*sz+(cap-i)*sz=cap*sz:=by rw[←ff];congr 1;omega
   omega
 | fq _ _ off0 b m hm hpos=>
  obtain rfl:i=0:=by omega
  obtain rfl:j=0:=by omega
  refine⟨_,0,rfl,aG _,?_⟩;simp only[sliced,gJ,fZ,if_true];exact .fq h sz off0 b _ hm hpos
theorem PY.slice3 {t e:TypeId}{x lo hi mx:Operand}{h sz off n z:Nat}{k1 k2 k3:IntKind}{i j m:Int}(hx:ev s x=some (.aL h sz off n)) (hl:ev s lo=some (.val (.int k1 i))) (hh:ev s hi=some (.val (.int k2 j))) (hm:ev s mx=some (.val (.int k3 m)))
  (ht:P.underlying t=some (.slice e)) (hsz:∀w,(sizeOf e).run P w=.ok z w) (h0:0≤i) (h1:i≤j) (h2:j≤m) (h3:m≤n):PY P s ⟨dst,.slice t x (some lo) (some hi) (some mx),ty,pos,after,guard⟩ .any:=fun N cx μ a w hr=>by
 obtain⟨ad,cap,e1,e2⟩:=(hr.ev hx).aau;have he:P.underlying t=some (.slice (P.elem t)):=by unfold Program.elem;rw[ht]
 have e:P.elem t=e:=by unfold Program.elem;rw[ht]
 refine⟨sliced ad i.toNat j.toNat m.toNat z,.aF (.any _),fun w'=>?_⟩;have hrun:=run_slice_lhm w' t ad n cap he k1 k2 k3 i j m h0 h1 h2 (by omega);rw[e,hsz w'] at hrun;simp[execOp,e1,hr.val hl,hr.val hh,hr.val hm,run_sliceAt_slice _ _ _ _ _ _ he,hrun]
theorem PY.sliceB {t e:TypeId}{x lo hi:Operand}{h sz off n i j:Nat}{k1 k2:IntKind}{k:av}(hx:ev s x=some (.aL h sz off n)) (hk:ay s.st h=some k) (hlp:k.lp=none) (hl:ev s lo=some (.val (.int k1 (i:Nat)))) (hh:ev s hi=some (.val (.int k2 (j:Nat))))
  (ht:P.underlying t=some (.slice e)) (hsz:∀w,(sizeOf e).run P w=.ok sz w) (hs0:0<sz) (h1:i≤j) (h2:off+j*sz≤k.cells.length):PY P s ⟨dst,.slice t x (some lo) (some hi) none,ty,pos,after,guard⟩ (.aL h sz (off+i*sz) (j-i)):=fun N cx μ a w hr=>by
 have hv:=hr.ev hx;have he:P.underlying t=some (.slice (P.elem t)):=by unfold Program.elem;rw[ht]
 have e:P.elem t=e:=by unfold Program.elem;rw[ht]
 have key:∃(ad:Option Addr) (cap:Nat),a.eval x=.slice ad n cap∧j≤cap∧aU (cx.O s.st μ) cx.base w μ (.aL h sz (off+i*sz) (j-i)) (sliced ad i j cap sz):=by
  generalize a.eval x=v at hv;cases hv with
  | aF hv=>cases hv
  | gk _ _ hm=>
   have hb:=hr.st.en h k hk;rw[hm] at hb;have hc:k.cells=[]:=hb.1;rw[hc] at h2;have hj:j=0:=by
    rcases jP j with h | h
    ·exact h
    ·have:=bW sz h;simp at h2;omega
   subst hj;obtain rfl:i=0:=by omega
   refine⟨none,0,rfl,aG _,?_⟩;simp only[sliced,gJ,fZ,if_true];exact .gk h sz hm
  | aL _ _ _ _ b m cap hm hn hc=>
   obtain⟨cs,q1,q2,q3,_⟩:=hr.own hk hm hlp;have hjc:j≤cap:=by
    have:j*sz≤cap*sz:=by omega
    exact Nat.le_of_mul_le_mul_right this hs0
   have hv2:aU (cx.O s.st μ) cx.base w μ (.aL h sz off cap) (.slice (some ⟨b,off,none⟩) cap cap):=.aL h sz off cap b m cap hm (aG _) hc;obtain⟨ad,cap2,q4,q5,q6⟩:=Go.AM.RV hv2 h1 hjc;cases q4;exact⟨_,cap,rfl,hjc,q6⟩
  | fq _ _ off0 b m hm hpos=>
   obtain⟨cs,q1,q2,q3,_⟩:=hr.own hk hm hlp;have hj:j=0:=by
    rcases jP j with h | h
    ·exact h
    ·have:=bW sz h;simp only at q3;omega
   subst hj;obtain rfl:i=0:=by omega
   refine⟨_,0,rfl,aG _,?_⟩;simp only[sliced,gJ,fZ,if_true];exact .fq h sz off0 b _ hm hpos
 obtain⟨ad,cap,e1,e2,e3⟩:=key;refine⟨_,e3,fun w'=>?_⟩;have hrun:=run_slice_lh w' t ad n cap he k1 k2 (i:Int) (j:Int) (by omega) (by omega) (by omega);rw[e,hsz w'] at hrun;simp only[bO] at hrun;simp[execOp,e1,hr.val hl,hr.val hh,run_sliceAt_slice _ _ _ _ _ _ he,hrun]
end
end Go.AM
/-
 AM:cells of an owned block written in a row:append within the block,clear.
-/
namespace Go.AM
section
variable {P:Program}{N:Nat}{cx:Cx}{s:St}{W:List Nat}
variable {ty:TypeId}{pos:String}{after:Array Edge}{guard:Option (Nat×Bool)}{d:Nat}
end
end Go.AM
/-
 AM:slices that belong to a block of structs (or of slices),each nothing or with a block of its own:one is taken out,and put back.
-/
namespace Go.AM
def aaw (O:Nat→Prop) (w:World) (kty:TypeId) (sz:Nat) (n:Nat) (gs:List G) (u:Value) (x:Option (Nat×Nat)):Prop:=vE O w kty sz n gs u x∧(x=none→u=.slice none 0 0)
structure Zr (bI kty:TypeId) (sz z:Nat) (rows:List (Nat×List G)) (ho:Option Nat) (O:Nat→Prop) (w:World) (b:Nat) (m:Mm) (cs:Array Value):Prop where
 len:m.2.length=rows.length
 root:∀(i c k:Nat),m.2[i]?=some (some (c,k))→c≠b∧c<w.heap.size
 inj:∀(i j c k k':Nat),m.2[i]?=some (some (c,k))→m.2[j]?=some (some (c,k'))→i=j
 heap:w.heap[b]?=some (.cells cs bI (0,0))
 size:cs.size=m.1
 le:rows.length≤m.1
 max:m.1≤maxLen*z
 row:∀(i n:Nat) (gs:List G),rows[i]?=some (n,gs)→ho≠some i→∃u x,cs[i]?=some u∧m.2[i]?=some x∧aaw O w kty sz n gs u x
 hole:∀i,ho=some i→i<rows.length→m.2[i]?=some none
def Yf (bI kty:TypeId) (sz z:Nat) (rows:List (Nat×List G)) (ho:Option Nat):Dp where
 φ:=fun O w b m=>∃cs,Zr bI kty sz z rows ho O w b m cs
 jb:=rows=[]
 mono:=by
  rintro O O' w w' b m ⟨cs,h⟩ hk hO hb;refine⟨cs,{len:=h.len,root:=fun i c k e=>⟨(h.root i c k e).1,cJ (h.root i c k e).2 hk.size⟩,inj:=h.inj,heap:=(hb b (.self _ _)).trans h.heap,size:=h.size,le:=h.le,max:=h.max,row:=fun i n gs e hn=>?_,hole:=h.hole}⟩;obtain⟨u,x,h1,h2,h3,h4⟩:=h.row i n gs e hn;exact⟨u,x,h1,h2,h3.mono hk hO fun c k e=>hb c (.xp (k:=k) (by rw[h2,e])),h4⟩
 shut:=by
  rintro O Z w w' b m ⟨cs,h⟩ hs _;refine⟨cs,{len:=h.len,root:=fun i c k e=>⟨(h.root i c k e).1,by rw[hs.size];exact(h.root i c k e).2⟩,inj:=h.inj,heap:=hs.cells h.heap,size:=h.size,le:=h.le,max:=h.max,row:=fun i n gs e hn=>?_,hole:=h.hole}⟩;obtain⟨u,x,h1,h2,h3,h4⟩:=h.row i n gs e hn;exact⟨u,x,h1,h2,h3.shut hs,h4⟩
 live:=by
  rintro O w b m ⟨cs,h⟩ x hx;rcases hx with rfl | ⟨n,hn⟩
  ·exact dQ h.heap
  ·obtain⟨i,hi⟩:=cA hn;exact(h.root i x n hi).2
section
variable {P:Program}{N:Nat}{cx:Cx}{s:St}{W:List Nat}
variable {ty:TypeId}{pos:String}{after:Array Edge}{guard:Option (Nat×Bool)}
end
end Go.AM
/-
 AM:one of the slices of a block is taken out;one is put in.
-/
namespace Go.AM
section
variable {P:Program}{N:Nat}{cx:Cx}{s:St}{W:List Nat}
variable {ty:TypeId}{pos:String}{after:Array Edge}{guard:Option (Nat×Bool)}
end
end Go.AM
/-
 AM:arrays of numbers:an element's address,equality.
-/
namespace Go.AM
def GR:List Int→List Int→Bool
 | [],[]=>true
 | x::xs,y::ys=>x==y&&GR xs ys
 | _,_=>false
section
variable {P:Program}{s:St}{dst:Option Tmp}{ty:TypeId}{pos:String}{after:Array Edge}{guard:Option (Nat×Bool)}
theorem PY.U1 {t e:TypeId}{x y:Operand}{h off n:Nat}{k:IntKind}{i:Int}(hx:ev s x=some (.loc h off)) (hy:ev s y=some (.val (.int k i))) (h0:0≤i) (hn:i<n) (ht:P.underlying t=some (.array n e)) (hsz:∀w,(sizeOf e).run P w=.ok 1 w):
  PY P s ⟨dst,.indexAddr t x y,ty,pos,after,guard⟩ (.loc h (i.toNat+off)):=fun _ cx μ a w hrel=>by
 have hv:=hrel.ev hx;generalize e1:a.eval x=v at hv;cases hv with
 | aF h=>cases h
 | loc _ _ b m hm=>
  refine⟨_,.loc h (i.toNat+off) b m hm,fun w'=>?_⟩;simp[execOp,e1,hrel.val hy,Instr.indexAt,asIntOf,Instr.sureAddr,run_underlying ht,h0,hn,hsz,Addr.lz,Nat.add_comm]
theorem RN {e:TypeId}{k k':IntKind}(he:P.underlying e=some (.int k')) (a b:Int) (d:Nat) (w:World):(Op.equalIn (d+1) e (.int k a) (.int k b)).run P w=.ok (a==b) w:=by
 simp[Op.equalIn,run_underlying he]
theorem rX {e:TypeId}(hag:∀w,(isAgg e).run P w=.ok false w){cs:Array Value}{i:Nat}{v:Value}(h:cs[i]?=some v) (w:World):(part e cs i).run P w=.ok v w:=by
 unfold part;simp[hag,h]
theorem Ph {e:TypeId}{k:IntKind}(he:P.underlying e=some (.int k)) (w:World):(isAgg e).run P w=.ok false w:=by
 simp[isAgg,underlying,he]
theorem RO {t e:TypeId}{n:Nat}{k k':IntKind}(ht:P.underlying t=some (.array n e)) (he:P.underlying e=some (.int k')) (hsz:∀w,(sizeOf e).run P w=.ok 1 w) (xs ys:List Int) (hx:xs.length=n) (hy:ys.length=n) (w:World):
  (Op.equal t (.agg (xs.map (Value.int k)).toArray) (.agg (ys.map (Value.int k)).toArray)).run P w=.ok (GR xs ys) w:=by
 have key:∀d,(Op.equalIn (d+2) t (.agg (xs.map (Value.int k)).toArray) (.agg (ys.map (Value.int k)).toArray)).run P w=.ok (GR xs ys) w:=fun d=>by
  rw[Op.equalIn];simp only[Sem.run_bind,run_underlying ht,Result.andThen_ok,hsz,pg];rw[Std.Legacy.Range.forIn_eq_forIn_range'];have loop:∀(m i:Nat),i+m=n→Sem.run P (forIn (List.range' i m) ((none,()):Option Bool×Unit) fun i __s=>do
      let __do_lift ←part e (xs.map (Value.int k)).toArray i
      let __do_lift_1 ←part e (ys.map (Value.int k)).toArray i
      let __do_lift ←Op.equalIn (d+1) e __do_lift __do_lift_1
      if (!__do_lift)=true then pure (ForInStep.done (some false,())) else pure (ForInStep.yield (none,()))) w=.ok (if GR (xs.drop i) (ys.drop i) then(none,()) else(some false,())) w:=by
   intro m
   induction m with
   | zero=>
    intro i h;rw[List.drop_eq_nil_of_le (by omega),List.drop_eq_nil_of_le (by omega)];simp[GR]
   | succ m ih=>
    intro i h;have h1:i<xs.length:=by omega
    have h2:i<ys.length:=by omega
    have p1:=rX (P:=P) (Ph he) (cs:=(xs.map (Value.int k)).toArray) (i:=i) (v:=.int k xs[i]) (by simp[h1]) w;have p2:=rX (P:=P) (Ph he) (cs:=(ys.map (Value.int k)).toArray) (i:=i) (v:=.int k ys[i]) (by simp[h2]) w;rw[List.range'_succ,List.forIn_cons];simp only[Sem.run_bind,p1,p2,Result.andThen_ok,RN he];rw[cM h1,cM h2];simp only[GR]
    by_cases hb:xs[i]=ys[i]
    ·have e1:(xs[i]==ys[i])=true:=by simpa using hb
     simp only[e1,fj,bF,if_false,Sem.run_pure,Result.andThen_ok,qu];exact ih (i+1) (by omega)
    ·have e1:(xs[i]==ys[i])=false:=by simpa using hb
     simp only[e1,jn,if_true,Sem.run_pure,Result.andThen_ok,Bool.false_and,bF,if_false]
  have:=loop n 0 (by omega);simp only[gW] at this;have e0:([:n]:Std.Legacy.Range).size=n:=by simp[Std.Legacy.Range.size]
  rw[e0];show(Result.andThen (Sem.run P (forIn (List.range' 0 n 1) _ _) w) _)=_;rw[this];cases GR xs ys <;> simp
 exact key 9998
theorem PY.ZY {t e t':TypeId}{n:Nat}{k k':IntKind}{x y:Operand}{xs ys:List Int}(hx:ev s x=some (.agg (xs.map fun a=>.val (.int k a)))) (hy:ev s y=some (.agg (ys.map fun a=>.val (.int k a)))) (ht:P.underlying t=some (.array n e)) (he:P.underlying e=some (.int k')) (hsz:∀w,(sizeOf e).run P w=.ok 1 w) (h1:xs.length=n) (h2:ys.length=n) (hgt:P.eqGuardType P.depth t=false):
  PY P s ⟨dst,.binOp .eql t x y t',ty,pos,after,guard⟩ (.val (.bool (GR xs ys))):=fun N cx μ a w hr=>by
 have hv:∀{l:List Int}{v:Value},aU (cx.O s.st μ) cx.base w μ (.agg (l.map fun a=>.val (.int k a))) v→v=.agg (l.map (Value.int k)).toArray:=by
  intro l v h;have aF:∀{O:Nat→Prop}{us:List Value},us.length=(l.map fun a=>G.val (.int k a)).length→(∀(j:Nat) (g:G) (v:Value),(l.map fun a=>G.val (.int k a))[j]?=some g→us[j]?=some v→g=.val v)→us=l.map (Value.int k):=by
   intro O us hl hr;apply List.ext_getElem (by simpa using hl);intro j h1 h2;have hjl:j<l.length:=by simpa using h2
   have:=hr j (.val (.int k l[j])) us[j] (by simp[hjl]) (ag h1);rw[←G.val.inj this];simp
  cases h with
  | aF h=>
   cases h with
   | agg cells us hl hr=>rw[aF (O:=cx.O s.st μ) hl fun j g v hg hv=>by
     have:=hr j g v hg hv;rw[ak] at hg;obtain⟨a,_,rfl⟩:=az.1 hg;cases this;rfl]
  | agg cells us hl hr=>rw[aF (O:=cx.O s.st μ) hl fun j g v hg hv=>by
     have:=hr j g v hg hv;rw[ak] at hg;obtain⟨a,_,rfl⟩:=az.1 hg;cases this with
     | aF h=>cases h;rfl]
 have q1:=hv (hr.ev hx);have q2:=hv (hr.ev hy);refine⟨_,.aF (.val _),fun w'=>?_⟩;have h:=RO (P:=P) (k:=k) ht he hsz xs ys h1 h2 w';have hg:(eqGuard .eql t x y (.agg (xs.map (Value.int k)).toArray) (.agg (ys.map (Value.int k)).toArray)).run P w'=.ok () w':=by simp[eqGuard,hgt]
 simp only[execOp,q1,q2,Sem.run_bind,hg,Result.andThen_ok];simp[binOp,h]
def Ln:Value→Value→Option Bool
 | .int k a,.int k' b=>match decEq k k' with
  | isTrue _=>some (a==b)
  | isFalse _=>none
 | .bool a,.bool b=>some (a==b)
 | .string a,.string b=>some (a==b)
 | _,_=>none
def zx (P:Program) (e:TypeId) (v:Value):Bool:=match P.underlying e with
 | some (.int _)=>match v with
  | .int _ _=>true
  | _=>false
 | some .bool=>match v with
  | .bool _=>true
  | _=>false
 | some .string=>match v with
  | .string _=>true
  | _=>false
 | _=>false
def Ij (P:Program):List Field→List Value→List Value→Option Bool
 | [],_,_=>some true
 | f::r,us,vs=>match us[f.offset]?,vs[f.offset]? with
  | some u, some v => match f.name != "_" && (zx P f.type u && zx P f.type v) with
   | true=>match Ln u v with
    | some b=>match Ij P r us vs with
     | some c=>some (b&&c)
     | none=>none
    | none=>none
   | false=>none
  | _,_=>none
theorem Jf {e:TypeId}{v:Value}(h:zx P e v=true) (w:World):(isAgg e).run P w=.ok false w:=by
 unfold zx at h;split at h
 ·rename_i he;simp[isAgg,underlying,he]
 ·rename_i he;simp[isAgg,underlying,he]
 ·rename_i he;simp[isAgg,underlying,he]
 ·cases h
theorem PK {e:TypeId}{u v:Value}{b:Bool}(hu:zx P e u=true) (hv:zx P e v=true) (h:Ln u v=some b) (d:Nat) (w:World):(Op.equalIn (d+1) e u v).run P w=.ok b w:=by
 unfold zx at hu hv;unfold Ln at h;split at h
 ·split at h
  ·rename_i e1 _;subst e1;cases h;split at hu
   ·rename_i he;simp[Op.equalIn,run_underlying he]
   ·cases hu
   ·cases hu
   ·cases hu
  ·cases h
 ·cases h;split at hu
  ·cases hu
  ·rename_i he;simp[Op.equalIn,run_underlying he]
  ·cases hu
  ·cases hu
 ·cases h;split at hu
  ·cases hu
  ·cases hu
  ·rename_i he;simp[Op.equalIn,run_underlying he]
  ·cases hu
 ·cases h
theorem Uh {t:TypeId}{fs:Array Field}{us vs:List Value}{b:Bool}(ht:P.underlying t=some (.struct fs)) (hs:P.stoodInHeld t=false) (h:Ij P fs.toList us vs=some b) (w:World):
  (Op.equal t (.agg us.toArray) (.agg vs.toArray)).run P w=.ok b w:=by
 have key:∀d,(Op.equalIn (d+2) t (.agg us.toArray) (.agg vs.toArray)).run P w=.ok b w:=fun d=>by
  rw[Op.equalIn];simp only[Sem.run_bind,run_underlying ht,Result.andThen_ok];have loop:∀(l:List Field) (b:Bool),Ij P l us vs=some b→Sem.run P (forIn l ((none,()):Option Bool×Unit) fun f __s=>
     if f.name ≠ "_" then do
      let __do_lift ←part f.type us.toArray f.offset
      let __do_lift_1 ←part f.type vs.toArray f.offset
      let __do_lift ←Op.equalIn (d+1) f.type __do_lift __do_lift_1
      if (!__do_lift)=true then pure (ForInStep.done (some false,())) else pure (ForInStep.yield (none,()))
     else pure (ForInStep.yield (none,()))) w=.ok (if b then(none,()) else(some false,())) w:=by
   intro l
   induction l with
   | nil=>intro b h;cases h;simp
   | cons f r ih=>
    intro b h;simp only[Ij] at h;split at h
    ·rename_i u v hu hv;split at h
     ·rename_i hc;simp only[af,bne_iff_ne,ne_eq] at hc;obtain⟨c0,c1,c2⟩:=hc;split at h
      ·rename_i b1 hb1;split at h
       ·rename_i c hc;cases h;have p1:=rX (P:=P) (Jf c1) (cs:=us.toArray) (i:=f.offset) (v:=u) (by simpa using hu) w;have p2:=rX (P:=P) (Jf c2) (cs:=vs.toArray) (i:=f.offset) (v:=v) (by simpa using hv) w;rw[List.forIn_cons];simp only[c0,ne_eq,not_false_eq_true,if_true,Sem.run_bind,p1,p2,Result.andThen_ok,PK c1 c2 hb1];cases b1 with
        | false=>simp
        | true=>
         simp only[fj,bF,if_false,Sem.run_pure,Result.andThen_ok,qu];exact ih c hc
       ·cases h
      ·cases h
     ·cases h
    ·cases h
  have:=loop fs.toList b h;rw[show Sem.run P program w=.ok P w from rfl];simp only[Result.andThen_ok,hs,bF,if_false,Sem.run_bind];rw[Array.forIn_toList] at this;rw[this];cases b <;> simp
 exact key 9998
theorem A0 {O:Nat→Prop}{base:Nat}{μ:Mu}{w:World}{l:List Value}{v:Value}(h:aU O base w μ (.agg (l.map .val)) v):v=.agg l.toArray:=by
 have aF:∀{us:List Value},us.length=(l.map G.val).length→(∀(j:Nat) (g:G) (v:Value),(l.map G.val)[j]?=some g→us[j]?=some v→g=.val v)→us=l:=by
  intro us hl hr;apply List.ext_getElem (by simpa using hl);intro j h1 h2;have:=hr j (.val l[j]) us[j] (by simp[h2]) (ag h1);rw[←G.val.inj this]
 cases h with
 | aF h=>
  cases h with
  | agg cells us hl hr=>rw[aF hl fun j g v hg hv=>by
    have:=hr j g v hg hv;rw[ak] at hg;obtain⟨a,_,rfl⟩:=az.1 hg;cases this;rfl]
 | agg cells us hl hr=>rw[aF hl fun j g v hg hv=>by
    have:=hr j g v hg hv;rw[ak] at hg;obtain⟨a,_,rfl⟩:=az.1 hg;cases this with
    | aF h=>cases h;rfl]
theorem PY.Z6 {t t':TypeId}{x y:Operand}{us vs:List Value}{fs:Array Field}{b:Bool}(hx:ev s x=some (.agg (us.map .val))) (hy:ev s y=some (.agg (vs.map .val))) (ht:P.underlying t=some (.struct fs)) (hs:P.stoodInHeld t=false) (hgt:P.eqGuardType P.depth t=false) (hb:Ij P fs.toList us vs=some b):
  PY P s ⟨dst,.binOp .eql t x y t',ty,pos,after,guard⟩ (.val (.bool b))∧PY P s ⟨dst,.binOp .neq t x y t',ty,pos,after,guard⟩ (.val (.bool (!b))):=by
 have h:=Uh (P:=P) ht hs hb;constructor
 ·intro N cx μ a w hr;have q1:=A0 (hr.ev hx);have q2:=A0 (hr.ev hy);refine⟨_,.aF (.val _),fun w'=>?_⟩;have hg:(eqGuard .eql t x y (.agg us.toArray) (.agg vs.toArray)).run P w'=.ok () w':=by simp[eqGuard,hgt]
  simp only[execOp,q1,q2,Sem.run_bind,hg,Result.andThen_ok];simp[binOp,h]
 ·intro N cx μ a w hr;have q1:=A0 (hr.ev hx);have q2:=A0 (hr.ev hy);refine⟨_,.aF (.val _),fun w'=>?_⟩;have hg:(eqGuard .neq t x y (.agg us.toArray) (.agg vs.toArray)).run P w'=.ok () w':=by simp[eqGuard,hgt]
  simp only[execOp,q1,q2,Sem.run_bind,hg,Result.andThen_ok];simp[binOp,h]
end
end Go.AM
