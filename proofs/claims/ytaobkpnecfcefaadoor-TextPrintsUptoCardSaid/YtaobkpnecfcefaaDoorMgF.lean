/-
  AM, third part.
-/
import Derived.Test.YtaobkpnecfcefaaDoorMgB
import Derived.Laws.CopyRow
import Derived.Laws.IdiomCopy
set_option linter.unusedSectionVars false
set_option linter.unusedSimpArgs false
set_option linter.unusedVariables false
/-
 AM,part BA:what a callee hands back of the blocks that were lent to it.
-/
namespace Go.AM
def keysHas:List (Nat×Blk)→Nat→Bool
 | [],_=>false
 | (j,_)::r,x=>Nat.beq j x||keysHas r x
theorem keysHas_of {st:List (Nat×Blk)}{j:Nat}{k:Blk}(h:sget st j=some k):keysHas st j=true:=by
 induction st with
 | nil=>cases h
 | cons x r ih=>
  obtain⟨y,k'⟩:=x
  simp only[sget,keysHas,Bool.or_eq_true] at h⊢
  cases hb:Nat.beq y j with
  | true=>exact .inl rfl
  | false=>rw[hb] at h;exact .inr (ih h)
theorem keysHas_get {st:List (Nat×Blk)}{j:Nat}(h:keysHas st j=true):∃k,sget st j=some k:=by
 induction st with
 | nil=>cases h
 | cons x r ih=>
  obtain⟨y,k'⟩:=x
  simp only[sget,keysHas,Bool.or_eq_true] at h⊢
  cases hb:Nat.beq y j with
  | true=>exact⟨k',rfl⟩
  | false=>rw[hb] at h;exact ih (h.resolve_left (fun h=>by cases h))
def bkH:List (Nat×Blk)→List Nat→Nat→Option Nat
 | (j,_)::r,h::hs,x=>bif Nat.beq j x then some h else bkH r hs x
 | _,_,_=>none
def bkI:List (Nat×Blk)→List Nat→Nat→Option Nat
 | (j,_)::r,h::hs,y=>bif Nat.beq h y then some j else bkI r hs y
 | _,_,_=>none
def renG (vw:Bool) (f:Nat→Option Nat):G→Option G
 | .loc h off=>(f h).map fun x=>.loc x off
 | .osl h sz off m=>(f h).map fun x=>.osl x sz off m
 | .yld h=>(f h).map .yld
 | .mref h=>(f h).map .mref
 | .kp h i off=>(f h).map fun x=>.kp x i off
 | .ks h i sz n=>(f h).map fun x=>.ks x i sz n
 | .agg gs=>(go gs).map .agg
 | .tup gs=>(go gs).map .tup
 | .clo g gs=>(go gs).map (.clo g)
 | .val v=>some (.val v)
 | .ifc b=>some (.ifc b)
 | .fr g=>some (.fr g)
 | .sl n cs=>bif vw then none else some (.sl n cs)
 | .ptr cs=>bif vw then none else some (.ptr cs)
 | .any=>some .any
where go:List G→Option (List G)
 | []=>some []
 | g::r=>match renG vw f g,go r with
  | some g',some r'=>some (g'::r')
  | _,_=>none
theorem renG_go {vw:Bool}{f:Nat→Option Nat}:∀{gs gs':List G},renG.go vw f gs=some gs'→gs'.length=gs.length∧∀(j:Nat) (g':G),gs'[j]?=some g'→∃g,gs[j]?=some g∧renG vw f g=some g'
 | [],_,h=>by cases h;exact⟨rfl,fun j g h=>by simp at h⟩
 | g::r,gs',h=>by
  simp only[renG.go] at h
  cases h1:renG vw f g with
  | none=>rw[h1] at h;cases h
  | some g1=>
   rw[h1] at h
   cases h2:renG.go vw f r with
   | none=>rw[h2] at h;cases h
   | some r1=>
    rw[h2] at h
    cases h
    obtain⟨h3,h4⟩:=renG_go h2
    refine⟨by simp[h3],fun j g' hg'=>?_⟩
    cases j with
    | zero=>cases hg';exact⟨g,rfl,h1⟩
    | succ j=>exact h4 j g' hg'
def renB (vw:Bool) (f:Nat→Option Nat) (k:Blk):Option Blk:=
 bif k.pure then bif vw&&!k.fresh then none else some k else match renG.go vw f k.cells with
  | some cs=>some {k with cells:=cs}
  | none=>none
def isLoop:Option Kd→Bool
 | some (.loop _)=>true
 | _=>false
def mineOf (st:List (Nat×Blk)) (h:Nat):Bool:=match sget st h with
 | some k=>k.mine
 | none=>false
def mineAll (st st':List (Nat×Blk)):List Nat→Nat→Bool
 | [],_=>true
 | h::r,i=>(match sget st h with
  | some k=>k.mine||(isLoop k.lp&&keysHas st' (1000+i))
  | none=>false)&&mineAll st st' r (i+1)
theorem mineAll_at {st st':List (Nat×Blk)}:∀{r:List Nat}{i:Nat},mineAll st st' r i=true→∀{n h:Nat}{k:Blk},r[n]?=some h→sget st h=some k→k.mine=true∨keysHas st' (1000+(i+n))=true
 | [],_,_,_,_,_,e,_=>by cases e
 | x::r,i,ha,n,h,k,e,hk=>by
  simp only[mineAll,Bool.and_eq_true] at ha
  cases n with
  | zero=>
   cases e
   rw[hk] at ha
   simp only[Bool.or_eq_true,Bool.and_eq_true] at ha
   rcases ha.1 with h1 | h1
   ·exact .inl h1
   ·exact .inr h1.2
  | succ n=>
   have:=mineAll_at ha.2 (n:=n) (by simpa using e) hk
   rw[show i+1+n=i+(n+1) by omega] at this
   exact this
def mineBk (A:Bool) (st:List (Nat×Blk)) (j h:Nat) (lp:Option Kd) (k:Blk):Blk:=bif isLoop lp then k else bif pinned j then {k with mine:=mineOf st h} else {k with mine:=k.mine||A}
def backSt (vw:Bool) (f:Nat→Option Nat) (A:Bool) (st:List (Nat×Blk)):List (Nat×Blk)→List Nat→Option (List (Nat×Blk))
 | [],[]=>some []
 | (j,k)::r,h::hs=>match renB vw f k,backSt vw f A st r hs with
  | some k',some r'=>some ((h,mineBk A st j h k.lp k')::r')
  | _,_=>none
 | _,_=>none
def hAt (H:List Nat) (i h:Nat):Bool:=match H[i]? with
 | some x=>Nat.beq x h
 | none=>false
theorem hAt_eq {H:List Nat}{i h:Nat}(e:hAt H i h=true):H[i]?=some h:=by
 unfold hAt at e
 cases hx:H[i]? with
 | none=>rw[hx] at e;cases e
 | some x=>rw[hx] at e;rw[Nat.eq_of_beq_eq_true e]
def bkOk (s:St) (H:List Nat):List (Nat×Blk)→List Nat→Bool
 | [],[]=>true
 | (j,_)::r,h::hs=>!(keysHas r j)&&(!(hs.contains h)&&((bif pinned j then hAt H (j-1000) h else Nat.blt h 1000&&((idxH H h).isSome||fresh s h))&&bkOk s H r hs))
 | _,_=>false
def deads (st':List (Nat×Blk)):List Nat→Nat→List Nat
 | [],_=>[]
 | h::r,i=>bif keysHas st' (1000+i) then deads st' r (i+1) else h::deads st' r (i+1)
theorem deads_mem {st':List (Nat×Blk)}:∀{r:List Nat}{i h:Nat},h∈r→h∉deads st' r i→∃n,r[n]?=some h∧keysHas st' (1000+(i+n))=true
 | [],_,_,hm,_=>by cases hm
 | x::r,i,h,hm,hn=>by
  simp only[deads] at hn
  cases hb:keysHas st' (1000+i) with
  | true=>
   rw[hb] at hn
   rcases List.mem_cons.1 hm with rfl | hm
   ·exact⟨0,rfl,hb⟩
   ·obtain⟨n,h1,h2⟩:=deads_mem hm hn
    exact⟨n+1,h1,by rw[show 1000+(i+(n+1))=1000+(i+1+n) by omega];exact h2⟩
  | false=>
   rw[hb] at hn
   simp only[cond_false,List.mem_cons,not_or] at hn
   rcases List.mem_cons.1 hm with rfl | hm
   ·exact absurd rfl hn.1
   ·obtain⟨n,h1,h2⟩:=deads_mem hm hn.2
    exact⟨n+1,h1,by rw[show 1000+(i+(n+1))=1000+(i+1+n) by omega];exact h2⟩
def anyH:List Nat→G→Bool
 | [],_=>false
 | h::r,g=>g.hasH h||anyH r g
theorem anyH_false:∀{ds:List Nat}{g:G},anyH ds g=false→∀h∈ds,g.hasH h=false
 | [],_,_,_,h=>by cases h
 | x::r,g,e,h,hm=>by
  simp only[anyH,Bool.or_eq_false_iff] at e
  rcases List.mem_cons.1 hm with rfl | hm
  ·exact e.1
  ·exact anyH_false e.2 h hm
def deadG (ds:List Nat) (g:G):G:=bif anyH ds g then .any else g
def deadFr (ds:List Nat):List (Nat×G)→List (Nat×G)
 | []=>[]
 | (t,g)::r=>(t,deadG ds g)::deadFr ds r
def deadB (ds:List Nat) (k:Blk):Blk:=bif k.pure then k else {k with cells:=k.cells.map (deadG ds)}
def deadSt (ds:List Nat):List (Nat×Blk)→List (Nat×Blk)
 | []=>[]
 | (h,k)::r=>(h,deadB ds k)::deadSt ds r
theorem get_deadFr {ds:List Nat}{fr:List (Nat×G)}{t:Nat}{g:G}(hg:get (deadFr ds fr) t=some g):∃g0,get fr t=some g0∧g=deadG ds g0:=by
 induction fr with
 | nil=>cases hg
 | cons x r ih=>
  obtain⟨k,g'⟩:=x
  simp only[deadFr,get_cons] at hg⊢
  cases hb:Nat.beq k t with
  | true=>rw[hb] at hg;cases hg;exact⟨g',rfl,rfl⟩
  | false=>rw[hb] at hg;exact ih hg
theorem sget_deadSt {ds:List Nat}{st:List (Nat×Blk)}{t:Nat}{k:Blk}(hg:sget (deadSt ds st) t=some k):∃k0,sget st t=some k0∧k=deadB ds k0:=by
 induction st with
 | nil=>cases hg
 | cons x r ih=>
  obtain⟨y,k'⟩:=x
  simp only[deadSt,sget_cons] at hg⊢
  cases hb:Nat.beq y t with
  | true=>rw[hb] at hg;cases hg;exact⟨k',rfl,rfl⟩
  | false=>rw[hb] at hg;exact ih hg
theorem deadG_spec {O:Nat→Prop}{base:Nat}{w:World}{μ μ':Mu}{ds:List Nat}{g:G}{v:Value}(hv:RepV O base w μ g v) (hμ:∀k,k∉ds→g.hasH k=true→Ext (μ k) (μ' k)):RepV O base w μ' (deadG ds g) v:=by
 unfold deadG
 cases hh:anyH ds g with
 | true=>exact .imm (.any _)
 | false=>exact hv.remapE fun k hk=>hμ k (fun hm=>by rw[anyH_false hh k hm] at hk;cases hk) hk
theorem RelBlk.dead {O:Nat→Prop}{base:Nat}{w:World}{μ μ':Mu}{k:Blk}{x:Option (Nat×Mm)}(hb:RelBlk O base w μ k x) (ds:List Nat) (hμ:k.pure=false→∀g∈k.cells,∀y,y∉ds→g.hasH y=true→Ext (μ y) (μ' y)):RelBlk O base w μ' (deadB ds k) x:=by
 unfold deadB
 cases hp:k.pure with
 | true=>exact hb.remap fun hp'=>by rw[hp] at hp';cases hp'
 | false=>
  have hμ:=hμ hp
  simp only[cond_false]
  cases x with
  | none=>
   obtain⟨h1,h2⟩:=hb
   refine⟨by simp[h1],?_⟩
   dsimp only
   split at h2
   ·trivial
   ·exact h2.elim
   ·rw[hp] at h2;cases h2.2
  | some bm=>
   obtain⟨b,m⟩:=bm
   cases hl:k.lp with
   | none=>
    obtain⟨cs1,h4,h5,h6,h7,h8,h9⟩:=hb.cells hl
    refine .mk rfl (hb.nokid hl) ⟨cs1,h4,h5,by simpa using h6,h7,h8,fun j g hg=>?_⟩
    dsimp only at hg
    rw[List.getElem?_map] at hg
    cases hg0:k.cells[j]? with
    | none=>rw[hg0] at hg;cases hg
    | some g0=>
     rw[hg0] at hg
     cases hg
     obtain⟨v,hv,hrv⟩:=h9 j g0 hg0
     refine⟨v,hv,?_⟩
     unfold RepC at hrv⊢
     rw[hp] at hrv
     simp only
     exact deadG_spec hrv (hμ g0 (List.mem_of_getElem? hg0))
   | some kd=>
    cases kd with
    | deep d=>have:=((RelBlk.deep hl).1 hb).2.1;rw[hp] at this;cases this
    | loop lp=>
     obtain⟨D,vs,h1,h2,h3,h4,h5⟩:=(RelBlk.loop hl).1 hb
     refine(RelBlk.loop rfl).2 ⟨D,vs,h1,h2,h3,rfl,fun j t g ht hg=>?_⟩
     dsimp only at hg
     rw[List.getElem?_map] at hg
     cases hg0:k.cells[j]? with
     | none=>rw[hg0] at hg;cases hg
     | some g0=>
      rw[hg0] at hg
      cases hg
      obtain⟨v,hv,hrv⟩:=h5 j t g0 ht hg0
      exact⟨v,hv,deadG_spec hrv (hμ g0 (List.mem_of_getElem? hg0))⟩
def backS (vw:Bool) (s:St) (H:List Nat) (st':List (Nat×Blk)) (bk:List Nat):Option St:=
 bif bkOk s H st' bk&&s.df.all (fun g=>!(anyH (deads st' H 0) g)) then match backSt vw (bkH st' bk) (mineAll s.st st' H 0) s.st st' bk with
  | some sb=>some {fr:=deadFr (deads st' H 0) s.fr,st:=sb++deadSt (deads st' H 0) (outSt H s.st),df:=s.df}
  | none=>none
 else none
theorem sget_append {a b:List (Nat×Blk)}{h:Nat}:sget (a++b) h=(sget a h).or (sget b h):=by
 induction a with
 | nil=>rfl
 | cons x r ih=>
  obtain⟨y,k⟩:=x
  simp only[List.cons_append,sget]
  cases Nat.beq y h with
  | true=>rfl
  | false=>exact ih
theorem backSt_get {vw A:Bool}{f:Nat→Option Nat}{st:List (Nat×Blk)}{s:St}{H:List Nat}:∀{st':List (Nat×Blk)}{bk:List Nat}{sb:List (Nat×Blk)},backSt vw f A st st' bk=some sb→bkOk s H st' bk=true→
  ∀{h:Nat}{k2:Blk},sget sb h=some k2→∃j k' k1,sget st' j=some k'∧bkI st' bk h=some j∧renB vw f k'=some k1∧k2=mineBk A st j h k'.lp k1
 | [],[],_,e,_,_,_,hg=>by cases e;cases hg
 | [],_::_,_,e,_,_,_,_=>by cases e
 | _::_,[],_,e,_,_,_,_=>by cases e
 | (j,k)::r,x::hs,sb,e,ok,h,k2,hg=>by
  simp only[backSt] at e
  cases h1:renB vw f k with
  | none=>rw[h1] at e;cases e
  | some k1=>
   rw[h1] at e
   cases h2:backSt vw f A st r hs with
   | none=>rw[h2] at e;cases e
   | some r'=>
    rw[h2] at e
    cases e
    simp only[bkOk,Bool.and_eq_true,Bool.not_eq_true'] at ok
    obtain⟨o1,o2,o3,o4⟩:=ok
    simp only[sget] at hg
    cases hb:Nat.beq x h with
    | true=>
     rw[hb] at hg
     cases hg
     have:=Nat.eq_of_beq_eq_true hb
     subst this
     exact⟨j,k,k1,sget_cons_same _ _ _,by simp only[bkI,Nat.beq_refl,cond_true],h1,rfl⟩
    | false=>
     rw[hb] at hg
     obtain⟨j',k',k1',q1,q2,q3,q4⟩:=backSt_get h2 o4 hg
     refine⟨j',k',k1',?_,by simp only[bkI,hb,cond_false];exact q2,q3,q4⟩
     rw[sget_cons_other _ _ (fun e=>by subst e;rw[keysHas_of q1] at o1;cases o1)]
     exact q1
theorem bkOk_row {s:St}{H:List Nat}:∀{st':List (Nat×Blk)}{bk:List Nat},bkOk s H st' bk=true→∀{h j:Nat},bkI st' bk h=some j→
  keysHas st' j=true∧h∈bk∧bkH st' bk j=some h∧((pinned j=true∧H[j-1000]?=some h)∨(pinned j=false∧Nat.blt h 1000=true∧(h∈H∨fresh s h=true)))
 | [],[],_,_,_,e=>by cases e
 | [],_::_,ok,_,_,_=>by cases ok
 | _::_,[],ok,_,_,_=>by cases ok
 | (j,k)::r,x::hs,ok,h,j',e=>by
  simp only[bkOk,Bool.and_eq_true,Bool.not_eq_true'] at ok
  obtain⟨o1,o2,o3,o4⟩:=ok
  simp only[bkI] at e
  cases hb:Nat.beq x h with
  | true=>
   rw[hb] at e
   cases e
   have:=Nat.eq_of_beq_eq_true hb
   subst this
   refine⟨by simp[keysHas,Nat.beq_refl],List.mem_cons_self,by simp only[bkH,Nat.beq_refl,cond_true],?_⟩
   cases hp:pinned j with
   | true=>rw[hp] at o3;exact .inl ⟨rfl,hAt_eq o3⟩
   | false=>
    rw[hp] at o3
    simp only[cond_false,Bool.and_eq_true,Bool.or_eq_true] at o3
    refine .inr ⟨rfl,o3.1,o3.2.imp (fun h=>?_) id⟩
    obtain⟨i,hi⟩:=Option.isSome_iff_exists.1 h
    exact mem_of_idx (idxH_some hi)
  | false=>
   rw[hb] at e
   obtain⟨q1,q2,q3,q4⟩:=bkOk_row o4 e
   refine⟨by simp[keysHas,q1],List.mem_cons_of_mem _ q2,?_,q4⟩
   simp only[bkH]
   have:Nat.beq j j'=false:=by
    cases hb2:Nat.beq j j' with
    | false=>rfl
    | true=>have:=Nat.eq_of_beq_eq_true hb2;subst this;rw[q1] at o1;cases o1
   rw[this]
   exact q3
theorem bkH_row {s:St}{H:List Nat}:∀{st':List (Nat×Blk)}{bk:List Nat},bkOk s H st' bk=true→∀{j h:Nat},bkH st' bk j=some h→h∈bk∧bkI st' bk h=some j
 | [],[],_,_,_,e=>by cases e
 | [],_::_,ok,_,_,_=>by cases ok
 | _::_,[],ok,_,_,_=>by cases ok
 | (j,k)::r,x::hs,ok,j',h,e=>by
  simp only[bkOk,Bool.and_eq_true,Bool.not_eq_true'] at ok
  obtain⟨o1,o2,o3,o4⟩:=ok
  simp only[bkH] at e
  cases hb:Nat.beq j j' with
  | true=>
   rw[hb] at e
   cases e
   have:=Nat.eq_of_beq_eq_true hb
   subst this
   exact⟨List.mem_cons_self,by simp only[bkI,Nat.beq_refl,cond_true]⟩
  | false=>
   rw[hb] at e
   obtain⟨q1,q2⟩:=bkH_row o4 e
   refine⟨List.mem_cons_of_mem _ q1,?_⟩
   simp only[bkI]
   have:Nat.beq x h=false:=by
    cases hb2:Nat.beq x h with
    | false=>rfl
    | true=>have:=Nat.eq_of_beq_eq_true hb2;subst this;simp at o2;exact absurd q1 o2
   rw[this]
   exact q2
theorem bkH_dom {s:St}{H:List Nat}:∀{st':List (Nat×Blk)}{bk:List Nat},bkOk s H st' bk=true→∀{j:Nat},keysHas st' j=true→∃h,bkH st' bk j=some h
 | [],[],_,_,e=>by cases e
 | [],_::_,ok,_,_=>by cases ok
 | _::_,[],ok,_,_=>by cases ok
 | (j,k)::r,x::hs,ok,j',e=>by
  simp only[bkOk,Bool.and_eq_true,Bool.not_eq_true'] at ok
  simp only[keysHas,Bool.or_eq_true] at e
  simp only[bkH]
  cases hb:Nat.beq j j' with
  | true=>exact⟨x,rfl⟩
  | false=>rw[hb] at e;exact bkH_dom ok.2.2.2 (e.resolve_left fun h=>by cases h)
def muB (μ μ'':Mu) (st':List (Nat×Blk)) (bk:List Nat):Mu:=fun y=>match bkI st' bk y with
 | some j=>μ'' j
 | none=>μ y
section
variable {P:Program}{N:Nat}{cx:Cx}{s:St}
theorem back_rel {a:Act}{w w':World}{μ μ'':Mu}{H:List Nat}{vw:Bool}{stC st':List (Nat×Blk)}{bk:List Nat}{s2:St}(hr:Rel N cx μ s a w) (hls:lendSt H (lendV s.st H vw) s.st H 0=some stC) (_hnd:H.Nodup)
  (hC:RelSt (cx0 (lendX cx s.st μ H vw) stC (muC H μ) w) μ'' st' w') (hb:backS vw s H st' bk=some s2):
  Rel N cx (muB μ μ'' st' bk) s2 a w'∧
  (∀g g' v,RepV ((cx0 (lendX cx s.st μ H vw) stC (muC H μ) w).O st' μ'') w.heap.size w' μ'' g v→renG vw (bkH st' bk) g=some g'→RepV (cx.O s2.st (muB μ μ'' st' bk)) cx.base w' (muB μ μ'' st' bk) g' v)∧
  (∀W:List Nat,(∀h∈H,h∈W)→Step W s.st μ s2.st (muB μ μ'' st' bk) w w')∧(∀y,y∈H→y∉deads st' H 0→Ext (μ y) (muB μ μ'' st' bk y)):=by
 unfold backS at hb
 cases hok:bkOk s H st' bk&&s.df.all (fun g=>!(anyH (deads st' H 0) g)) with
 | false=>rw[hok] at hb;cases hb
 | true=>
 rw[hok,cond_true] at hb
 simp only[Bool.and_eq_true] at hok
 obtain⟨hok,hdf⟩:=hok
 cases hbs:backSt vw (bkH st' bk) (mineAll s.st st' H 0) s.st st' bk with
 | none=>rw[hbs] at hb;cases hb
 | some sb=>
 rw[hbs] at hb
 cases hb
 have hst:=hr.st
 have alive:∀y,y∉deads st' H 0→(bkI st' bk y=none∨y∈H∨fresh s y=false)→Ext (μ y) (muB μ μ'' st' bk y):=by
  intro y hy hn
  unfold muB
  by_cases hyH:y∈H
  ·obtain⟨n,e1,e2⟩:=deads_mem hyH hy
   rw[Nat.zero_add] at e2
   obtain⟨h',e3⟩:=bkH_dom hok e2
   obtain⟨_,e4⟩:=bkH_row hok e3
   have e5:=(bkOk_row hok e4).2.2.2
   have e6:h'=y:=by
    rcases e5 with ⟨_,e5⟩ | ⟨e5,_⟩
    ·rw[show 1000+n-1000=n by omega,e1] at e5;exact(Option.some.inj e5).symm
    ·rw[pinned_add] at e5;cases e5
   subst e6
   rw[e4]
   obtain⟨k,hk⟩:=keysHas_get e2
   have:=(hC.pin _ k hk (pinned_add n)).ext
   simp only
   rw[←muC_at (μ:=μ) e1]
   exact this
  ·cases hI:bkI st' bk y with
   | none=>exact .inl rfl
   | some j=>
    rcases(bkOk_row hok hI).2.2.2 with ⟨_,e⟩ | ⟨_,_,e | e⟩
    ·exact absurd (mem_of_idx e) hyH
    ·exact absurd e hyH
    ·rcases hn with hn | hn | hn
     ·rw[hI] at hn;cases hn
     ·exact absurd hn hyH
     ·rw[hn] at e;cases e
 have notfr:∀y t g,get s.fr t=some g→g.hasH y=true→fresh s y=false:=by
  intro y t g hg hh
  cases hf:fresh s y with
  | false=>rfl
  | true=>rw[frNo_get (fresh_spec hf).2.1 hg] at hh;cases hh
 have notst:∀y x k g,sget s.st x=some k→k.pure=false→g∈k.cells→g.hasH y=true→fresh s y=false:=by
  intro y x k g hk hp hg hh
  cases hf:fresh s y with
  | false=>rfl
  | true=>rw[stNo_get (fresh_spec hf).2.2.1 hk hp hg] at hh;cases hh
 have hsz:w.heap.size≤w'.heap.size:=hC.hb
 have hkeep:∀b,b<w.heap.size→¬Own stC (muC H μ) b→w'.heap[b]?=w.heap[b]?:=fun b hb hn=>hC.keep b hb hn
 have hown:∀b,Own stC (muC H μ) b→Own s.st μ b:=fun b ho=>by obtain⟨i,h,k,c,m,_,h2,h3,hi⟩:=own_lent hls ho;exact⟨h,k,c,m,h2,h3,hi⟩
 have hkept:Kept (cx.O s.st μ) w w':=⟨hsz,fun b hb hn=>hkeep b hb fun ho=>hn (.inr (hown b ho))⟩
 have row:∀y k2,sget (sb++deadSt (deads st' H 0) (outSt H s.st)) y=some k2→
   (∃j k' k1,sget st' j=some k'∧bkI st' bk y=some j∧renB vw (bkH st' bk) k'=some k1∧k2=mineBk (mineAll s.st st' H 0) s.st j y k'.lp k1)∨
   (bkI st' bk y=none∧∃k0,idxH H y=none∧sget s.st y=some k0∧k2=deadB (deads st' H 0) k0):=by
  intro y k2 h
  rw[sget_append] at h
  cases hs:sget sb y with
  | some k3=>
   rw[hs] at h
   cases h
   exact .inl (backSt_get hbs hok hs)
  | none=>
   rw[hs,Option.none_or] at h
   obtain⟨k0,h1,h2⟩:=sget_deadSt h
   obtain⟨h3,h4⟩:=outSt_get h1
   refine .inr ⟨?_,k0,h3,h4,h2⟩
   cases hI:bkI st' bk y with
   | none=>rfl
   | some j=>
    rcases(bkOk_row hok hI).2.2.2 with ⟨_,e⟩ | ⟨_,_,e | e⟩
    ·exact absurd (mem_of_idx e) (idxH_none h3)
    ·exact absurd e (idxH_none h3)
    ·rw[(fresh_spec e).1] at h4;cases h4
 have notdead:∀{y},idxH H y=none→y∉deads st' H 0:=by
  intro y hy hm
  have:∀(r:List Nat) (i:Nat),y∈deads st' r i→y∈r:=by
   intro r
   induction r with
   | nil=>intro i h;cases h
   | cons x r ih=>
    intro i h
    simp only[deads] at h
    cases hb:keysHas st' (1000+i) with
    | true=>rw[hb] at h;exact List.mem_cons_of_mem _ (ih _ h)
    | false=>
     rw[hb] at h
     rcases List.mem_cons.1 h with rfl | h
     ·exact List.mem_cons_self
     ·exact List.mem_cons_of_mem _ (ih _ h)
  exact idxH_none hy (this H 0 hm)
 have whr:∀y k2 b m,sget (sb++deadSt (deads st' H 0) (outSt H s.st)) y=some k2→muB μ μ'' st' bk y=some (b,m)→
   (∃j k',bkI st' bk y=some j∧sget st' j=some k'∧μ'' j=some (b,m))∨(bkI st' bk y=none∧idxH H y=none∧∃k0,sget s.st y=some k0∧μ y=some (b,m)):=by
  intro y k2 b m h1 h2
  rcases row y k2 h1 with ⟨j,k',k1,e1,e2,_,_⟩ | ⟨e0,k0,e1,e2,_⟩
  ·left
   refine⟨j,k',e2,e1,?_⟩
   unfold muB at h2
   rw[e2] at h2
   exact h2
  ·right
   refine⟨e0,e1,k0,e2,?_⟩
   unfold muB at h2
   rw[e0] at h2
   exact h2
 have hO2:∀b,cx.O (sb++deadSt (deads st' H 0) (outSt H s.st)) (muB μ μ'' st' bk) b→cx.X b∨Own st' μ'' b∨Own (outSt H s.st) μ b:=by
  rintro b (ho | ⟨y,k2,c,m,h1,h2,hi⟩)
  ·exact .inl ho
  ·rcases whr y k2 c m h1 h2 with ⟨j,k',e1,e2,e3⟩ | ⟨e0,e1,k0,e2,e3⟩
   ·exact .inr (.inl ⟨j,k',c,m,e2,e3,hi⟩)
   ·exact .inr (.inr ⟨y,k0,c,m,outSt_of e1 e2,e3,hi⟩)
 have outlt:∀b,Own (outSt H s.st) μ b→b<w.heap.size:=fun b ho=>by
  obtain⟨h,k,c,m,_,h2,h3,hi⟩:=own_out ho
  exact own_lt hst ⟨h,k,c,m,h2,h3,hi⟩
 have hOO:∀b,b<w.heap.size→¬cx.O s.st μ b→¬cx.O (sb++deadSt (deads st' H 0) (outSt H s.st)) (muB μ μ'' st' bk) b:=by
  intro b hb hn ho
  rcases hO2 b ho with ho | ⟨j,k',c,m,h1,h2,hi⟩ | ho
  ·exact hn (.inl ho)
  ·rcases(hC.outF j k' c m b h1 h2 hi).2.1 with h3 | h3
   ·exact absurd hb (by show ¬b<w.heap.size;exact Nat.not_lt.2 h3)
   ·exact hn (.inr (hown b h3))
  ·obtain⟨h,k,c,m,_,h2,h3,hi⟩:=own_out ho
   exact hn (.inr ⟨h,k,c,m,h2,h3,hi⟩)
 have impO:∀(f:Bool),(vw=true→f=true)→∀{b},(bif f then Old (cx.O (sb++deadSt (deads st' H 0) (outSt H s.st)) (muB μ μ'' st' bk)) cx.base else cx.O (sb++deadSt (deads st' H 0) (outSt H s.st)) (muB μ μ'' st' bk)) b→
   (bif f then Old ((cx0 (lendX cx s.st μ H vw) stC (muC H μ) w).O st' μ'') w.heap.size else(cx0 (lendX cx s.st μ H vw) stC (muC H μ) w).O st' μ'') b:=by
  intro f hf b ho
  have key:∀{b},cx.O (sb++deadSt (deads st' H 0) (outSt H s.st)) (muB μ μ'' st' bk) b→(vw=false∨w.heap.size≤b)→(cx0 (lendX cx s.st μ H vw) stC (muC H μ) w).O st' μ'' b:=by
   intro b ho hv
   rcases hO2 b ho with ho | ho | ho
   ·exact .inl (.inl ho)
   ·exact .inr ho
   ·rcases hv with hv | hv
    ·exact .inl (.inr ⟨hv,ho⟩)
    ·have:=outlt b ho;omega
  cases f with
  | false=>exact key ho (.inl (by cases vw with | false=>rfl | true=>cases hf rfl))
  | true=>
   rcases ho with ho | ho
   ·exact .inl (by have:=hst.hb;show b<w.heap.size;omega)
   ·by_cases hlt:b<w.heap.size
    ·exact .inl hlt
    ·exact .inr (key ho (.inr (by omega)))
 have impo:∀(f:Bool){g:G}{v:Value},(vw=true→f=true)→RepI (bif f then Old ((cx0 (lendX cx s.st μ H vw) stC (muC H μ) w).O st' μ'') w.heap.size else(cx0 (lendX cx s.st μ H vw) stC (muC H μ) w).O st' μ'') w' g v→
   RepI (bif f then Old (cx.O (sb++deadSt (deads st' H 0) (outSt H s.st)) (muB μ μ'' st' bk)) cx.base else cx.O (sb++deadSt (deads st' H 0) (outSt H s.st)) (muB μ μ'' st' bk)) w' g v:=by
  intro f g v hf h
  exact h.mono (Kept.refl _ _) fun b _ hn ho=>hn (impO f hf ho)
 have ren:∀{g g':G}{v:Value},RepV ((cx0 (lendX cx s.st μ H vw) stC (muC H μ) w).O st' μ'') w.heap.size w' μ'' g v→renG vw (bkH st' bk) g=some g'→
   RepV (cx.O (sb++deadSt (deads st' H 0) (outSt H s.st)) (muB μ μ'' st' bk)) cx.base w' (muB μ μ'' st' bk) g' v:=by
  intro g g' v hv hg
  have hmu:∀{j h},bkH st' bk j=some h→muB μ μ'' st' bk h=μ'' j:=by
   intro j h e
   unfold muB
   rw[(bkH_row hok e).2]
  have imm:∀{g:G}{v:Value},RepI ((cx0 (lendX cx s.st μ H vw) stC (muC H μ) w).O st' μ'') w' g v→∀{g'},renG vw (bkH st' bk) g=some g'→
    RepV (cx.O (sb++deadSt (deads st' H 0) (outSt H s.st)) (muB μ μ'' st' bk)) cx.base w' (muB μ μ'' st' bk) g' v:=by
   intro g v h
   induction h with
   | any v=>intro g' hg;cases hg;exact .imm (.any _)
   | val v=>intro g' hg;cases hg;exact .imm (.val _)
   | ifc b v h=>intro g' hg;cases hg;exact .imm (.ifc b v h)
   | nil=>
    intro g' hg
    simp only[renG] at hg
    cases vw with
    | true=>cases hg
    | false=>cases hg;exact .imm .nil
   | emp a c=>
    intro g' hg
    simp only[renG] at hg
    cases vw with
    | true=>cases hg
    | false=>cases hg;exact .imm (.emp a c)
   | sl n cells b off cap us h1 h2 h3 h4 h5 ih=>
    intro g' hg
    simp only[renG] at hg
    cases hvw:vw with
    | true=>rw[hvw] at hg;cases hg
    | false=>rw[hvw] at hg;cases hg;exact .imm (impo false (fun h=>by rw[hvw] at h;cases h) (.sl n cells b off cap us h1 h2 h3 h4 h5))
   | ptr cells b off us h1 h2 h3 h4 ih=>
    intro g' hg
    simp only[renG] at hg
    cases hvw:vw with
    | true=>rw[hvw] at hg;cases hg
    | false=>rw[hvw] at hg;cases hg;exact .imm (impo false (fun h=>by rw[hvw] at h;cases h) (.ptr cells b off us h1 h2 h3 h4))
   | agg cells us hl hr ih=>
    intro g' hg
    simp only[renG,Option.map_eq_some_iff] at hg
    obtain⟨gs',h1,rfl⟩:=hg
    obtain⟨h2,h3⟩:=renG_go h1
    refine .agg gs' us (by omega) fun j g v hg hv=>?_
    obtain⟨g0,h4,h5⟩:=h3 j g hg
    exact ih j g0 v h4 hv h5
  induction hv generalizing g' with
  | imm h=>exact imm h hg
  | fr h=>cases hg;exact .fr (impo true (fun _=>rfl) h)
  | loc h off b m hm=>
   simp only[renG,Option.map_eq_some_iff] at hg
   obtain⟨x,h1,rfl⟩:=hg
   exact .loc x off b m (by rw[hmu h1];exact hm)
  | onil h sz hm=>
   simp only[renG,Option.map_eq_some_iff] at hg
   obtain⟨x,h1,rfl⟩:=hg
   exact .onil x sz (by rw[hmu h1];exact hm)
  | osl h sz off n b m cap hm hn hc=>
   simp only[renG,Option.map_eq_some_iff] at hg
   obtain⟨x,h1,rfl⟩:=hg
   exact .osl x sz off n b m cap (by rw[hmu h1];exact hm) hn hc
  | ozero h sz off0 b m hm hpos=>
   simp only[renG,Option.map_eq_some_iff] at hg
   obtain⟨x,h1,rfl⟩:=hg
   exact .ozero x sz off0 b m (by rw[hmu h1];exact hm) hpos
  | agg cells us hl hr ih=>
   simp only[renG,Option.map_eq_some_iff] at hg
   obtain⟨gs',h1,rfl⟩:=hg
   obtain⟨h2,h3⟩:=renG_go h1
   refine .agg gs' us (by omega) fun j g v hg hv=>?_
   obtain⟨g0,h4,h5⟩:=h3 j g hg
   exact ih j g0 v h4 hv h5
  | tup cells us hl hr ih=>
   simp only[renG,Option.map_eq_some_iff] at hg
   obtain⟨gs',h1,rfl⟩:=hg
   obtain⟨h2,h3⟩:=renG_go h1
   refine .tup gs' us (by omega) fun j g v hg hv=>?_
   obtain⟨g0,h4,h5⟩:=h3 j g hg
   exact ih j g0 v h4 hv h5
  | clo f caps us hl hr ih=>
   simp only[renG,Option.map_eq_some_iff] at hg
   obtain⟨gs',h1,rfl⟩:=hg
   obtain⟨h2,h3⟩:=renG_go h1
   refine .clo f gs' us (by omega) fun j g v hg hv=>?_
   obtain⟨g0,h4,h5⟩:=h3 j g hg
   exact ih j g0 v h4 hv h5
  | yld h b m hm=>
   simp only[renG,Option.map_eq_some_iff] at hg
   obtain⟨x,h1,rfl⟩:=hg
   exact .yld x b m (by rw[hmu h1];exact hm)
  | mref h b m hm=>
   simp only[renG,Option.map_eq_some_iff] at hg
   obtain⟨x,h1,rfl⟩:=hg
   exact .mref x b m (by rw[hmu h1];exact hm)
  | kp h i off b m c n hm hk=>
   simp only[renG,Option.map_eq_some_iff] at hg
   obtain⟨x,h1,rfl⟩:=hg
   exact .kp x i off b m c n (by rw[hmu h1];exact hm) hk
  | knil h i sz a cap hb=>
   simp only[renG,Option.map_eq_some_iff] at hg
   obtain⟨x,h1,rfl⟩:=hg
   exact .knil x i sz a cap hb
  | ks h i sz n b m c k cap hm hk hn hc=>
   simp only[renG,Option.map_eq_some_iff] at hg
   obtain⟨x,h1,rfl⟩:=hg
   exact .ks x i sz n b m c k cap (by rw[hmu h1];exact hm) hk hn hc
 have hmineA:∀{j y:Nat}{k' k1 k2:Blk},sget st' j=some k'→bkI st' bk y=some j→renB vw (bkH st' bk) k'=some k1→k2=mineBk (mineAll s.st st' H 0) s.st j y k'.lp k1→
   ∀b m x,μ'' j=some (b,m)→In x b m→k2.mine=true→cx.base≤x:=by
  intro j y k' k1 k2 e1 e2 e3 e4 b m x hm hi hk2
  have hk1:k1.mine=k'.mine:=by
   unfold renB at e3
   cases hpp:k'.pure with
   | true=>
    rw[hpp,cond_true] at e3
    cases hvf:(vw&&!k'.fresh) with
    | true=>rw[hvf] at e3;cases e3
    | false=>rw[hvf] at e3;cases e3;rfl
   | false=>
    rw[hpp,cond_false] at e3
    cases hgo:renG.go vw (bkH st' bk) k'.cells with
    | none=>rw[hgo] at e3;cases e3
    | some cs=>rw[hgo] at e3;cases e3;rfl
  have own:k'.mine=true→cx.base≤x:=fun h=>by
   have:w.heap.size≤x:=(hC.outF j k' b m x e1 hm hi).2.2.2 h
   have:=hst.hb
   omega
  unfold mineBk at e4
  cases hl:isLoop k'.lp with
  | true=>
   rw[hl,cond_true] at e4
   subst e4
   exact own (hk1▸hk2)
  | false=>
  rw[hl,cond_false] at e4
  cases hp:pinned j with
  | true=>
   rw[hp,cond_true] at e4
   subst e4
   simp only[mineOf] at hk2
   have hH:H[j-1000]?=some y:=by
    rcases(bkOk_row hok e2).2.2.2 with ⟨_,e⟩ | ⟨e,_⟩
    ·exact e
    ·rw[hp] at e;cases e
   have hpin:=hC.pin j k' e1 hp
   have hj:1000≤j:=Nat.le_of_ble_eq_true hp
   have hmy:ExtB w.heap.size (μ y) (μ'' j):=by
    have:=muC_at (μ:=μ) hH
    rw[show 1000+(j-1000)=j by omega] at this
    rw[←this]
    exact hpin
   cases hky:sget s.st y with
   | none=>rw[hky] at hk2;cases hk2
   | some k0=>
    rw[hky] at hk2
    rcases hmy.inM hm hi with h | ⟨m0,h1,h2⟩
    ·have:=hst.hb
     omega
    ·exact(hst.outF y k0 b m0 x hky h1 h2).2.2.2 hk2
  | false=>
   rw[hp,cond_false] at e4
   subst e4
   simp only[Bool.or_eq_true] at hk2
   rcases hk2 with hk2 | hA
   ·exact own (hk1▸hk2)
   ·rcases(hC.outF j k' b m x e1 hm hi).2.1 with h5 | h5
    ·have:=hst.hb
     have h6:w.heap.size≤x:=h5
     omega
    ·obtain⟨i,h,k,c,m',q1,q2,q3,q4⟩:=own_lent hls h5
     rcases mineAll_at hA q1 q2 with h7 | h7
     ·exact(hst.outF h k c m' x q2 q3 q4).2.2.2 h7
     ·exfalso
      rw[Nat.zero_add] at h7
      obtain⟨k'',h8⟩:=keysHas_get h7
      obtain⟨m2,h10,h11⟩:=(hC.pin _ k'' h8 (pinned_add i)).ext.inM ((muC_at q1).trans q3) q4
      have:=hC.injF j (1000+i) k' k'' x b m c m2 e1 h8 hm h10 hi h11
      rw[this,pinned_add] at hp
      cases hp
 refine⟨{st:={blk:=?_,injF:=?_,outF:=?_,pin:=?_,xlt:=hst.xlt,hb:=Nat.le_trans hst.hb hsz,os:=hC.os.trans hst.os,tape:=hC.tape.trans hst.tape,output:=hC.output.trans hst.output,gl:=hst.gl,keep:=?_},nd:=?_,sz:=hr.sz,fr:=?_},fun g g' v=>ren,?_,fun y h1 h2=>alive y h2 (.inr (.inl h1))⟩
 ·intro y k2 h1
  rcases row y k2 h1 with ⟨j,k',k1,e1,e2,e3,e4⟩ | ⟨e0,k0,e1,e2,e3⟩
  ·have hmy:muB μ μ'' st' bk y=μ'' j:=by unfold muB;rw[e2]
   rw[hmy]
   have hbj:=hC.blk j k' e1
   have hmine:∀b m x,μ'' j=some (b,m)→In x b m→k2.mine=true→cx.base≤x:=hmineA e1 e2 e3 e4
   have hloop:isLoop k'.lp=true→k2=k1:=by
    intro hl
    rw[e4]
    unfold mineBk
    rw[hl];rfl
   have hfields:k2.ety=k1.ety∧k2.pure=k1.pure∧k2.fresh=k1.fresh∧k2.sz=k1.sz∧k2.cells=k1.cells∧k2.lp=k1.lp:=by
    rw[e4];unfold mineBk;cases isLoop k'.lp <;> cases pinned j <;> exact⟨rfl,rfl,rfl,rfl,rfl,rfl⟩
   obtain⟨f1,f2,f3,f4,f5,f6⟩:=hfields
   clear e4
   unfold renB at e3
   cases hpp:k'.pure with
   | true=>
    rw[hpp,cond_true] at e3
    cases hvf:(vw&&!k'.fresh) with
    | true=>rw[hvf] at e3;cases e3
    | false=>
     rw[hvf] at e3
     cases e3
     cases hm:μ'' j with
     | none=>rw[hm] at hbj;exact hbj.nilAny f5 f6 f2
     | some bm=>
      obtain⟨b,m⟩:=bm
      rw[hm] at hbj
      cases hl:k'.lp with
      | none=>
       obtain⟨cs,h1,h2,h3,h4,h5,h6⟩:=hbj.cells hl
       refine .mk (f6.trans hl) (hbj.nokid hl) ⟨cs,by rw[f1];exact h1,h2,by rw[f5];exact h3,hmine b m b hm (.self _ _),by rw[f4];exact h5,fun j' g hg=>?_⟩
       rw[f5] at hg
       obtain⟨v,hv,hrv⟩:=h6 j' g hg
       refine⟨v,hv,?_⟩
       unfold RepC at hrv⊢
       rw[f2,f3]
       simp only[hpp] at hrv⊢
       exact impo k'.fresh (fun e=>by rw[e] at hvf;simpa using hvf) hrv
      | some kd=>
       cases kd with
       | loop lp=>
        obtain⟨D,vs,_,_,_,h4,_⟩:=(RelBlk.loop hl).1 hbj
        rw[hpp] at h4;cases h4
       | deep d=>
        obtain⟨h1,h2,h3,h4⟩:=(RelBlk.deep hl).1 hbj
        refine(RelBlk.deep (f6.trans hl)).2 ⟨?_,f2.trans hpp,f5.trans h3,hmine b m b hm (.self _ _)⟩
        rw[f3]
        exact d.mono h1 (Kept.refl _ _) (fun x _ hn ho=>hn (impO k'.fresh (fun e=>by rw[e] at hvf;simpa using hvf) ho)) (fun _ _=>rfl)
   | false=>
    rw[hpp,cond_false] at e3
    cases hgo:renG.go vw (bkH st' bk) k'.cells with
    | none=>rw[hgo] at e3;cases e3
    | some cs'=>
     rw[hgo] at e3
     cases e3
     obtain⟨q1,q2⟩:=renG_go hgo
     simp only at f1 f2 f3 f4 f5 f6
     cases hm:μ'' j with
     | none=>
      rw[hm] at hbj
      refine hbj.nilAny (f5.trans ?_) f6 (f2.trans hpp.symm)
      rw[hbj.1]
      exact List.eq_nil_of_length_eq_zero (by rw[q1,hbj.1];rfl)
     | some bm=>
      obtain⟨b,m⟩:=bm
      rw[hm] at hbj
      cases hl:k'.lp with
      | none=>
       obtain⟨cs,h1,h2,h3,h4,h5,h6⟩:=hbj.cells hl
       refine .mk (f6.trans hl) (hbj.nokid hl) ⟨cs,by rw[f1];exact h1,h2,by rw[f5];omega,hmine b m b hm (.self _ _),by rw[f4];exact h5,fun j' g hg=>?_⟩
       rw[f5] at hg
       obtain⟨g0,q3,q4⟩:=q2 j' g hg
       obtain⟨v,hv,hrv⟩:=h6 j' g0 q3
       refine⟨v,hv,?_⟩
       unfold RepC at hrv⊢
       rw[f2]
       simp only[hpp] at hrv⊢
       exact ren hrv q4
      | some kd=>
       cases kd with
       | deep d=>have:=((RelBlk.deep hl).1 hbj).2.1;rw[hpp] at this;cases this
       | loop lp=>
        obtain⟨D,vs,h1,h2,h3,h4,h5⟩:=(RelBlk.loop hl).1 hbj
        have hk2:k2.mine=false:=by rw[hloop (by rw[hl];rfl)];exact h3
        refine(RelBlk.loop (f6.trans hl)).2 ⟨D,vs,h1,h2,hk2,f2,fun j' t g ht hg=>?_⟩
        rw[f5] at hg
        obtain⟨g0,q3,q4⟩:=q2 j' g hg
        obtain⟨v,hv,hrv⟩:=h5 j' t g0 ht q3
        exact⟨v,hv,ren hrv q4⟩
  ·subst e3
   have hmy:muB μ μ'' st' bk y=μ y:=by unfold muB;rw[e0]
   rw[hmy]
   refine((hst.blk y k0 e2).mono (fun b m hm z hz=>hkeep z (own_lt hst ⟨y,k0,b,m,e2,hm,hz⟩) fun ho=>?_) hkept hOO).dead _ fun hp g hg x hx hh=>alive x hx (.inr (.inr (notst x y k0 g e2 hp hg hh)))
   obtain⟨i,h,k,c',m',q1,q2,q3,q4⟩:=own_lent hls ho
   exact not_both hst q1 q2 q3 q4 e1 e2 hm hz
 ·intro y y' k2 k2' x b m b' m' h1 h2 h3 h4 hi hi'
  rcases whr y k2 b m h1 h3 with ⟨j,k',e1,e2,e3⟩ | ⟨e0,e1,k0,e2,e3⟩ <;> rcases whr y' k2' b' m' h2 h4 with ⟨j',k'',e1',e2',e3'⟩ | ⟨e0',e1',k0',e2',e3'⟩
  ·have:=hC.injF j j' k' k'' x b m b' m' e2 e2' e3 e3' hi hi'
   subst this
   have:=(bkOk_row hok e1).2.2.1.symm.trans (bkOk_row hok e1').2.2.1
   exact Option.some.inj this
  ·exfalso
   have hlt:=own_lt hst ⟨y',k0',b',m',e2',e3',hi'⟩
   rcases(hC.outF j k' b m x e2 e3 hi).2.1 with h5 | h5
   ·exact absurd hlt (Nat.not_lt.2 h5)
   ·obtain⟨i,h,k,c2,m2,q1,q2,q3,q4⟩:=own_lent hls h5
    exact not_both hst q1 q2 q3 q4 e1' e2' e3' hi'
  ·exfalso
   have hlt:=own_lt hst ⟨y,k0,b,m,e2,e3,hi⟩
   rcases(hC.outF j' k'' b' m' x e2' e3' hi').2.1 with h5 | h5
   ·exact absurd hlt (Nat.not_lt.2 h5)
   ·obtain⟨i,h,k,c2,m2,q1,q2,q3,q4⟩:=own_lent hls h5
    exact not_both hst q1 q2 q3 q4 e1 e2 e3 hi
  ·exact hst.injF y y' k0 k0' x b m b' m' e2 e2' e3 e3' hi hi'
 ·intro y k2 b m x h1 h3 hi
  rcases row y k2 h1 with ⟨j,k',k1,e2,e1,er,e4⟩ | ⟨e0,k0,e1,e2,er⟩
  ·have e3:μ'' j=some (b,m):=by unfold muB at h3;rw[e1] at h3;exact h3
   obtain⟨h5,h6,h7,_⟩:=hC.outF j k' b m x e2 e3 hi
   refine⟨fun hx=>h5 (.inl hx),?_,h7,hmineA e2 e1 er e4 b m x e3 hi⟩
   rcases h6 with h6 | h6
   ·exact .inl (Nat.le_trans hst.hb h6)
   ·obtain⟨i,h,k,c2,m2,q1,q2,q3,q4⟩:=own_lent hls h6
    exact(hst.outF h k c2 m2 x q2 q3 q4).2.1
  ·have e3:μ y=some (b,m):=by unfold muB at h3;rw[e0] at h3;exact h3
   obtain⟨h5,h6,h7,h8⟩:=hst.outF y k0 b m x e2 e3 hi
   exact⟨h5,h6,Nat.lt_of_lt_of_le h7 hsz,fun hm=>h8 (by subst er;unfold deadB at hm;cases hp:k0.pure <;> simp only[hp] at hm <;> exact hm)⟩
 ·intro y k2 h1 hp
  rcases row y k2 h1 with ⟨j,k',k1,e1,e2,e3,e4⟩ | ⟨e0,k0,e1,e2,e3⟩
  ·rcases(bkOk_row hok e2).2.2.2 with ⟨e5,e6⟩ | ⟨_,e5,_⟩
   ·have hj:1000≤j:=Nat.le_of_ble_eq_true e5
    have h6:muB μ μ'' st' bk y=μ'' j:=by unfold muB;rw[e2]
    rw[h6]
    have h7:=muC_at (μ:=μ) e6
    rw[show 1000+(j-1000)=j by omega] at h7
    obtain⟨_,k0,hk0⟩:=lendSt_dom hls e6
    have h8:=hC.pin j k' e1 e5
    refine(hst.pin y k0 hk0 hp).trans (?_:ExtB w.heap.size (μ y) (μ'' j)) hst.hb
    rw[←h7]
    exact h8
   ·rw[not_pinned e5] at hp;cases hp
  ·have h6:muB μ μ'' st' bk y=μ y:=by unfold muB;rw[e0]
   rw[h6]
   exact hst.pin y k0 e2 hp
 ·intro b hb hA
  rw[hkeep b (by have:=hst.hb;omega) fun ho=>?_]
  ·exact hst.keep b hb hA
  ·obtain⟨i,h,k,c,m,q1,q2,q3,q4⟩:=own_lent hls ho
   rcases(hst.outF h k c m b q2 q3 q4).2.1 with h4 | h4
   ·omega
   ·exact hA h4
 ·refine(hr.nd.mono hkept hOO).remapE fun g hg y hy=>?_
  have hd:=List.all_eq_true.1 hdf g hg
  simp only[Bool.not_eq_true'] at hd
  refine alive y (fun hm=>by rw[anyH_false hd y hm] at hy;cases hy) (.inr (.inr ?_))
  cases hf:fresh s y with
  | false=>rfl
  | true=>rw[dfNo_mem (fresh_spec hf).2.2.2.1 hg] at hy;cases hy
 ·intro t g hg
  obtain⟨g0,h1,rfl⟩:=get_deadFr hg
  obtain⟨v,hv,hrv⟩:=hr.fr t g0 h1
  exact⟨v,hv,deadG_spec (hrv.mono hkept hOO (Nat.le_refl _)) fun y hy hh=>alive y hy (.inr (.inr (notfr y t g0 h1 hh)))⟩
 ·intro W hW
  refine⟨hsz,fun b hb hn=>hkeep b hb fun ho=>?_,fun y k2 c m b hy h1 h2 hi=>?_⟩
  ·obtain⟨i,h,k,c,m,q1,q2,q3,q4⟩:=own_lent hls ho
   exact hn h k c m (hW h (mem_of_idx q1)) q2 q3 q4
  ·rcases whr y k2 c m h1 h2 with ⟨j,k',e1,e2,e3⟩ | ⟨e0,e1,k0,e2,e3⟩
   ·rcases(hC.outF j k' c m b e2 e3 hi).2.1 with h6 | h6
    ·exact .inr h6
    ·obtain⟨i,h,k,c2,m2,q1,q2,q3,q4⟩:=own_lent hls h6
     exact .inl ⟨h,k,c2,m2,hW h (mem_of_idx q1),q2,q3,q4⟩
   ·exact .inl ⟨y,k0,c,m,hy,e2,e3,hi⟩
end
end Go.AM
/-
 AM,part BB:the steps:calls to which blocks are lent;handles under other numbers.
-/
namespace Go.AM
def ndB:List Nat→Bool
 | []=>true
 | h::r=>!(r.contains h)&&ndB r
theorem ndB_spec:∀{H:List Nat},ndB H=true→H.Nodup
 | [],_=>List.nodup_nil
 | h::r,e=>by
  simp only[ndB,Bool.and_eq_true,Bool.not_eq_true'] at e
  refine List.nodup_cons.2 ⟨fun hm=>?_,ndB_spec e.2⟩
  have:=e.1
  simp at this
  exact this hm
section
variable {P:Program}{N:Nat}{cx:Cx}{s:St}
variable {ty:TypeId}{pos:String}{after:Array Edge}{guard:Option (Nat×Bool)}{W:List Nat}{d:Nat}
theorem Step.sub {st st' st2:List (Nat×Blk)}{μ μ':Mu}{w w':World}(h:Step W st μ st' μ' w w') (hs:SubSt st' st2):Step W st μ st2 μ' w w':=
 ⟨h.size,h.block,fun x k c m b h1 h2 h3 hi=>h.hand x k c m b h1 (hs.get h2) h3 hi⟩
theorem lend_core {f:FuncId}{vs:List Value}{gs gs':List G}{stC:List (Nat×Blk)}{Q:G→List (Nat×Blk)→Prop}{Qp:List PanicEntry→List (Nat×Blk)→Prop}{H:List Nat}{vw:Bool}{μ:Mu}{a:Act}{w:World}(hr:Rel N cx μ s a w)
  (hv:lendG.go H (lendV s.st H vw) gs=some gs') (hl:lendSt H (lendV s.st H vw) s.st H 0=some stC) (hnd:ndB H=true) (hvs:vs.length=gs.length)
  (hrep:∀(j:Nat) (g:G) (v:Value),gs[j]?=some g→vs[j]?=some v→RepV (cx.O s.st μ) cx.base w μ g v) (hcon:GP P f gs' stC Q Qp):
  Calls P f vs.toArray w (Came (lendX cx s.st μ H vw) stC (muC H μ) w Q Qp):=by
 obtain⟨h1,h2⟩:=lendG_go hv
 have hrel:=lend_rel hr.st hl (ndB_spec hnd)
 refine hcon (lendX cx s.st μ H vw) (muC H μ) w vs hrel.xlt hrel (by omega) fun j g v hg hv=>?_
 obtain⟨g0,h3,h4⟩:=h2 j g hg
 exact lendG_spec hr.st hl (hrep j g0 v h3 hv) h4
def allIn (H W:List Nat):Bool:=H.all W.contains
theorem allIn_spec {H W:List Nat}(h:allIn H W=true):∀x∈H,x∈W:=fun x hx=>by
 have:=List.all_eq_true.1 h x hx
 simpa using this
theorem EF.lendV {f:FuncId}{x:Operand}{xs:Array Operand}{ts:Array TypeId}{gs caps gs':List G}{stC:List (Nat×Blk)}{Q:G→List (Nat×Blk)→Prop}{s1:St}(H:List Nat) (vw:Bool) (bk:List Nat) (hb:cloOk f xs.toList=true) (hc:∀args w,(callFunc f args).run P w=.ok (.enter f args) w)
  (hf:ev s x=some (.clo f caps)) (hx:evA s xs.toList=some gs) (hv:lendG.go H (lendV s.st H vw) (gs++caps)=some gs') (hl:lendSt H (lendV s.st H vw) s.st H 0=some stC) (hnd:ndB H=true) (hcon:GM P f gs' stC Q)
  (hres:∀r st',Q r st'→∃s2 r',backS vw s H st' bk=some s2∧renG vw (bkH st' bk) r=some r'∧Sub (s2.put d r') s1) (hW:allIn H W=true):
  Effect P W s ⟨some d,.call ⟨.value x,xs,ts⟩,ty,pos,after,guard⟩ (·=s1):=by
 refine⟨(fun _ h=>by cases h),?_⟩
 intro N cx μ a w hr hN K Q' hK
 obtain⟨h1,h2⟩:=evA_get hx
 have hcl:=hr.ev hf
 generalize hav:a.eval x=vf at hcl
 cases hcl with
 | imm h=>cases h
 | clo _ _ us hlu hrc=>
  have hcall:=lend_core (vs:=xs.toList.map a.eval++us) hr hv hl hnd (by simp[h1,hlu]) (fun j g v hg hv=>by
   rw[List.getElem?_append] at hg hv
   rw[List.length_map,←h1] at hv
   split at hg
   ·rename_i hj
    rw[if_pos hj] at hv
    obtain⟨x,hxj,he⟩:=h2 j g hg
    rw[List.getElem?_map,hxj] at hv
    cases hv
    exact hr.ev he
   ·rename_i hj
    rw[if_neg hj] at hv
    exact hrc _ g v hg hv) hcon
  unfold Oper.wp
  have:=run_callV (P:=P) (w:=w) (d:=d) (ty:=ty) (pos:=pos) (after:=after) (guard:=guard) (ts:=ts) hb hc hav
  rw[this]
  refine hcall.mono ?_
  rintro e w' (⟨v,r,st',μ',rfl,hq,hC,hrv⟩ | ⟨_,_,_,_,h,_⟩)
  ·obtain⟨s2,r',hb,hren,hsub⟩:=hres r st' hq
   obtain⟨q1,q2,q3,_⟩:=back_rel hr hl (ndB_spec hnd) hC hb
   exact hK _ _ _ w' ((q1.put (hN d rfl) (q2 r r' v hrv hren)).sub hsub) rfl ((q3 W (allIn_spec hW)).sub hsub.2.1)
  ·exact h.elim
end
end Go.AM
/-
 AM,part BC:a handle under another number (a block that was handed in and may move from now on).
-/
namespace Go.AM
def mv (h h' x:Nat):Nat:=bif Nat.beq x h then h' else x
theorem mv_same (h h':Nat):mv h h' h=h':=by simp[mv,Nat.beq_refl]
theorem mv_other {h h' x:Nat}(e:x≠h):mv h h' x=x:=by
 unfold mv
 cases hb:Nat.beq x h with
 | false=>rfl
 | true=>exact absurd (Nat.eq_of_beq_eq_true hb) e
def mvG (h h':Nat):G→G
 | .loc x off=>.loc (mv h h' x) off
 | .osl x sz off n=>.osl (mv h h' x) sz off n
 | .yld x=>.yld (mv h h' x)
 | .mref x=>.mref (mv h h' x)
 | .kp x i off=>.kp (mv h h' x) i off
 | .ks x i sz n=>.ks (mv h h' x) i sz n
 | .agg gs=>.agg (go gs)
 | .tup gs=>.tup (go gs)
 | .clo f gs=>.clo f (go gs)
 | g=>g
where go:List G→List G
 | []=>[]
 | g::r=>mvG h h' g::go r
theorem mvG_go {h h':Nat}{gs:List G}:(mvG.go h h' gs).length=gs.length∧∀(j:Nat) (g':G),(mvG.go h h' gs)[j]?=some g'→∃g,gs[j]?=some g∧g'=mvG h h' g:=by
 induction gs with
 | nil=>exact⟨rfl,fun j g e=>by simp[mvG.go] at e⟩
 | cons x r ih=>
  refine⟨by simp[mvG.go,ih.1],fun j g' e=>?_⟩
  simp only[mvG.go] at e
  cases j with
  | zero=>cases e;exact⟨x,rfl,rfl⟩
  | succ j=>exact ih.2 j g' e
def mvB (h h':Nat) (k:Blk):Blk:=bif k.pure then k else {k with cells:=mvG.go h h' k.cells}
def mvFr (h h':Nat):List (Nat×G)→List (Nat×G)
 | []=>[]
 | (t,g)::r=>(t,mvG h h' g)::mvFr h h' r
def mvSt (h h':Nat):List (Nat×Blk)→List (Nat×Blk)
 | []=>[]
 | (x,k)::r=>(mv h h' x,mvB h h' k)::mvSt h h' r
theorem get_mvFr {h h':Nat}{fr:List (Nat×G)}{t:Nat}{g:G}(hg:get (mvFr h h' fr) t=some g):∃g0,get fr t=some g0∧g=mvG h h' g0:=by
 induction fr with
 | nil=>cases hg
 | cons x r ih=>
  obtain⟨k,g'⟩:=x
  simp only[mvFr,get_cons] at hg⊢
  cases hb:Nat.beq k t with
  | true=>rw[hb] at hg;cases hg;exact⟨g',rfl,rfl⟩
  | false=>rw[hb] at hg;exact ih hg
theorem sget_mvSt {h h':Nat}(hne:h'≠h){st:List (Nat×Blk)}{y:Nat}{k2:Blk}(hn:sget st h'=none) (hg:sget (mvSt h h' st) y=some k2):
  (y=h'∧∃k,sget st h=some k∧k2=mvB h h' k)∨(y≠h'∧y≠h∧∃k,sget st y=some k∧k2=mvB h h' k):=by
 induction st with
 | nil=>cases hg
 | cons x r ih=>
  obtain⟨z,k⟩:=x
  have hz:z≠h':=fun e=>by subst e;rw[sget_cons_same] at hn;cases hn
  rw[sget_cons_other _ _ (Ne.symm hz)] at hn
  simp only[mvSt,sget_cons] at hg
  cases hb:Nat.beq (mv h h' z) y with
  | true=>
   rw[hb] at hg
   cases hg
   have hb:=Nat.eq_of_beq_eq_true hb
   by_cases e:z=h
   ·subst e
    rw[mv_same] at hb
    exact .inl ⟨hb.symm,k,sget_cons_same _ _ _,rfl⟩
   ·rw[mv_other e] at hb
    subst hb
    exact .inr ⟨hz,e,k,sget_cons_same _ _ _,rfl⟩
  | false=>
   rw[hb] at hg
   have hbz:mv h h' z≠y:=fun e=>by rw[e,Nat.beq_refl] at hb;cases hb
   rcases ih hn hg with ⟨e,k',h1,h2⟩ | ⟨e1,e2,k',h1,h2⟩
   ·refine .inl ⟨e,k',?_,h2⟩
    rw[sget_cons_other _ _ (fun e'=>by subst e';rw[mv_same] at hbz;exact hbz e.symm)]
    exact h1
   ·refine .inr ⟨e1,e2,k',?_,h2⟩
    rw[sget_cons_other _ _ (fun e'=>by subst e';rw[mv_other e2] at hbz;exact hbz rfl)]
    exact h1
theorem mvG_spec {O:Nat→Prop}{base:Nat}{w:World}{μ μ':Mu}{h h':Nat}{g:G}{v:Value}(hv:RepV O base w μ g v) (h1:μ' h'=μ h) (h2:∀y,y≠h→g.hasH y=true→μ' y=μ y):RepV O base w μ' (mvG h h' g) v:=by
 have key:∀{y:Nat}{x:Option (Nat×Mm)},μ y=x→(y≠h→μ' y=μ y)→μ' (mv h h' y)=x:=by
  intro y x hm hy
  by_cases e:y=h
  ·subst e;rw[mv_same,h1];exact hm
  ·rw[mv_other e,hy e];exact hm
 have imm:∀{g:G}{v:Value},RepI O w g v→RepV O base w μ' (mvG h h' g) v:=by
  intro g v hi
  induction hi with
  | any v=>exact .imm (.any v)
  | val v=>exact .imm (.val v)
  | ifc b v h=>exact .imm (.ifc b v h)
  | nil=>exact .imm .nil
  | emp a c=>exact .imm (.emp a c)
  | sl n cells b off cap us h1 h2 h3 h4 h5 ih=>exact .imm (.sl n cells b off cap us h1 h2 h3 h4 h5)
  | ptr cells b off us h1 h2 h3 h4 ih=>exact .imm (.ptr cells b off us h1 h2 h3 h4)
  | agg cells us hl hr ih=>
   refine .agg _ us (by rw[mvG_go.1];exact hl) fun j g v hg hv=>?_
   obtain⟨g0,e1,rfl⟩:=mvG_go.2 j g hg
   exact ih j g0 v e1 hv
 induction hv with
 | imm h=>exact imm h
 | fr h=>exact .fr h
 | loc x off b m hm=>exact .loc _ off b m (key hm fun e=>h2 x e (by simp[G.hasH,Nat.beq_refl]))
 | onil x sz hm=>exact .onil _ sz (key hm fun e=>h2 x e (by simp[G.hasH,Nat.beq_refl]))
 | osl x sz off n b m cap hm hn hc=>exact .osl _ sz off n b m cap (key hm fun e=>h2 x e (by simp[G.hasH,Nat.beq_refl])) hn hc
 | ozero x sz off0 b m hm hp=>exact .ozero _ sz off0 b m (key hm fun e=>h2 x e (by simp[G.hasH,Nat.beq_refl])) hp
 | yld x b m hm=>exact .yld _ b m (key hm fun e=>h2 x e (by simp[G.hasH,Nat.beq_refl]))
 | mref x b m hm=>exact .mref _ b m (key hm fun e=>h2 x e (by simp[G.hasH,Nat.beq_refl]))
 | kp x i off b m c n hm hk=>exact .kp _ i off b m c n (key hm fun e=>h2 x e (by simp[G.hasH,Nat.beq_refl])) hk
 | knil x i sz a cap hb=>exact .knil _ i sz a cap hb
 | ks x i sz n b m c k cap hm hk hn hc=>exact .ks _ i sz n b m c k cap (key hm fun e=>h2 x e (by simp[G.hasH,Nat.beq_refl])) hk hn hc
 | agg cells us hl hr ih=>
  refine .agg _ us (by rw[mvG_go.1];exact hl) fun j g v hg hv=>?_
  obtain⟨g0,e1,rfl⟩:=mvG_go.2 j g hg
  exact ih j g0 v e1 hv fun y hy hh=>h2 y hy (by simp only[G.hasH];exact G.hasH_go (List.mem_of_getElem? e1) hh)
 | tup cells us hl hr ih=>
  refine .tup _ us (by rw[mvG_go.1];exact hl) fun j g v hg hv=>?_
  obtain⟨g0,e1,rfl⟩:=mvG_go.2 j g hg
  exact ih j g0 v e1 hv fun y hy hh=>h2 y hy (by simp only[G.hasH];exact G.hasH_go (List.mem_of_getElem? e1) hh)
 | clo f cells us hl hr ih=>
  refine .clo f _ us (by rw[mvG_go.1];exact hl) fun j g v hg hv=>?_
  obtain⟨g0,e1,rfl⟩:=mvG_go.2 j g hg
  exact ih j g0 v e1 hv fun y hy hh=>h2 y hy (by simp only[G.hasH];exact G.hasH_go (List.mem_of_getElem? e1) hh)
theorem RelBlk.move {O:Nat→Prop}{base:Nat}{w:World}{μ μ':Mu}{k:Blk}{x:Option (Nat×Mm)}{h h':Nat}(hb:RelBlk O base w μ k x) (h1:μ' h'=μ h) (h2:k.pure=false→∀g∈k.cells,∀y,y≠h→g.hasH y=true→μ' y=μ y):RelBlk O base w μ' (mvB h h' k) x:=by
 unfold mvB
 cases hp:k.pure with
 | true=>exact hb.remap fun hp'=>by rw[hp] at hp';cases hp'
 | false=>
  have h2:=h2 hp
  simp only[cond_false]
  cases x with
  | none=>
   obtain⟨e1,e2⟩:=hb
   refine⟨List.eq_nil_of_length_eq_zero (by simp only;rw[mvG_go.1,e1];rfl),?_⟩
   dsimp only
   split at e2
   ·trivial
   ·exact e2.elim
   ·rw[hp] at e2;cases e2.2
  | some bm=>
   obtain⟨b,m⟩:=bm
   cases hl:k.lp with
   | none=>
    obtain⟨cs1,h4,h5,h6,h7,h8,h9⟩:=hb.cells hl
    refine .mk rfl (hb.nokid hl) ⟨cs1,h4,h5,by simp only;rw[mvG_go.1];exact h6,h7,h8,fun j g hg=>?_⟩
    obtain⟨g0,e1,rfl⟩:=mvG_go.2 j g hg
    obtain⟨v,hv,hrv⟩:=h9 j g0 e1
    refine⟨v,hv,?_⟩
    unfold RepC at hrv⊢
    rw[hp] at hrv
    simp only
    exact mvG_spec hrv h1 (h2 g0 (List.mem_of_getElem? e1))
   | some kd=>
    cases kd with
    | deep d=>have:=((RelBlk.deep hl).1 hb).2.1;rw[hp] at this;cases this
    | loop lp=>
     obtain⟨D,vs,q1,q2,q3,q4,q5⟩:=(RelBlk.loop hl).1 hb
     refine(RelBlk.loop rfl).2 ⟨D,vs,q1,q2,q3,rfl,fun j t g ht hg=>?_⟩
     obtain⟨g0,e1,rfl⟩:=mvG_go.2 j g hg
     obtain⟨v,hv,hrv⟩:=q5 j t g0 ht e1
     exact⟨v,hv,mvG_spec hrv h1 (h2 g0 (List.mem_of_getElem? e1))⟩
theorem mvB_mine (h h':Nat) (k:Blk):(mvB h h' k).mine=k.mine:=by unfold mvB;cases k.pure <;> rfl
section
variable {P:Program}{N:Nat}{cx:Cx}{s:St}{Q:Exit→St→Prop}
theorem Rel.move {μ : Mu} {a : Act} {w : World} (hr : Rel N cx μ s a w) (h h' : Nat) (hf : fresh s h' = true) (hne : Nat.beq h' h = false) :
    Rel N cx (upd μ h' (μ h)) { fr := mvFr h h' s.fr, st := mvSt h h' s.st, df := mvG.go h h' s.df } a w := by
  have hne : h' ≠ h := fun e => by subst e; rw [Nat.beq_refl] at hne; cases hne
  obtain ⟨f1, f2, f3, f4, f5⟩ := fresh_spec hf
  have other : ∀ {y}, y ≠ h' → upd μ h' (μ h) y = μ y := fun e => upd_other e
  have row := fun (y : Nat) (k2 : Blk) (e : sget (mvSt h h' s.st) y = some k2) => sget_mvSt hne f1 e
  have whr : ∀ y k2, sget (mvSt h h' s.st) y = some k2 → ∃ x k, sget s.st x = some k ∧ k2 = mvB h h' k ∧ upd μ h' (μ h) y = μ x ∧ y = mv h h' x := by
    intro y k2 e
    rcases row y k2 e with ⟨rfl, k, e1, e2⟩ | ⟨e0, e1, k, e2, e3⟩
    · exact ⟨h, k, e1, e2, upd_same _ _ _, (mv_same _ _).symm⟩
    · exact ⟨y, k, e2, e3, other e0, (mv_other e1).symm⟩
  have hO : ∀ b, ¬ cx.O s.st μ b → ¬ cx.O (mvSt h h' s.st) (upd μ h' (μ h)) b := by
    rintro b hn (ho | ⟨y, k2, c, m, e1, e2, hi⟩)
    · exact hn (.inl ho)
    · obtain ⟨x, k, q1, _, q3, _⟩ := whr y k2 e1
      rw [q3] at e2
      exact hn (.inr ⟨x, k, c, m, q1, e2, hi⟩)
  refine { st := { blk := ?_, injF := ?_, outF := ?_, pin := ?_, xlt := hr.st.xlt, hb := hr.st.hb, os := hr.st.os, tape := hr.st.tape, output := hr.st.output, gl := hr.st.gl, keep := hr.st.keep }, nd := ?_, sz := hr.sz, fr := ?_ }
  · intro y k2 e
    obtain ⟨x, k, q1, rfl, q3, _⟩ := whr y k2 e
    rw [q3]
    exact ((hr.st.blk x k q1).mono (fun _ _ _ _ _ => rfl) (Kept.refl _ _) fun b _ => hO b).move (upd_same _ _ _) fun hp g hg y _ hh => other fun e => by subst e; rw [stNo_get f3 q1 hp hg] at hh; cases hh
  · intro y y' k2 k2' z b m b' m' e1 e2 e3 e4 hi hi'
    obtain ⟨x, k, q1, _, q3, q4⟩ := whr y k2 e1
    obtain ⟨x', k', q1', _, q3', q4'⟩ := whr y' k2' e2
    rw [q3] at e3
    rw [q3'] at e4
    rw [q4, q4', hr.st.injF x x' k k' z b m b' m' q1 q1' e3 e4 hi hi']
  · intro y k2 b m z e1 e2 hi
    obtain ⟨x, k, q1, rfl, q3, _⟩ := whr y k2 e1
    rw [q3] at e2
    obtain ⟨a1, a2, a3, a4⟩ := hr.st.outF x k b m z q1 e2 hi
    exact ⟨a1, a2, a3, fun hm => a4 (by rw [mvB_mine] at hm; exact hm)⟩
  · intro y k2 e hp
    rcases row y k2 e with ⟨rfl, _⟩ | ⟨e0, e1, k, e2, _⟩
    · rw [not_pinned f5] at hp; cases hp
    · rw [other e0]; exact hr.st.pin y k e2 hp
  · have hnd := hr.nd.mono (Kept.refl _ _) fun b _ => hO b
    clear hO whr row
    generalize s.df = gs at hnd f4
    generalize a.defers = ds at hnd
    induction hnd with
    | nil => exact .nil
    | mark h1 h2 h3 h4 h5 h6 ih => exact .mark h1 h2 h3 h4 h5 (ih f4)
    | clo h1 h2 ih =>
      simp only [dfNo, Bool.and_eq_true, Bool.not_eq_true'] at f4
      exact .clo (mvG_spec h1 (upd_same _ _ _) fun y _ hh => other fun e => by subst e; rw [f4.1] at hh; cases hh) (ih f4.2)
  · intro t g hg
    obtain ⟨g0, e1, rfl⟩ := get_mvFr hg
    obtain ⟨v, hv, hrv⟩ := hr.fr t g0 e1
    exact ⟨v, hv, mvG_spec (hrv.mono (Kept.refl _ _) (fun b _ => hO b) (Nat.le_refl _)) (upd_same _ _ _) fun y _ hh => other fun e => by subst e; rw [frNo_get f2 e1] at hh; cases hh⟩
theorem GW.move {c : Code} (h h' : Nat) (hf : fresh s h' = true) (hne : Nat.beq h' h = false) (k : GW P N cx c Q { fr := mvFr h h' s.fr, st := mvSt h h' s.st, df := mvG.go h h' s.df }) : GW P N cx c Q s := fun _ a w hr => k _ a w (hr.move h h' hf hne)
theorem GL.move {ops : Array Oper} {rest : List Oper} (h h' : Nat) (hf : fresh s h' = true) (hne : Nat.beq h' h = false) (k : GL P N cx ops Q rest { fr := mvFr h h' s.fr, st := mvSt h h' s.st, df := mvG.go h h' s.df }) : GL P N cx ops Q rest s := fun _ a w hr => k _ a w (hr.move h h' hf hne)
end
end Go.AM
/-
 AM,part BD:loops over functions:their rounds,the calls of yield,the loop itself.
-/
namespace Go.AM
theorem RelSt.ro {cx:Cx}{μ:Mu}{st:List (Nat×Blk)}{w:World}(h:RelSt cx μ st w) (r:Option Nat):RelSt {cx with ro:=r} μ st w:=
 {blk:=h.blk,injF:=h.injF,outF:=h.outF,pin:=h.pin,xlt:=h.xlt,hb:=h.hb,os:=h.os,tape:=h.tape,output:=h.output,gl:=h.gl,keep:=h.keep}
def zipG:List Nat→List G→List (Nat×G)
 | t::ts,g::gs=>(t,g)::zipG ts gs
 | _,_=>[]
theorem get_zipG:∀{ts:List Nat}{gs:List G}{t:Nat}{g:G},get (zipG ts gs) t=some g→∃j:Nat,ts[j]?=some t∧gs[j]?=some g
 | [],_,_,_,h=>by cases h
 | _::_,[],_,_,h=>by cases h
 | x::ts,y::gs,t,g,h=>by
  simp only[zipG,get_cons] at h
  cases hb:Nat.beq x t with
  | true=>rw[hb] at h;cases h;have:=Nat.eq_of_beq_eq_true hb;subst this;exact⟨0,rfl,rfl⟩
  | false=>
   rw[hb] at h
   obtain⟨j,h1,h2⟩:=get_zipG h
   exact⟨j+1,h1,h2⟩
theorem get_append {a b:List (Nat×G)}{t:Nat}:get (a++b) t=(get a t).or (get b t):=by
 induction a with
 | nil=>rfl
 | cons x r ih=>
  obtain⟨y,k⟩:=x
  simp only[List.cons_append,get]
  cases Nat.beq y t with
  | true=>rfl
  | false=>exact ih
def RoundQ (Q:Option Code→List (Nat×Blk)→Prop):Exit→St→Prop:=fun e s=>s.df=[]∧∃st',SubSt s.st st'∧match e with
 | .normal=>Q none st'
 | .ret=>Q (some .ret) st'
 | .exit id=>Q (some (.exit id)) st'
 | _=>False
def GY (P : Program) (lp : Lp) (cells args : List G) (st : List (Nat × Blk)) (Q : Option Code → List (Nat × Blk) → Prop) : Prop :=
 ∀ cx, GW P lp.N cx lp.assign (fun e s => e = .normal ∧ ∀ cx', GW P lp.N cx' lp.body (RoundQ Q) s) { fr := zipG lp.ps.toList args ++ zipG lp.slots cells, st := st, df := [] }
theorem GY.of {P : Program} {lp : Lp} {cells args : List G} {st : List (Nat × Blk)} {Q : Option Code → List (Nat × Blk) → Prop} {asg body : Code} (ha : lp.assign = asg) (hb : lp.body = body)
  (h : ∀ cx, GW P lp.N cx asg (fun e s => e = .normal ∧ ∀ cx', GW P lp.N cx' body (RoundQ Q) s) { fr := zipG lp.ps.toList args ++ zipG lp.slots cells, st := st, df := [] }) : GY P lp cells args st Q := by
 unfold GY; rw [ha, hb]; exact h
section
variable {P:Program}{N:Nat}{cx:Cx}{s:St}
theorem foldl_set (ps:List Nat) (vs:List Value) (tm:Array Value) (t:Nat):((ps.zip vs).foldl (fun (tm:Array Value) (x:Nat×Value)=>tm.setIfInBounds x.1 x.2) tm).size=tm.size∧
  (t∉ps→((ps.zip vs).foldl (fun (tm:Array Value) (x:Nat×Value)=>tm.setIfInBounds x.1 x.2) tm)[t]?=tm[t]?):=by
 induction ps generalizing vs tm with
 | nil=>exact⟨rfl,fun _=>rfl⟩
 | cons p r ih=>
  cases vs with
  | nil=>exact⟨rfl,fun _=>rfl⟩
  | cons v vs=>
   simp only[List.zip_cons_cons,List.foldl_cons]
   obtain⟨h1,h2⟩:=ih vs (tm.setIfInBounds p v)
   refine⟨h1.trans (by simp),fun hn=>?_⟩
   rw[List.mem_cons,not_or] at hn
   rw[h2 hn.2,Array.getElem?_setIfInBounds_ne (Ne.symm hn.1)]
theorem foldl_set_get:∀(ps:List Nat) (vs:List Value) (tm:Array Value) (j t:Nat) (v:Value),ps.Nodup→ps[j]?=some t→vs[j]?=some v→t<tm.size→
  ((ps.zip vs).foldl (fun (tm:Array Value) (x:Nat×Value)=>tm.setIfInBounds x.1 x.2) tm)[t]?=some v
 | [],_,_,_,_,_,_,h,_,_=>by cases h
 | _::_,[],_,_,_,_,_,_,h,_=>by cases h
 | p::r,u::vs,tm,j,t,v,hn,h1,h2,hl=>by
  simp only[List.zip_cons_cons,List.foldl_cons]
  cases j with
  | zero=>
   cases h1;cases h2
   rw[(foldl_set r vs _ _).2 (List.nodup_cons.1 hn).1,Array.getElem?_setIfInBounds_self_of_lt hl]
  | succ j=>exact foldl_set_get r vs _ j t v (List.nodup_cons.1 hn).2 h1 h2 (by simpa using hl)
theorem Rel.loopAt {μ:Mu}{a:Act}{w:World}(hr:Rel N cx μ s a w){h:Nat}{k:Blk}{lp:Lp}(hk:sget s.st h=some k) (hlp:k.lp=some (.loop lp)):
  ∃l m,μ h=some (l,m)∧RelLp (cx.O s.st μ) cx.base w μ k lp l:=by
 have hb:=hr.st.blk h k hk
 cases hm:μ h with
 | none=>rw[hm] at hb;have:=hb.2;rw[hlp] at this;exact this.elim
 | some bm=>
  obtain⟨l,m⟩:=bm
  rw[hm] at hb
  exact⟨l,m,rfl,(RelBlk.loop hlp).1 hb⟩
theorem RelLp.shut {O Z:Nat→Prop}{base:Nat}{w w':World}{μ:Mu}{k k':Blk}{lp lp':Lp}{l:Nat}(hr:RelLp O base w μ k lp l) (h:Shut Z w w') (hl:∀(D:Nat×FuncId) vs,w.heap[l]?=some (.loop {state:=if lp.pend.isNone then .ready else .done,pending:=lp.pend,fn:=D.2,tmps:=vs,params:=lp.ps,assign:=lp.assign,body:=lp.body,defers:=D.1})→
   w'.heap[l]?=some (.loop {state:=if lp'.pend.isNone then .ready else .done,pending:=lp'.pend,fn:=D.2,tmps:=vs,params:=lp'.ps,assign:=lp'.assign,body:=lp'.body,defers:=D.1})) (e1:lp'.N=lp.N) (e2:lp'.slots=lp.slots) (e3:k'.cells=k.cells) (e4:k'.mine=k.mine) (e5:k'.pure=k.pure):RelLp O base w' μ k' lp' l:=by
 obtain⟨D,vs,h1,h2,h3,h4,h5⟩:=hr
 refine⟨D,vs,hl D vs h1,h2.trans e1.symm,e4.trans h3,e5.trans h4,fun j t g ht hg=>?_⟩
 rw[e2] at ht
 rw[e3] at hg
 obtain⟨v,hv,hrv⟩:=h5 j t g ht hg
 exact⟨v,hv,hrv.shut h⟩
theorem Rel.setLoop {μ:Mu}{a:Act}{w:World}(hr:Rel N cx μ s a w){h l:Nat}{m:Mm}{k:Blk}{lp:Lp}(hk:sget s.st h=some k) (hlp:k.lp=some (.loop lp)) (hm:μ h=some (l,m)) (j:Option Code){D:Nat×FuncId}{vs:Array Value}
  (hD:w.heap[l]?=some (.loop {state:=if lp.pend.isNone then .ready else .done,pending:=lp.pend,fn:=D.2,tmps:=vs,params:=lp.ps,assign:=lp.assign,body:=lp.body,defers:=D.1})):
  Rel N cx μ {s with st:=sset s.st h {k with lp:=some (.loop {lp with pend:=j})}} a (w.putObj l (.loop {state:=if j.isNone then .ready else .done,pending:=j,fn:=D.2,tmps:=vs,params:=lp.ps,assign:=lp.assign,body:=lp.body,defers:=D.1})):=by
 have hs:Shut (fun b=>b=l) w (w.putObj l (.loop {state:=if j.isNone then .ready else .done,pending:=j,fn:=D.2,tmps:=vs,params:=lp.ps,assign:=lp.assign,body:=lp.body,defers:=D.1})):=Shut.put _ rfl hD rfl
 have hll:l<w.heap.size:=lt_of_heap hD
 have hOO:∀b,cx.O (sset s.st h {k with lp:=some (.loop {lp with pend:=j})}) μ b↔cx.O s.st μ b:=fun b=>or_congr Iff.rfl (Own.sset hk)
 have hO:∀b,¬cx.O s.st μ b→¬cx.O (sset s.st h {k with lp:=some (.loop {lp with pend:=j})}) μ b:=fun b hn ho=>hn ((hOO b).1 ho)
 have dom:∀x k1,sget (sset s.st h {k with lp:=some (.loop {lp with pend:=j})}) x=some k1→∃k0,sget s.st x=some k0:=fun x k1 h1=>by
  rcases sget_sset_iff hk h1 with ⟨rfl,rfl⟩ | ⟨_,h1⟩
  ·exact⟨k,hk⟩
  ·exact⟨_,h1⟩
 refine {st:={blk:=?_,injF:=?_,outF:=?_,pin:=?_,xlt:=hr.st.xlt,hb:=by rw[hs.size];exact hr.st.hb,os:=hr.st.os,tape:=hr.st.tape,output:=hr.st.output,gl:=hr.st.gl,keep:=?_},nd:=?_,sz:=hr.sz,fr:=?_}
 ·intro x k1 h1
  rcases sget_sset_iff hk h1 with ⟨rfl,rfl⟩ | ⟨hne,h1⟩
  ·rw[hm]
   have hb:=hr.st.blk x k hk
   rw[hm] at hb
   have hb:=(RelBlk.loop hlp).1 hb
   refine(RelBlk.loop rfl).2 ?_
   refine(hb.shut (Z:=fun b=>b=l) (w:=w) (k':=k) (lp':={lp with pend:=j}) hs (fun D' vs' h'=>?_) rfl rfl rfl rfl rfl).imp fun D' hx=>hx.imp fun vs' hx=>⟨hx.1,hx.2.1,hx.2.2.1,hx.2.2.2.1,fun j' t g ht hg=>let ⟨v,hv,hrv⟩:=hx.2.2.2.2 j' t g ht hg;⟨v,hv,hrv.mono (Kept.refl _ _) (fun b _=>hO b) (Nat.le_refl _)⟩⟩
   rw[hD] at h'
   obtain⟨_,_⟩:=D
   obtain⟨_,_⟩:=D'
   cases h'
   rw[World.putObj_heap_same hll]
  ·exact((hr.st.blk x k1 h1).shut hs fun b m' hmx _ y hy hb=>hne (hr.st.injF x h k1 k y b m' l m h1 hk hmx hm hy (.inl hb))).mono (fun _ _ _ _ _=>rfl) (Kept.refl _ _) (fun b _=>hO b)
 ·intro x x' k1 k2 y b m1 b2 m2 h1 h2
  obtain⟨k1',h1'⟩:=dom x k1 h1
  obtain⟨k2',h2'⟩:=dom x' k2 h2
  exact hr.st.injF x x' k1' k2' y b m1 b2 m2 h1' h2'
 ·intro x k1 b m1 y h1 h2 hi
  rw[hs.size]
  rcases sget_sset_iff hk h1 with ⟨rfl,rfl⟩ | ⟨_,h1⟩
  ·exact hr.st.outF x k b m1 y hk h2 hi
  ·exact hr.st.outF x k1 b m1 y h1 h2 hi
 ·intro x k1 h1 h2
  obtain⟨k1',h1'⟩:=dom x k1 h1
  exact hr.st.pin x k1' h1' h2
 ·intro b hb hA
  have hne:b≠l:=fun e=>by
   subst e
   rcases(hr.st.out h k b m hk hm).2 with h1 | h1
   ·omega
   ·exact hA h1
  rw[World.putObj_heap_other hne]
  exact hr.st.keep b hb hA
 ·refine(DfRel.shut hr.nd hs fun d hd D' e hz=>?_).mono (Kept.refl _ _) (fun b _=>hO b)
  subst hz
  have key:∀{ds:List Deferred}{gs:List G},DfRel (cx.O s.st μ) cx.base w μ ds gs→d∈ds→∃x,w.heap[D']?=some (.deferred x):=by
   intro ds gs hdf
   induction hdf with
   | nil=>intro h;cases h
   | mark _ _ _ h4 _ _ ih=>
    intro hd
    rcases List.mem_cons.1 hd with rfl | hd
    ·cases e;exact⟨_,h4⟩
    ·exact ih hd
   | clo _ _ ih=>
    intro hd
    rcases List.mem_cons.1 hd with rfl | hd
    ·cases e
    ·exact ih hd
  obtain⟨x,hx⟩:=key hr.nd hd
  rw[hD] at hx;cases hx
 ·intro t g hg
  obtain⟨v,hv,hrv⟩:=hr.fr t g hg
  exact⟨v,hv,(hrv.shut hs).mono (Kept.refl _ _) (fun b _=>hO b) (Nat.le_refl _)⟩
theorem putObj_twice (w:World) (l:Nat) (o o':Obj):(w.putObj l o).putObj l o'=w.putObj l o':=by
 simp[World.putObj]
variable {ty:TypeId}{pos:String}{after:Array Edge}{guard:Option (Nat×Bool)}{d:Nat}{ops:Array Oper}{rest:List Oper}{R:Exit→St→Prop}
theorem round_core {μ : Mu} {a : Act} {w : World} {vs : List Value} {gs gs' cells' : List G} {stC : List (Nat × Blk)} {Q : Option Code → List (Nat × Blk) → Prop} {h l : Nat} {m : Mm} {k : Blk} {lp : Lp} (hr : Rel N cx μ s a w) (hk : sget s.st h = some k) (hlp : k.lp = some (.loop lp)) (hpend : lp.pend = none) (hm : μ h = some (l, m))
  (H : List Nat) (hh : idxH H h = none) (hv : lendG.go H [] gs = some gs') (hc : lendG.go H [] k.cells = some cells') (hl : lendSt H [] s.st H 0 = some stC) (hnd : ndB H = true) (hps : gs'.length = lp.ps.size) (hpn : ndB lp.ps.toList = true) (hpl : lp.ps.toList.all (Nat.blt · lp.N) = true)
  (hvs : vs.length = gs.length) (hrep : ∀ (j : Nat) (g : G) (v : Value), gs[j]? = some g → vs[j]? = some v → RepV (cx.O s.st μ) cx.base w μ g v) (hcon : GY P lp cells' gs' stC Q)
  {T : Ending → World → Prop} (hT : ∀ j st' μ'' w3, Q j st' → RelSt (cx0 (lendX cx s.st μ H false) stC (muC H μ) w) μ'' st' w3 → ∀ (D : Nat × FuncId) tm, w3.heap[l]? = some (.loop { state := .ready, pending := none, fn := D.2, tmps := tm, params := lp.ps, assign := lp.assign, body := lp.body, defers := D.1 }) →
   T (.returned (.bool j.isNone)) (w3.putObj l (.loop { state := if j.isNone then .ready else .done, pending := j, fn := D.2, tmps := tm, params := lp.ps, assign := lp.assign, body := lp.body, defers := D.1 }))) :
  ∃ (tm0 : Array Value) (D : Nat × FuncId), w.heap[l]? = some (.loop { state := .ready, pending := none, fn := D.2, tmps := tm0, params := lp.ps, assign := lp.assign, body := lp.body, defers := D.1 }) ∧
   RoundIn (FF cx.ro) 0 P l D.2 ((lp.ps.zip vs.toArray).foldl (fun tmps (t, a) => tmps.setIfInBounds t a) tm0) lp.assign lp.body w T := by
 obtain ⟨l', m', hm', D, tm0, q1, q2, q3, q4, q5⟩ := hr.loopAt hk hlp
 rw [hm] at hm'
 cases hm'
 simp only [hpend, Option.isNone_none, if_true] at q1
 refine ⟨tm0, D, q1, ?_⟩
 have hll := lt_of_heap q1
 have hls : lendSt H (lendV s.st H false) s.st H 0 = some stC := hl
 have hrel := lend_rel hr.st hls (ndB_spec hnd)
 have hlX : lendX cx s.st μ H false l := .inr ⟨rfl, ⟨h, k, l, m, outSt_of hh hk, hm, .self _ _⟩⟩
 have hlA : ¬ Own stC (muC H μ) l := fun ho => by
  obtain ⟨i, h', k', c', m', e1, e2, e3, e4⟩ := own_lent hls ho
  exact not_both hr.st e1 e2 e3 e4 hh hk hm (.self _ _)
 generalize htm : (lp.ps.zip vs.toArray).foldl (fun tmps (t, a) => tmps.setIfInBounds t a) tm0 = tm
 have htm' : (lp.ps.toList.zip vs).foldl (fun (tm : Array Value) (x : Nat × Value) => tm.setIfInBounds x.1 x.2) tm0 = tm := by
  rw [← htm, ← Array.foldl_toList, Array.toList_zip]
 obtain ⟨v1, v2⟩ := lendG_go hv
 obtain ⟨c1, c2⟩ := lendG_go hc
 have hstart : Rel lp.N { cx0 (lendX cx s.st μ H false) stC (muC H μ) w with ro := some l } (muC H μ) { fr := zipG lp.ps.toList gs' ++ zipG lp.slots cells', st := stC, df := [] } { tmps := tm, defers := [] } w := by
  refine { st := hrel.ro _, nd := .nil, sz := by rw [← htm']; exact (foldl_set _ _ _ 0).1.trans q2, fr := fun t g hg => ?_ }
  rw [get_append] at hg
  have hslot : ∀ t, t ∈ lp.ps.toList → t < tm0.size := fun t ht => by
   have := List.all_eq_true.1 hpl t ht
   rw [q2]; simpa [Nat.blt_eq] using this
  cases hz : get (zipG lp.ps.toList gs') t with
  | some g1 =>
   rw [hz] at hg
   cases hg
   obtain ⟨j, e1, e2⟩ := get_zipG hz
   obtain ⟨g0, e3, e4⟩ := v2 j _ e2
   have hj : j < vs.length := by have := (List.getElem?_eq_some_iff.1 e3).1; omega
   refine ⟨vs[j], ?_, lendG_spec hr.st hls (hrep j g0 _ e3 (List.getElem?_eq_getElem hj)) e4⟩
   rw [← htm']
   exact foldl_set_get _ _ _ j t _ (ndB_spec hpn) e1 (List.getElem?_eq_getElem hj) (hslot t (List.mem_of_getElem? e1))
  | none =>
   rw [hz, Option.none_or] at hg
   obtain ⟨j, e1, e2⟩ := get_zipG hg
   obtain ⟨g0, e3, e4⟩ := c2 j _ e2
   obtain ⟨v, hv0, hrv⟩ := q5 j t g0 e1 e3
   refine ⟨v, ?_, lendG_spec hr.st hls hrv e4⟩
   have hnot : t ∉ lp.ps.toList := fun ht => by
    obtain ⟨i, hi, rfl⟩ := List.getElem_of_mem ht
    have hlen : i < gs'.length := by rw [hps]; simpa using hi
    have key : ∀ (ts : List Nat) (gs : List G) (i : Nat) (hi : i < ts.length), i < gs.length → get (zipG ts gs) ts[i] ≠ none := by
     intro ts
     induction ts with
     | nil => intro gs i hi; cases hi
     | cons x r ih =>
      intro gs i hi hg
      cases gs with
      | nil => cases hg
      | cons y ys =>
       simp only [zipG, get_cons]
       cases i with
       | zero => simp [Nat.beq_refl]
       | succ i =>
        simp only [List.getElem_cons_succ]
        cases Nat.beq x (r[i]'(by simpa using hi)) with
        | true => simp
        | false => exact ih ys i (by simpa using hi) (by simpa using hg)
    exact key _ _ i hi hlen hz
   rw [← htm', (foldl_set _ _ _ t).2 hnot]
   exact hv0
 refine roundIn_of_wpIn trivial ?_
 have hA := hcon { cx0 (lendX cx s.st μ H false) stC (muC H μ) w with ro := some l } (muC H μ) { tmps := tm, defers := [] } w hstart
 refine wpIn_mono (show lp.assign.wpIn ((FF cx.ro).inRound l) 0 P _ _ _ from hA) fun e a1 w1 hq => ?_
 have hnorm : e = .normal := by
  cases e with
  | normal => rfl
  | outgrown => exact hq.elim
  | panic c => obtain ⟨_, _, _, hq, _⟩ := hq; cases hq
  | _ => obtain ⟨_, _, _, hq, _⟩ := hq; exact hq
 subst hnorm
 obtain ⟨μ1, s1, hr1, _, hB⟩ := hq
 have hw1 : w1.heap[l]? = some (.loop { state := .ready, pending := none, fn := D.2, tmps := tm0, params := lp.ps, assign := lp.assign, body := lp.body, defers := D.1 }) := (hr1.st.keep l hll hlA).trans q1
 refine ⟨_, run_beginRound hw1 rfl, ?_⟩
 generalize hbusy : (({ state := .busy, pending := none, fn := D.2, tmps := tm0, params := lp.ps, assign := lp.assign, body := lp.body, defers := D.1 } : Loop)) = busy
 have hs1 : Shut (fun b => b = l) w1 (w1.putObj l (.loop busy)) := Shut.put _ rfl hw1 rfl
 have hl1 := lt_of_heap hw1
 have hr2 : Rel lp.N { ({ cx0 (lendX cx s.st μ H false) stC (muC H μ) w with ro := some l } : Cx) with w0 := w.putObj l (.loop busy) } μ1 s1 a1 (w1.putObj l (.loop busy)) := by
  have hst2 := hr1.st.shut (w0 := w.putObj l (.loop busy)) hs1 (fun x k1 b m1 h1 h2 _ y hy hz => (hr1.st.outF x k1 b m1 y h1 h2 hy).1 (by rw [hz]; exact hlX)) ⟨rfl, rfl, rfl⟩ fun b hb hnA => by
   by_cases e : b = l
   · subst e; rw [World.putObj_heap_same hl1, World.putObj_heap_same hll]
   · rw [World.putObj_heap_other e, World.putObj_heap_other e]; exact hr1.st.keep b hb hnA
  refine { st := hst2, nd := ?_, sz := hr1.sz, fr := fun t g hg => let ⟨v, hv, hrv⟩ := hr1.fr t g hg; ⟨v, hv, hrv.shut hs1⟩ }
  refine DfRel.shut hr1.nd hs1 fun d hd D' e hz => ?_
  subst hz
  have key : ∀ {ds : List Deferred} {gs : List G} {O : Nat → Prop} {base : Nat}, DfRel O base w1 μ1 ds gs → d ∈ ds → ∃ x, w1.heap[D']? = some (.deferred x) := by
   intro ds gs O base hdf
   induction hdf with
   | nil => intro h; cases h
   | mark _ _ _ h4 _ _ ih =>
    intro hd
    rcases List.mem_cons.1 hd with rfl | hd
    · cases e; exact ⟨_, h4⟩
    · exact ih hd
   | clo _ _ ih =>
    intro hd
    rcases List.mem_cons.1 hd with rfl | hd
    · cases e
    · exact ih hd
  obtain ⟨x, hx⟩ := key hr1.nd hd
  rw [hw1] at hx; cases hx
 refine wpIn_mono (show lp.body.wpIn ((FF cx.ro).inRound l) 0 P _ _ _ from hB _ μ1 a1 _ hr2) fun e a3 w3 hq => ?_
 have fin : ∀ (μ3 : Mu) (s3 : St) (j : Option Code), RelSt { ({ cx0 (lendX cx s.st μ H false) stC (muC H μ) w with ro := some l } : Cx) with w0 := w.putObj l (.loop busy) } μ3 s3.st w3 → (∃ st', SubSt s3.st st' ∧ Q j st') →
   ∃ v w', (Instr.endRound l j).run P w3 = .ok v w' ∧ T (.returned v) w' := by
  rintro μ3 s3 j hr3 ⟨st', hsub, hQ⟩
  have hw3 : w3.heap[l]? = some (.loop busy) := (hr3.keep l hll hlA).trans (World.putObj_heap_same hll)
  have hl3 := lt_of_heap hw3
  refine ⟨_, _, run_endRound j hw3, ?_⟩
  have hr3 := hr3.sub hsub
  have hs3 : Shut (fun b => b = l) w3 (w3.putObj l (.loop { state := .ready, pending := none, fn := D.2, tmps := tm0, params := lp.ps, assign := lp.assign, body := lp.body, defers := D.1 })) := Shut.put _ rfl hw3 rfl
  have hr4 := (hr3.shut (w0 := w) hs3 (fun x k1 b m1 h1 h2 _ y hy hz => (hr3.outF x k1 b m1 y h1 h2 hy).1 (by rw [hz]; exact hlX)) ⟨rfl, rfl, rfl⟩ fun b hb hnA => by
   by_cases e : b = l
   · subst e; rw [World.putObj_heap_same hl3]; exact q1.symm
   · rw [World.putObj_heap_other e, hr3.keep b hb hnA]; exact World.putObj_heap_other e).ro none
  have := hT j st' μ3 _ hQ hr4 D tm0 (World.putObj_heap_same hl3)
  rw [putObj_twice] at this
  rw [← hbusy]
  exact this
 cases e with
 | normal => obtain ⟨μ3, s3, hr3, _, hq⟩ := hq; exact fin μ3 s3 none hr3.st hq
 | ret => obtain ⟨μ3, s3, hr3, _, hq⟩ := hq; exact fin μ3 s3 (some .ret) hr3.st hq
 | exit id => obtain ⟨μ3, s3, hr3, _, hq⟩ := hq; exact fin μ3 s3 (some (.exit id)) hr3.st hq
 | goto t => obtain ⟨_, _, _, _, _, _, hq⟩ := hq; exact hq.elim
 | panic c => obtain ⟨_, _, _, _, _, _, hq⟩ := hq; exact hq.elim
 | outgrown => exact hq.elim
theorem GL.yld {x:Operand}{xs:Array Operand}{ts:Array TypeId}{gs gs' cells':List G}{stC:List (Nat×Blk)}{Q:Option Code→List (Nat×Blk)→Prop}{h:Nat}{k:Blk}{lp:Lp}(H bk:List Nat) (hx:ev s x=some (.yld h)) (hxs:evA s xs.toList=some gs) (hk:sget s.st h=some k) (hlp:k.lp=some (.loop lp))
  (hpend:lp.pend=none) (hh:idxH H h=none) (hv:lendG.go H [] gs=some gs') (hc:lendG.go H [] k.cells=some cells') (hl:lendSt H [] s.st H 0=some stC) (hnd:ndB H=true) (hps:gs'.length=lp.ps.size) (hpn:ndB lp.ps.toList=true) (hpl:lp.ps.toList.all (Nat.blt · lp.N)=true)
  (hcon:GY P lp cells' gs' stC Q) (hw:wants ops s guard=some true) (hN:Nat.blt d N=true)
  (hres:∀j st',Q j st'→∃s2,backS false s H st' bk=some s2∧∃k2,sget s2.st h=some k2∧k2.lp=some (.loop lp)∧∃b,j.isNone=b∧GL P N cx ops R rest (({s2 with st:=sset s2.st h {k2 with lp:=some (.loop {lp with pend:=j})}}:St).put d (.val (.bool b)))):
  GL P N cx ops R (⟨some d,.call ⟨.value x,xs,ts⟩,ty,pos,after,guard⟩::rest) s:=by
 intro μ a w hr
 unfold wpListIn
 rw[if_pos (wants_spec hr hw)]
 refine⟨fun _ _=>trivial,?_⟩
 rw[Oper.semAt_eq _ _ _ (fun _ h=>by cases h)]
 obtain⟨l,m,hm,hlpr⟩:=hr.loopAt hk hlp
 obtain⟨e1,e2⟩:=evA_get hxs
 have hls:lendSt H (lendV s.st H false) s.st H 0=some stC:=hl
 have hxv:a.eval x=.func (.yield l) #[] #[]:=by
  have hv:=hr.ev hx
  generalize a.eval x=v at hv
  cases hv with
  | imm h=>cases h
  | yld _ b m' hm'=>rw[hm] at hm';cases hm';rfl
 obtain⟨tm0,D,q1,hround⟩:=round_core (P:=P) (vs:=xs.toList.map a.eval) hr hk hlp hpend hm H hh hv hc hl hnd hps hpn hpl (by simp[e1]) (fun j g v hg hv=>by
  obtain⟨x,hxj,he⟩:=e2 j g hg
  rw[List.getElem?_map,hxj] at hv
  cases hv
  exact hr.ev he) hcon (T:=fun
   | .returned v,w''=>wpListIn (FF cx.ro) 0 P ops (lift N cx R) rest (a.put (some d) v) w''
   | .panicked chain,w''=>lift N cx R (.panic chain) a w''
   | .outgrown,_=>LetsOut (lift N cx R)) (by
  intro j st' μ'' w3 hQ hC D tm hw3
  obtain⟨s2,hb,k2,hk2,hk2l,b0,hb0,hgl⟩:=hres j st' hQ
  subst hb0
  obtain⟨r1,_,_,_⟩:=back_rel hr hls (ndB_spec hnd) hC hb
  have hm2:muB μ μ'' st' bk h=some (l,m):=by
   unfold muB
   have hbk:bkI st' bk h=none:=by
    unfold backS at hb
    cases hok:bkOk s H st' bk&&s.df.all (fun g=>!(anyH (deads st' H 0) g)) with
    | false=>rw[hok] at hb;cases hb
    | true=>
     simp only[Bool.and_eq_true] at hok
     cases hI:bkI st' bk h with
     | none=>rfl
     | some j'=>
      rcases(bkOk_row hok.1 hI).2.2.2 with ⟨_,e⟩ | ⟨_,_,e | e⟩
      ·exact absurd (mem_of_idx e) (idxH_none hh)
      ·exact absurd e (idxH_none hh)
      ·rw[(fresh_spec e).1] at hk;cases hk
   rw[hbk]
   exact hm
  have r2:=r1.setLoop hk2 hk2l hm2 j (D:=D) (vs:=tm) (by rw[hpend];exact hw3)
  exact hgl _ _ _ (r2.put (by simpa[Nat.blt_eq] using hN) (.imm (.val _))))
 have hrun:(execOp a.eval ⟨some d,.call ⟨.value x,xs,ts⟩,ty,pos,after,guard⟩).run P w=.ok (.round l D.2 ((lp.ps.zip (xs.toList.map a.eval).toArray).foldl (fun tmps (t,a)=>tmps.setIfInBounds t a) tm0) lp.assign lp.body) w:=by
  have e:xs.map a.eval=(xs.toList.map a.eval).toArray:=by rw[←Array.toList_map]
  have hy:=run_yield (P:=P) (args:=(xs.toList.map a.eval).toArray) q1 (by
   have:=(lendG_go hv).1
   simp only[List.size_toArray,List.length_map]
   omega)
  simp[execOp,resolve,invoke,Deferred.ofValue,hxv,e,hy]
 rw[hrun]
 exact⟨(fun h=>by cases h),hround⟩
end
end Go.AM
/-
 AM,part BE:the loop over a function.
-/
namespace Go.AM
section
variable {P:Program}{N:Nat}{cx:Cx}{s:St}
theorem Rel.allocO {μ : Mu} {a : Act} {w : World} (hr : Rel N cx μ s a w) {hd : Nat} (k : Blk) (o : Obj) (m : Nat) (hfr : fresh s hd = true)
    (hblk : ∀ O' μ', (∀ b, b < w.heap.size → ¬ cx.O s.st μ b → ¬ O' b) → (∀ y, y ≠ hd → μ' y = μ y) → RelBlk O' cx.base (w.alloc o) μ' k (some (w.heap.size, m, []))) :
    Rel N cx (upd μ hd (some (w.heap.size, m, []))) { fr := s.fr, st := (hd, k) :: s.st, df := s.df } a (w.alloc o) := by
  obtain ⟨f1, f2, f3, f4, f5⟩ := fresh_spec hfr
  have h := hr.st
  have hO : ∀ b, b < w.heap.size → ¬ cx.O s.st μ b → ¬ cx.O ((hd, k) :: s.st) (upd μ hd (some (w.heap.size, m, []))) b := by
    intro b hb hn ho
    rcases ho with ho | ⟨x, k', c, m', h1, h2, hi⟩
    · exact hn (.inl ho)
    · by_cases e : x = hd
      · subst e; rw [upd_same] at h2; cases h2; rw [In.plain.1 hi] at hb; omega
      · rw [sget_cons_other k _ e] at h1; rw [upd_other e] at h2; exact hn (.inr ⟨x, k', c, m', h1, h2, hi⟩)
  have hlt : ∀ x k' b m' y, sget s.st x = some k' → μ x = some (b, m') → In y b m' → y < w.heap.size := fun x k' b m' y h1 h2 h3 => own_lt h ⟨x, k', b, m', h1, h2, h3⟩
  have hkept := kept_alloc (cx.O s.st μ) w o
  refine { st := { blk := ?_, injF := ?_, outF := ?_, pin := ?_, xlt := h.xlt, hb := ?_, os := h.os, tape := h.tape, output := h.output, gl := h.gl, keep := ?_ }, nd := ?_, sz := hr.sz, fr := ?_ }
  · intro x k' h1
    by_cases e : x = hd
    · subst e
      rw [sget_cons_same] at h1; cases h1
      rw [upd_same]
      exact hblk _ _ hO fun y hy => upd_other hy
    · rw [sget_cons_other k _ e] at h1
      rw [upd_other e]
      refine ((h.blk x k' h1).mono (fun b m hm y hy => Go.RowKit.Below.heap_alloc w _ y (hlt x k' b m y h1 hm hy)) hkept hO).remap fun hp g hg y hy => upd_other ?_
      intro e
      subst e
      rw [stNo_get f3 h1 hp hg] at hy
      cases hy
  · intro x x' k1 k2 y b m1 b2 m2 h1 h2 h3 h4 hi hi'
    by_cases e : x = hd
    · by_cases e' : x' = hd
      · rw [e, e']
      · subst e
        rw [upd_same] at h3; rw [upd_other e'] at h4; rw [sget_cons_other k _ e'] at h2
        cases h3
        have := hlt x' k2 _ m2 y h2 h4 hi'
        rw [In.plain.1 hi] at this
        omega
    · by_cases e' : x' = hd
      · subst e'
        rw [upd_same] at h4; rw [upd_other e] at h3; rw [sget_cons_other k _ e] at h1
        cases h4
        have := hlt x k1 _ m1 y h1 h3 hi
        rw [In.plain.1 hi'] at this
        omega
      · rw [sget_cons_other k _ e] at h1; rw [sget_cons_other k _ e'] at h2; rw [upd_other e] at h3; rw [upd_other e'] at h4
        exact h.injF x x' k1 k2 y b m1 b2 m2 h1 h2 h3 h4 hi hi'
  · intro x k' b m1 y h1 h2 hi
    by_cases e : x = hd
    · subst e
      rw [upd_same] at h2
      cases h2
      rw [In.plain.1 hi]
      refine ⟨fun hx => ?_, .inl h.hb, by simp, fun _ => h.hb⟩
      have := h.xlt _ hx
      have := h.hb
      omega
    · rw [sget_cons_other k _ e] at h1; rw [upd_other e] at h2
      obtain ⟨a1, a2, a3, a4⟩ := h.outF x k' b m1 y h1 h2 hi
      exact ⟨a1, a2, by simp only [World.size_alloc]; omega, a4⟩
  · intro x k1 h1 h2
    by_cases e : x = hd
    · subst e; rw [not_pinned f5] at h2; cases h2
    · rw [sget_cons_other k _ e] at h1; rw [upd_other e]; exact h.pin x k1 h1 h2
  · simp only [World.size_alloc]; have := h.hb; omega
  · intro b hb hA
    rw [Go.RowKit.Below.heap_alloc w _ b (by have := h.hb; omega)]
    exact h.keep b hb hA
  · exact (hr.nd.mono hkept hO).remap (fun g hg y hy => upd_other fun e => by subst e; rw [dfNo_mem f4 hg] at hy; cases hy)
  · intro t g hg
    obtain ⟨v, hv, hrv⟩ := hr.fr t g hg
    refine ⟨v, hv, (hrv.mono hkept hO (Nat.le_refl _)).remap fun y hy => upd_other ?_⟩
    intro e
    subst e
    rw [frNo_get f2 hg] at hy
    cases hy
theorem Rel.marked {μ : Mu} {a : Act} {w : World} (hr : Rel N cx μ s a w) : Rel N cx μ s { a with defers := { target := .collected w.heap.size, args := #[] } :: a.defers } (w.alloc (.deferred (some []))) := by
  have hr1 := hr.kept (w' := w.alloc (.deferred (some []))) (by simp) (fun b hb => Go.RowKit.Below.heap_alloc w _ b hb) rfl rfl rfl
  refine { st := hr1.st, nd := .mark (D := w.heap.size) ?_ hr.st.hb (by simp) (World.alloc_heap_new _ _) ?_ hr1.nd, sz := hr1.sz, fr := hr1.fr }
  · rintro (ho | ho)
    · have := hr.st.xlt _ ho; have := hr.st.hb; omega
    · have := own_lt hr.st ho; omega
  · intro d hd e
    have key : ∀ {ds : List Deferred} {gs : List G} {O : Nat → Prop} {base : Nat}, DfRel O base w μ ds gs → d ∈ ds → ∀ D, d.target = .collected D → D < w.heap.size := by
      intro ds gs O base hdf
      induction hdf with
      | nil => intro h; cases h
      | mark _ _ h3 _ _ _ ih =>
        intro hd D e
        rcases List.mem_cons.1 hd with rfl | hd
        · cases e; exact h3
        · exact ih hd D e
      | clo _ _ ih =>
        intro hd D e
        rcases List.mem_cons.1 hd with rfl | hd
        · cases e
        · exact ih hd D e
    exact absurd (key hr.nd hd _ e) (Nat.lt_irrefl _)
def SubE (s s':St):Prop:=(∀t g,get s'.fr t=some g→get s.fr t=some g)∧(∀t k,sget s'.st t=some k→sget s.st t=some k)∧s.df=s'.df
theorem Rel.subE {N:Nat}{cx:Cx}{μ:Mu}{s s':St}{a:Act}{w:World}(h:Rel N cx μ s a w) (hs:SubE s s'):Rel N cx μ s' a w:=by
 obtain⟨hf,ho,hd⟩:=hs
 have hO:∀b,b<w.heap.size→¬cx.O s.st μ b→¬cx.O s'.st μ b:=fun b _ hn ho'=>hn (ho'.imp id fun ⟨x,k,c,m,h1,h2,hi⟩=>⟨x,k,c,m,ho _ _ h1,h2,hi⟩)
 have hr:=h.st
 refine {st:={blk:=fun x k hk=>(hr.blk x k (ho _ _ hk)).mono (fun _ _ _ _ _=>rfl) (Kept.refl _ _) hO,injF:=fun x x' k k' y b m b' m' h1 h2=>hr.injF x x' k k' y b m b' m' (ho _ _ h1) (ho _ _ h2),outF:=fun x k b m y h1 h2=>hr.outF x k b m y (ho _ _ h1) h2,pin:=fun x k h1 h2=>hr.pin x k (ho _ _ h1) h2,xlt:=hr.xlt,hb:=hr.hb,os:=hr.os,tape:=hr.tape,output:=hr.output,gl:=hr.gl,keep:=hr.keep},nd:=hd▸h.nd.mono (Kept.refl _ _) hO,sz:=h.sz,fr:=?_}
 intro t g hg
 obtain⟨v,hv,hrv⟩:=h.fr t g (hf _ _ hg)
 exact⟨v,hv,hrv.mono (Kept.refl _ _) hO (Nat.le_refl _)⟩
theorem Rel.shutLoop {μ:Mu}{a:Act}{w:World}(hr:Rel N cx μ s a w){h l:Nat}{m:Mm}{k:Blk}{s3:St}{o o':Obj}(hk:sget s.st h=some k) (hm:μ h=some (l,m)) (ho:w.heap[l]?=some o) (hc:isMem o=false) (hd:∀x,o≠.deferred x) (hb:cx.base≤l) (hs:SubE s s3) (hn:sget s3.st h=none):
  Rel N cx μ s3 a (w.putObj l o'):=by
 have h1:=hr.subE hs
 have hs':Shut (fun b=>b=l) w (w.putObj l o'):=Shut.put _ rfl ho hc
 refine {st:=h1.st.shut (w0:=cx.w0) hs' (fun x k1 b m1 q1 q2 _ y hy hz=>?_) ⟨rfl,rfl,rfl⟩ (fun b hb' hA=>?_),nd:=DfRel.shut h1.nd hs' fun d hd' D e hz=>?_,sz:=h1.sz,fr:=fun t g hg=>let ⟨v,hv,hrv⟩:=h1.fr t g hg;⟨v,hv,hrv.shut hs'⟩}
 ·subst hz
  have:=hr.st.injF x h k1 k y b m1 y m (hs.2.1 _ _ q1) hk q2 hm hy (.self _ _)
  subst this
  rw[hn] at q1;cases q1
 ·rw[World.putObj_heap_other (by omega)];exact h1.st.keep b hb' hA
 ·subst hz
  have key:∀{ds:List Deferred}{gs:List G}{O:Nat→Prop}{base:Nat},DfRel O base w μ ds gs→d∈ds→∃x,w.heap[D]?=some (.deferred x):=by
   intro ds gs O base hdf
   induction hdf with
   | nil=>intro h;cases h
   | mark _ _ _ h4 _ _ ih=>
    intro hd
    rcases List.mem_cons.1 hd with rfl | hd
    ·cases e;exact⟨_,h4⟩
    ·exact ih hd
   | clo _ _ ih=>
    intro hd
    rcases List.mem_cons.1 hd with rfl | hd
    ·cases e
    ·exact ih hd
  obtain⟨x,hx⟩:=key h1.nd hd'
  rw[ho] at hx
  exact hd x (Option.some.inj hx)
def loopB (cells:List G) (lp:Lp):Blk:=⟨0,false,false,false,0,cells,some (.loop lp)⟩
def LoopR (R:Exit→St→Prop) (s:St):Option Code→Prop
 | none=>R .normal s
 | some .ret=>R .ret s
 | some (.exit id)=>R (.exit id) s
 | _=>False
def getAll (fr:List (Nat×G)):List Nat→Option (List G)
 | []=>some []
 | t::r=>match get fr t,getAll fr r with
  | some g,some gs=>some (g::gs)
  | _,_=>none
theorem getAll_get {fr:List (Nat×G)}:∀{ts:List Nat}{gs:List G},getAll fr ts=some gs→∀{j:Nat}{g:G},gs[j]?=some g→∃t,ts[j]?=some t∧get fr t=some g
 | [],_,h,j,g,e=>by cases h;simp at e
 | t::r,gs,h,j,g,e=>by
  simp only[getAll] at h
  cases h1:get fr t with
  | none=>rw[h1] at h;cases h
  | some g1=>
   rw[h1] at h
   cases h2:getAll fr r with
   | none=>rw[h2] at h;cases h
   | some r1=>
    rw[h2] at h
    cases h
    cases j with
    | zero=>cases e;exact⟨t,rfl,h1⟩
    | succ j=>exact getAll_get h2 e
theorem RepV.cloInv {O:Nat→Prop}{base:Nat}{w:World}{μ:Mu}{f:FuncId}{caps:List G}{v:Value}(h:RepV O base w μ (.clo f caps) v):
  ∃us:List Value,v=cloV f us∧us.length=caps.length∧∀(j:Nat) (g:G) (v:Value),caps[j]?=some g→us[j]?=some v→RepV O base w μ g v:=by
 cases h with
 | imm h=>cases h
 | clo _ _ us hl hr=>exact⟨us,rfl,hl,hr⟩
theorem GW.rangeFunc {g:Operand}{ps:Array Tmp}{asg body:Code}{f:FuncId}{caps cells gs':List G}{stC:List (Nat×Blk)}{Q:G→List (Nat×Blk)→Prop}{f0:FuncId}{R:Exit→St→Prop}(hb:bnds.contains f=false) (hro:cx.ro=none) (lp:Option Code→Lp) (hd:Nat) (slots:List Nat) (H:List Nat) (vw:Bool) (bk:List Nat)
  (hlp:∀j,lp j=⟨f0,N,slots,ps,asg,body,j⟩) (hg:ev s g=some (.clo f caps)) (hc:∀args w,(callFunc f args).run P w=.ok (.enter f args) w) (hcells:getAll s.fr slots=some cells) (hfr:fresh s hd=true)
  (hl:lendSt H (lendV ((hd,loopB cells (lp none))::s.st) H vw) ((hd,loopB cells (lp none))::s.st) H 0=some stC) (hnd:ndB H=true) (hdH:hd∈H) (hcon:GM P f gs' stC Q)
  (hv:lendG.go H (lendV ((hd,loopB cells (lp none))::s.st) H vw) (.yld hd::caps)=some gs')
  (hres:∀r st',Q r st'→∃s2 s3 j k2,backS vw {fr:=s.fr,st:=(hd,loopB cells (lp none))::s.st,df:=s.df} H st' bk=some s2∧(deads st' H 0).contains hd=false∧sget s2.st hd=some k2∧k2.lp=some (.loop (lp j))∧SubE s2 s3∧sget s3.st hd=none∧LoopR R s3 j):
  GW P N cx (.rangeFunc g ps asg body) R s:=by
 intro μ a w hr
 refine wpIn_rangeFunc ?_
 intro fn _
 have hround:(FF cx.ro).round=none:=hro
 rw[hround]
 obtain⟨us,hav,hlu,_⟩:=(hr.ev hg).cloInv
 have hcv:∀us,cloV f us=.func (.func f) #[] us.toArray:=fun us=>by unfold cloV;rw[hb]
 rw[hcv] at hav
 refine⟨w.heap.size+1,_,(w.alloc (.deferred (some []))).alloc (.loop {state:=.ready,pending:=none,fn:=fn,tmps:=a.tmps,params:=ps,assign:=asg,body:=body,defers:=w.heap.size}),{target:=.fn (.func f) us.toArray,args:=#[.func (.yield (w.heap.size+1)) #[] #[]]},(w.alloc (.deferred (some []))).alloc (.loop {state:=.ready,pending:=none,fn:=fn,tmps:=a.tmps,params:=ps,assign:=asg,body:=body,defers:=w.heap.size}),f,#[.func (.yield (w.heap.size+1)) #[] #[]]++us.toArray,(w.alloc (.deferred (some []))).alloc (.loop {state:=.ready,pending:=none,fn:=fn,tmps:=a.tmps,params:=ps,assign:=asg,body:=body,defers:=w.heap.size}),run_enterLoop_outer _ _ _ _ _,?_,fun _ _=>trivial,?_,fun h=>(by cases h),?_⟩
 ·simp only[resolve,hav]
  simp[go_sem]
 ·simp[invoke,go_sem,hc]
 ·
  generalize hW:(w.alloc (.deferred (some []))).alloc (.loop {state:=.ready,pending:=none,fn:=fn,tmps:=a.tmps,params:=ps,assign:=asg,body:=body,defers:=w.heap.size})=W1
  have hr1:=hr.marked
  have hsz1:(w.alloc (.deferred (some []))).heap.size=w.heap.size+1:=by simp
  have hr2:=hr1.allocO (hd:=hd) (loopB cells (lp none)) (.loop {state:=.ready,pending:=none,fn:=fn,tmps:=a.tmps,params:=ps,assign:=asg,body:=body,defers:=w.heap.size}) 0 hfr (fun O' μ' hO hμ=>by
   unfold RelBlk
   simp only[loopB]
   refine⟨(w.heap.size,fn),a.tmps,?_,?_,rfl,rfl,fun j t g ht hg=>?_⟩
   ·rw[hlp];exact World.alloc_heap_new _ _
   ·rw[hlp];exact hr.sz
   ·rw[hlp] at ht
    obtain⟨t',e1,e2⟩:=getAll_get hcells hg
    rw[ht] at e1
    cases e1
    obtain⟨v,hv,hrv⟩:=hr1.fr t g e2
    refine⟨v,hv,(hrv.mono (kept_alloc _ _ _) hO (Nat.le_refl _)).remap fun y hy=>hμ y fun e=>?_⟩
    subst e
    rw[frNo_get (fresh_spec hfr).2.1 e2] at hy;cases hy)
  rw[hW,hsz1] at hr2
  have hgv2:=hr2.ev (x:=g) (g:=.clo f caps) (by cases g <;> exact hg)
  rw[show({a with defers:={target:=.collected w.heap.size,args:=#[]}::a.defers}:Act).eval g=.func (.func f) #[] us.toArray from hav] at hgv2
  obtain⟨us',e1,_,hrc⟩:=hgv2.cloInv
  rw[hcv] at e1
  have e2:us'=us:=by
   injection e1 with _ _ e3
   have:=congrArg Array.toList e3
   simpa using this.symm
  subst e2
  have hcall:=lend_core (P:=P) (f:=f) (vs:=.func (.yield (w.heap.size+1)) #[] #[]::us') hr2 hv hl hnd (by simp[hlu]) (fun j g v hg hv=>by
   cases j with
   | zero=>cases hg;cases hv;exact .yld hd _ (0,[]) (upd_same _ _ _)
   | succ j=>exact hrc j g v hg hv) hcon
  have hargs:(Value.func (.yield (w.heap.size+1)) #[] #[]::us').toArray=#[.func (.yield (w.heap.size+1)) #[] #[]]++us'.toArray:=by simp
  rw[hargs] at hcall
  refine callsIn_FF.2 (hcall.mono ?_)
  rintro e w2 (⟨v,r,st',μ'',rfl,hq,hC,_⟩ | ⟨_,_,_,_,h,_⟩)
  rotate_left
  ·exact h.elim
  obtain⟨s2,s3,j,k2,hb,hdd,hk2,hk2l,hsub,hn3,hR⟩:=hres r st' hq
  obtain⟨r2,_,_,r4⟩:=back_rel hr2 hl (ndB_spec hnd) hC hb
  have hm2:=r4 hd hdH (by simpa using hdd)
  rw[upd_same] at hm2
  obtain⟨l,m,hm3,D,vs,q1,q2,_,_,_⟩:=r2.loopAt hk2 hk2l
  obtain⟨mE,hmE,_⟩:=hm2.get rfl
  rw[hmE] at hm3
  cases hm3
  have hend:=run_endLoop (P:=P) q1 (by cases (lp j).pend <;> simp)
  refine⟨_,_,hend,?_⟩
  have r5:=r2.shutLoop (o':=.loop {state:=.exhausted,pending:=(lp j).pend,fn:=D.2,tmps:=vs,params:=(lp j).ps,assign:=(lp j).assign,body:=(lp j).body,defers:=D.1}) hk2 hmE q1 rfl (fun x h=>by cases h) (by have:=hr.st.hb;omega) hsub hn3
  have hpend:(lp j).pend=j:=by rw[hlp]
  simp only[hpend] at r5⊢
  cases j with
  | none=>exact⟨_,s3,r5,hR⟩
  | some c=>
   cases c with
   | ret=>exact wpIn_ret ⟨_,s3,r5,hR⟩
   | exit id=>exact wpIn_exit ⟨_,s3,r5,hR⟩
   | _=>exact hR.elim
end
end Go.AM
/-
 AM,part BF:how a round was left,as data;lists of a callee's own;structs in slices of the call's own.
-/
namespace Go.AM
inductive Jp where
 | go
 | ex
 | rt
 deriving DecidableEq
def Jp.isRt:Jp→Bool
 | .rt=>true
 | _=>false
def jmpc (id:Nat):Jp→Option Code
 | .go=>none
 | .ex=>some (.exit id)
 | .rt=>some .ret
theorem LoopR.rt {R:Exit→St→Prop}{s:St}{id:Nat}{j:Jp}(hj:j.isRt=true) (h:R .ret s):LoopR R s (jmpc id j):=by
 cases j with
 | rt=>exact h
 | _=>cases hj
section
variable {P:Program}{N:Nat}{cx:Cx}{Q:Exit→St→Prop}{s:St}{ops:Array Oper}{rest:List Oper}
theorem st_eta {s:St}{hh:Nat}{k:Blk}{lp:Lp}(hk:sget s.st hh=some k) (hl:k.lp=some (.loop lp)) (hp:lp.pend=none) (μ:Mu) (a:Act) (w:World) (hr:Rel N cx μ s a w):
  Rel N cx μ {s with st:=sset s.st hh {k with lp:=some (.loop {lp with pend:=none})}} a w:=by
 have e:({k with lp:=some (.loop {lp with pend:=none})}:Blk)=k:=by
  obtain⟨_,_,_,_,_,_,l⟩:=k
  simp only at hl
  subst hl
  obtain⟨_,_,_,_,_,_,_⟩:=lp
  simp only at hp
  subst hp
  rfl
 have e2:∀(st:List (Nat×Blk)),sget st hh=some k→sset st hh k=st:=by
  intro st
  induction st with
  | nil=>intro h;cases h
  | cons x r ih=>
   obtain⟨y,k'⟩:=x
   intro h
   simp only[sget] at h
   simp only[sset]
   cases hb:Nat.beq y hh with
   | true=>rw[hb] at h;cases h;rfl
   | false=>rw[hb] at h;rw[cond_false,ih h]
 rw[e,e2 s.st hk]
 exact hr
theorem GL.pend (hh:Nat){k:Blk}{lp:Lp}(hk:sget s.st hh=some k) (hl:k.lp=some (.loop lp)) (hp:lp.pend=none) (h:GL P N cx ops Q rest {s with st:=sset s.st hh {k with lp:=some (.loop {lp with pend:=none})}}):GL P N cx ops Q rest s:=
 fun μ a w hr=>h μ a w (st_eta hk hl hp μ a w hr)
theorem GW.pend {c:Code}(hh:Nat){k:Blk}{lp:Lp}(hk:sget s.st hh=some k) (hl:k.lp=some (.loop lp)) (hp:lp.pend=none) (h:GW P N cx c Q {s with st:=sset s.st hh {k with lp:=some (.loop {lp with pend:=none})}}):GW P N cx c Q s:=
 fun μ a w hr=>h μ a w (st_eta hk hl hp μ a w hr)
theorem GH2.freeze {W:List Nat}{fuel:Nat}{listed:Array Bool}(s':St) (hst:FzSt s.st s'.st s'.st) (hfr:FzFr s.st s'.st s.fr s'.fr) (h:GH2 P N cx ops Q W fuel listed s') (hdf:s.df=s'.df:=by rfl):GH2 P N cx ops Q W fuel listed s:=fun ws Wb μ a w hr hS hW=>
 h ws Wb μ a w (hr.freeze hst hfr hdf) hS fun x k c m b h1 h2 h3 hi=>by
  obtain⟨k0,h4,_⟩:=hst.get h2
  exact hW x k0 c m b h1 h4 h3 hi
end
section
variable {α:Type}[Enc α]
variable {P:Program}{N:Nat}{cx:Cx}{Q:Exit→St→Prop}{s:St}{ops:Array Oper}{rest:List Oper}
theorem GW.refresh [Flat α]{c:Code}(hh:Nat){k:Blk}{l:List α}(hk:sget s.st hh=some k) (hc:k.cells=encs l) (hp:k.pure=true) (h:GW P N cx c Q {fr:=s.fr,st:=sset s.st hh {k with fresh:=true},df:=s.df}) (hlp:k.lp=none:=by rfl):GW P N cx c Q s:=
 fun μ a w hr=>h μ a w (hr.refresh hk hc hp hlp)
variable {W:List Nat}{dst:Option Tmp}{ty:TypeId}{pos:String}{after:Array Edge}{guard:Option (Nat×Bool)}
theorem encs_setS {l:List α}{i:Nat}(x:α) (h:i<l.length):(encs l).take (0+i*Enc.sz α)++Enc.cells x++(encs l).drop (0+i*Enc.sz α+Enc.sz α)=encs (l.set i x):=by
 have e:0+i*Enc.sz α+Enc.sz α=(i+1)*Enc.sz α:=by rw[Nat.zero_add,Nat.add_mul,Nat.one_mul]
 rw[e,encs_drop,Nat.zero_add,encs_take,List.set_eq_take_append_cons_drop,if_pos h,encs_append,encs_cons,List.append_assoc]
theorem encs_setJ {l:List α}{i j:Nat}{x x':α}{g:G}(h:l[i]?=some x) (hj:j<Enc.sz α) (hx:Enc.cells x'=(Enc.cells x).set j g):(encs l).set (0+i*Enc.sz α+j) g=encs (l.set i x'):=by
 rw[Nat.zero_add]
 apply List.ext_getElem?
 intro n
 have hil:=(List.getElem?_eq_some_iff.1 h).1
 rw[List.getElem?_set]
 have hset:encs (l.set i x')=(encs l).take (0+i*Enc.sz α)++Enc.cells x'++(encs l).drop (0+i*Enc.sz α+Enc.sz α):=(encs_setS x' hil).symm
 rw[hset,hx,List.append_assoc,List.getElem?_append,List.length_take,encs_length,Nat.zero_add]
 have hm:i*Enc.sz α+Enc.sz α≤l.length*Enc.sz α:=by rw[←Nat.succ_mul];exact Nat.mul_le_mul_right _ hil
 rw[Nat.min_eq_left (by omega)]
 by_cases e:i*Enc.sz α+j=n
 ·rw[if_pos e,if_pos (by omega),if_neg (by omega),List.getElem?_append,List.length_set,Enc.len,if_pos (by omega),List.getElem?_set,if_pos (by omega),if_pos (by rw[Enc.len];omega)]
 ·rw[if_neg e]
  split
  ·rename_i h1;rw[List.getElem?_take,if_pos h1]
  ·rename_i h1
   rw[List.getElem?_append,List.length_set,Enc.len]
   split
   ·rename_i h2
    rw[List.getElem?_set,if_neg (by omega),←encs_get h (by omega)]
    congr 1;omega
   ·rename_i h2
    rw[List.getElem?_drop]
    congr 1;omega
end
end Go.AM
/-
 AM,part BG:make of elements of any make.
-/
namespace Go.AM
section
variable {α:Type}[Enc α]
variable {P:Program}{N:Nat}{cx:Cx}{s:St}{W:List Nat}{d:Nat}
variable {ty:TypeId}{pos:String}{after:Array Edge}{guard:Option (Nat×Bool)}
variable {dst:Option Tmp}
end
end Go.AM
/-
 AM,part BH:a slice of the call's own in the place of one that was lent.
-/
namespace Go.AM
section
variable {P:Program}{N:Nat}{cx:Cx}{Q:Exit→St→Prop}{s:St}{ops:Array Oper}{rest:List Oper}
def plainG:G→G
 | .val v=>viewV v
 | g=>stripG g
theorem Rel.plain {μ:Mu}{a:Act}{w:World}(h:Rel N cx μ s a w){hh:Nat}{k:Blk}(hk:sget s.st hh=some k) (hp:k.pure=false) (hlp:k.lp=none):
  Rel N cx μ {fr:=s.fr,st:=sset s.st hh {k with cells:=k.cells.map plainG},df:=s.df} a w:=by
 refine h.restate hk rfl rfl rfl (Nat.le_of_eq (by simp)) hlp hlp fun j g' hg'=>?_
 simp only[List.getElem?_map,Option.map_eq_some_iff] at hg'
 obtain⟨g,h1,rfl⟩:=hg'
 refine⟨g,h1,fun v hv=>?_⟩
 unfold RepC at hv⊢
 simp only[hp] at hv⊢
 cases g with
 | val u=>
  cases hv with
  | imm hi=>
   cases hi with
   | val _=>exact .imm (viewV_rep _)
 | _=>exact hv.strip
theorem GL.plain (hh:Nat){k:Blk}(hk:sget s.st hh=some k) (hp:k.pure=false) (h:GL P N cx ops Q rest {fr:=s.fr,st:=sset s.st hh {k with cells:=k.cells.map plainG},df:=s.df}) (hlp:k.lp=none:=by rfl):GL P N cx ops Q rest s:=
 fun μ a w hr=>h μ a w (hr.plain hk hp hlp)
theorem GH2.plain {W:List Nat}{fuel:Nat}{listed:Array Bool}(hh:Nat){k:Blk}(hk:sget s.st hh=some k) (hp:k.pure=false)
  (h:GH2 P N cx ops Q W fuel listed {fr:=s.fr,st:=sset s.st hh {k with cells:=k.cells.map plainG},df:=s.df}) (hlp:k.lp=none:=by rfl):GH2 P N cx ops Q W fuel listed s:=fun ws Wb μ a w hr hS hW=>
 h ws Wb μ a w (hr.plain hk hp hlp) hS fun x k' c m b h1 h2 h3 h4=>by
  rcases sget_sset_iff hk h2 with ⟨rfl,rfl⟩ | ⟨_,h2⟩
  ·exact hW x k c m b h1 hk h3 h4
  ·exact hW x k' c m b h1 h2 h3 h4
theorem SubSt.trans {a b:List (Nat×Blk)}(h:SubSt a b):∀{c:List (Nat×Blk)},SubSt b c→SubSt a c
 | [],_=>trivial
 | (t,g)::r,hc=>⟨h.get hc.1,h.trans hc.2⟩
variable {dst:Option Tmp}{ty:TypeId}{pos:String}{after:Array Edge}{guard:Option (Nat×Bool)}
end
end Go.AM
/-
 AM,part BI:make with a capacity;an append of a make to the nil slice.
-/
namespace Go.AM
section
variable {P:Program}
theorem GW.plain {N:Nat}{cx:Cx}{s:St}{c:Code}{Q:Exit→St→Prop}(hh:Nat){k:Blk}(hk:sget s.st hh=some k) (hp:k.pure=false) (h:GW P N cx c Q {fr:=s.fr,st:=sset s.st hh {k with cells:=k.cells.map plainG},df:=s.df}) (hlp:k.lp=none:=by rfl):GW P N cx c Q s:=
 fun μ a w hr=>h μ a w (hr.plain hk hp hlp)
end
section
variable {α:Type}[Enc α]
variable {P:Program}{N:Nat}{cx:Cx}{s:St}{W:List Nat}{d:Nat}
variable {ty:TypeId}{pos:String}{after:Array Edge}{guard:Option (Nat×Bool)}
theorem made_cells {O:Nat→Prop}{base:Nat}{w:World}{μ:Mu}{x:α}{z:Value}{e:TypeId}{m:Nat}{cs:Array Value}(hzs:z.cells.size=Enc.sz α) (he:z.cells.toList.map viewV=Enc.cells x)
  (hcs:∀j,j<m*Enc.sz α→cs[j]?=(madeCells z.cells (m*Enc.sz α))[j]?) (j:Nat) (g':G) (hg':(encs (List.replicate m x))[j]?=some g'):
  ∃v,cs[j]?=some v∧RepC O base w μ ⟨e,true,true,true,Enc.sz α,encs (List.replicate m x),none⟩ g' v:=by
 have hpos:0<Enc.sz α:=Enc.pos
 unfold encs at hg'
 rw[flatMap_get Enc.cells (Enc.sz α) hpos (List.replicate m x) (fun a _=>Enc.len a) j,List.getElem?_replicate] at hg'
 split at hg'
 ·rename_i hj
  simp only[Option.bind_some] at hg'
  rw[←he,List.getElem?_map] at hg'
  have hlt:j%Enc.sz α<z.cells.toList.length:=by rw[Array.length_toList,hzs];exact Nat.mod_lt _ hpos
  rw[List.getElem?_eq_getElem hlt] at hg'
  cases hg'
  have hjn:j<m*Enc.sz α:=(Nat.div_lt_iff_lt_mul hpos).1 hj
  refine⟨z.cells.toList[j%Enc.sz α],?_,?_⟩
  ·rw[hcs j hjn]
   have hmod:j%z.cells.size=j%Enc.sz α:=by rw[hzs]
   rw[Array.length_toList] at hlt
   simp[madeCells,hjn,hmod,hlt]
  ·unfold RepC
   exact viewV_rep _
 ·cases hg'
theorem ET.makeC {x:α}{t e:TypeId}{xo yo:Operand}{z:Value}{bt sz:Nat}{k k':IntKind}{n c:Int}(hd:Nat) (hx:ev s xo=some (.val (.int k n))) (hy:ev s yo=some (.val (.int k' c)))
  (ht:P.underlying t=some (.slice e)) (hi:(P.info? e).map (fun i=>(i.zero,i.size,i.bytes))=some (some z,sz,bt)) (hzs:z.cells.size=sz) (hsz:Enc.sz α=sz) (he:z.cells.toList.map viewV=Enc.cells x)
  (h0:0≤n) (hnc:n≤c) (hb:(bt:Int)*c≤281474976710656) (h63:c≤9223372036854775807) (hfr:fresh s hd=true):
  Effect P W s ⟨some d,.makeSlice t xo yo,ty,pos,after,guard⟩ (·={fr:=(d,.osl hd (Enc.sz α) 0 (List.replicate n.toNat x).length)::s.fr,st:=(hd,⟨e,true,true,true,Enc.sz α,encs (List.replicate n.toNat x),none⟩)::s.st,df:=s.df}):=by
 subst hsz
 refine Effect.of (s1:={fr:=s.fr,st:=(hd,⟨e,true,true,true,Enc.sz α,encs (List.replicate n.toNat x),none⟩)::s.st,df:=s.df}) (g:=.osl hd (Enc.sz α) 0 (List.replicate n.toNat x).length) rfl (fun _ h=>by cases h) ?_
 intro N cx μ a w hr
 obtain⟨i,hi1,hi2⟩:=Option.map_eq_some_iff.1 hi
 simp only[Prod.mk.injEq] at hi2
 obtain⟨hz,hs1,hb1⟩:=hi2
 have hms:(madeCells z.cells (c.toNat*i.size)).size=c.toNat*Enc.sz α:=by rw[size_madeCells,hs1]
 have hle:n.toNat*Enc.sz α≤c.toNat*Enc.sz α:=Nat.mul_le_mul_right _ (by omega)
 obtain⟨μ',w',rfl,h1,h2,h3⟩:=hr.allocNew (k:=⟨e,true,true,true,Enc.sz α,encs (List.replicate n.toNat x),none⟩) (cs:=madeCells z.cells (c.toNat*i.size)) hfr rfl (by rw[hms];simp only[encs_length,List.length_replicate];exact hle)
  (fun _=>by rw[hms];exact Nat.mul_le_mul_right _ (by unfold maxLen;omega))
  (fun j g' hg'=>made_cells hzs he (fun j hj=>by
   rw[hs1]
   have h5:j<c.toNat*Enc.sz α:=Nat.lt_of_lt_of_le hj hle
   simp[madeCells,hj,h5]) j g' hg')
  (fun h=>by cases h) W
 have hrun:=run_make (P:=P) w t e i z ht hi1 hz k k' n c h0 hnc (by rw[hb1];exact hb) h63
 rw[hms] at h2
 refine⟨_,μ',_,?_,h1,.osl hd (Enc.sz α) 0 _ _ _ c.toNat h2 (by simp;omega) (by simp),h3⟩
 simp[execOp,hr.val hx,hr.val hy,hrun]
end
section
variable {P:Program}{s:St}{W:List Nat}{d:Nat}{ty:TypeId}{pos:String}{after:Array Edge}{guard:Option (Nat×Bool)}
end
end Go.AM
/-
 AM,part BJ:copy.
-/
namespace Go.AM
section
variable {P:Program}{N:Nat}{cx:Cx}{s:St}
variable {ty:TypeId}{pos:String}{after:Array Edge}{guard:Option (Nat×Bool)}{W:List Nat}{d:Nat}
theorem EF.copy {t t' e:TypeId}{x y:Operand}{h off n m:Nat}{k:Blk}{gy:G}{newsG:List G}{f:Bool}(hx:ev s x=some (.osl h 1 off n)) (hy:ev s y=some gy) (hk:sget s.st h=some k) (hp:k.pure=true)
  (hfit:off+n≤k.cells.length) (hsrc:gsrc s.st 1 gy=some (newsG,m,f)) (hlen:newsG.length=m*1) (hone:∀g,g∈newsG→g.one=true)
  (ht:P.underlying t=some (.slice e)) (hi:(P.info? e).map (·.size)=some 1) (hW:W.contains h=true) (hlp:k.lp=none:=by rfl):
  Effect P W s ⟨some d,.call ⟨.builtin .copy,#[x,y],#[t,t']⟩,ty,pos,after,guard⟩
   (fun s'=>s'={fr:=(d,.val (.int .i64 (Nat.min m n:Nat)))::s.fr,st:=sset s.st h {k with fresh:=k.fresh&&f,cells:=k.cells.take off++newsG.take (Nat.min m n)++k.cells.drop (off+Nat.min m n)},df:=s.df}∨
    (Nat.min m n=0∧s'=s.put d (.val (.int .i64 0)))):=by
 refine⟨(fun _ h=>by cases h),?_⟩
 intro N cx μ a w hr hN K Q hK
 have hlen:newsG.length=m:=by rw[hlen,Nat.mul_one]
 have idle:∀(o1 o2:Option Addr) (c1 c2:Nat),Nat.min m n=0→a.eval x=.slice o1 n c1→a.eval y=.slice o2 m c2→(Oper.wp P ⟨some d,.call ⟨.builtin .copy,#[x,y],#[t,t']⟩,ty,pos,after,guard⟩ a w K Q):=by
  intro o1 o2 c1 c2 h0 e1 e2
  have hrun:=run_copy_none (P:=P) w t t' ty e o1 o2 n c1 m c2 ht hi h0
  unfold Oper.wp
  have:(execOp a.eval ⟨some d,.call ⟨.builtin .copy,#[x,y],#[t,t']⟩,ty,pos,after,guard⟩).run P w=.ok (.value (goInt 0)) w:=by
   simp only[execOp,resolve,invoke,builtin,Sem.run_bind,Sem.run_pure,Result.andThen_ok,List.map_toArray,List.map_cons,List.map_nil,e1,e2,hrun]
  rw[this]
  refine hK μ _ _ w (hr.put (d:=d) (g:=.val (.int .i64 0)) (hN d rfl) (.imm (.val _))) (.inr ⟨h0,rfl⟩) ⟨Nat.le_refl _,fun _ _ _=>rfl,fun x k1 c1 m1 b1 hw h1 h2 hi=>.inl ⟨x,k1,c1,m1,hw,h1,h2,hi⟩⟩
 have hv:=hr.ev hx
 have hy1:(∃o2 c2,a.eval y=.slice o2 m c2∧Nat.min m n=0)∨∃(b off c:Nat) (news:List Value),a.eval y=.slice (some ⟨b,off,none⟩) m c∧news.length=m∧(∀(j:Nat) (u:Value),news[j]?=some u→w.cell? ⟨b,off+j,none⟩=some u)∧(∀u∈news,u.oneCell'=true)∧
   (∀(j:Nat) (g:G),newsG[j]?=some g→∃u,news[j]?=some u∧RepI (bif f then Old (cx.O s.st μ) cx.base else cx.O s.st μ) w g u):=by
  rcases hr.src hy hsrc (by rw[hlen,Nat.mul_one]) hone with ⟨⟨o2,c2,h1⟩,h2⟩ | ⟨b2,off2,c2,news,e1,e2,e3,e4,e5,e6⟩
  ·subst h2;exact .inl ⟨o2,c2,h1,Nat.zero_min _⟩
  ·exact .inr ⟨b2,off2,c2,news,e1,by rw[e2,Nat.mul_one],e3,e4,e5⟩
 generalize hav:a.eval x=v at hv
 have small:n=0→(∃o1 c1,v=.slice o1 0 c1)→(Oper.wp P ⟨some d,.call ⟨.builtin .copy,#[x,y],#[t,t']⟩,ty,pos,after,guard⟩ a w K Q):=by
  rintro h0 ⟨o1,c1,h1⟩
  subst h0
  rcases hy1 with ⟨o2,c2,h2,h3⟩ | ⟨b2,off2,c2,news,e1,e2,e3,e4,e5⟩
  ·exact idle _ _ _ _ h3 (hav.trans h1) h2
  ·exact idle _ _ _ _ (Nat.min_zero _) (hav.trans h1) e1
 cases hv with
 | imm h=>cases h
 | onil _ _ hm=>exact small rfl ⟨_,_,rfl⟩
 | ozero _ _ off0 b _ hm hpos=>exact small rfl ⟨_,_,rfl⟩
 | osl _ _ _ _ b m0 cap hm hn hc=>
  rcases hy1 with ⟨o2,c2,h2,h3⟩ | ⟨b2,off2,c2,news,e1,e2,e3,e4,e5⟩
  ·exact idle _ _ _ _ h3 hav h2
  obtain⟨cs,h1,h2,h3,h4,h5,h6⟩:=hr.own hk hm hlp
  have hmn:Nat.min m n≤m:=Nat.min_le_left _ _
  have hmn2:Nat.min m n≤n:=Nat.min_le_right _ _
  have hl:(news.take (Nat.min m n)).length=Nat.min m n:=by rw[List.length_take,e2];exact Nat.min_eq_left hmn
  have hrun:=run_copy_row (P:=P) w t t' ty e b off n cap ⟨b2,off2,none⟩ m c2 cs k.ety (news.take (Nat.min m n)) ht hi h1 hl
   (fun j u hu=>by
    rw[Addr.add_off]
    rw[List.getElem?_take] at hu
    split at hu
    ·exact e3 j u hu
    ·cases hu) (by rw[hl];omega) (fun u hu=>e4 u (List.mem_of_mem_take hu))
  unfold Oper.wp
  have:(execOp a.eval ⟨some d,.call ⟨.builtin .copy,#[x,y],#[t,t']⟩,ty,pos,after,guard⟩).run P w=.ok (.value (goInt (Nat.min m n:Nat))) (w.setRow b (cs.toList.take off++news.take (Nat.min m n)++cs.toList.drop (off+Nat.min m n)).toArray):=by
   rw[hl] at hrun
   simp only[execOp,resolve,invoke,builtin,Sem.run_bind,Sem.run_pure,Result.andThen_ok,List.map_toArray,List.map_cons,List.map_nil,hav,e1,hrun]
  rw[this]
  have hwr:=hr.write (k':={k with fresh:=k.fresh&&f,cells:=k.cells.take off++newsG.take (Nat.min m n)++k.cells.drop (off+Nat.min m n)}) (w':=w.setRow b (cs.toList.take off++news.take (Nat.min m n)++cs.toList.drop (off+Nat.min m n)).toArray) hk hm (setRow_heap_same h1) (by
    simp only[List.size_toArray,List.length_append,List.length_take,List.length_drop,Array.length_toList];omega) (setRow_size _ _ _) (fun b' hb'=>setRow_other w b b' _ hb') rfl rfl rfl id (by
    simp only[List.length_append,List.length_take,List.length_drop];omega) h5 (by
    intro j g' hg'
    have hget:∀(j:Nat),(cs.toList.take off++news.take (Nat.min m n)++cs.toList.drop (off+Nat.min m n)).toArray[j]?=if j<off then cs[j]? else if j<off+Nat.min m n then news[j-off]? else cs[j]?:=by
     intro j
     rw[List.getElem?_toArray,List.append_assoc,List.getElem?_append,List.length_take,Array.length_toList,Nat.min_eq_left (by omega:off≤cs.size)]
     split
     ·rename_i hj;rw[List.getElem?_take,if_pos hj,Array.getElem?_toList]
     ·rw[List.getElem?_append,hl]
      split
      ·rename_i hj1 hj2;rw[if_pos (by omega),List.getElem?_take,if_pos hj2]
      ·rename_i hj1 hj2;rw[if_neg (by omega),List.getElem?_drop,Array.getElem?_toList];congr 1;omega
    have hlG:(newsG.take (Nat.min m n)).length=Nat.min m n:=by rw[List.length_take,hlen];exact Nat.min_eq_left hmn
    dsimp only at hg'
    rw[List.append_assoc,List.getElem?_append,List.length_take,Nat.min_eq_left (by omega:off≤k.cells.length)] at hg'
    rw[hget]
    have old:∀{j:Nat}{g':G},k.cells[j]?=some g'→∃v,cs[j]?=some v∧RepC (cx.O s.st μ) cx.base w μ {k with fresh:=k.fresh&&f,cells:=k.cells.take off++newsG.take (Nat.min m n)++k.cells.drop (off+Nat.min m n)} g' v:=by
     intro j g' hg'
     obtain⟨v,hv,hrv⟩:=h6 j g' hg'
     refine⟨v,hv,?_⟩
     unfold RepC at hrv⊢
     dsimp only at hrv⊢
     rw[hp] at hrv⊢
     exact hrv.flag (fun h=>by simp at h;exact h.1)
    split at hg'
    ·rename_i hj
     rw[if_pos hj]
     rw[List.getElem?_take,if_pos hj] at hg'
     exact old hg'
    ·rename_i hj
     rw[if_neg hj]
     rw[List.getElem?_append,hlG] at hg'
     split at hg'
     ·rename_i hj2
      rw[if_pos (by omega)]
      rw[List.getElem?_take,if_pos hj2] at hg'
      obtain⟨u,hu,hru⟩:=e5 _ g' hg'
      refine⟨u,hu,?_⟩
      unfold RepC
      dsimp only
      rw[hp]
      exact hru.flag (fun h=>by simp at h;exact h.2)
     ·rename_i hj2
      rw[if_neg (by omega)]
      rw[List.getElem?_drop] at hg'
      have:off+Nat.min m n+(j-off-Nat.min m n)=j:=by omega
      rw[this] at hg'
      exact old hg') W hW hlp
  exact hK μ _ _ _ (hwr.1.put (d:=d) (g:=.val (.int .i64 (Nat.min m n:Nat))) (hN d rfl) (.imm (.val _))) (.inl rfl) hwr.2
end
end Go.AM
/-
 AM:pointers that may be nil;slices of slices,told as a whole.
-/
namespace Go.AM
section
variable {P:Program}{N:Nat}{cx:Cx}{s:St}{W:List Nat}
variable {dst:Option Tmp}{ty:TypeId}{pos:String}{after:Array Edge}{guard:Option (Nat×Bool)}
def ptrNil:G→Option Bool
 | .val (.pointer none)=>some true
 | .kp _ _ _=>some false
 | .loc _ _=>some false
 | _=>none
theorem RepV.ptrNil {O:Nat→Prop}{base:Nat}{w:World}{μ:Mu}{g:G}{v:Value}{b:Bool}(h:RepV O base w μ g v) (hn:AM.ptrNil g=some b):∃p,v=.pointer p∧p.isNone=b:=by
 cases g with
 | val u=>
  cases h with
  | imm h=>
   cases h
   cases v with
   | pointer p=>cases p with
    | none=>cases hn;exact⟨none,rfl,rfl⟩
    | some _=>cases hn
   | _=>cases hn
 | kp h' i off=>
  cases hn
  cases h with
  | imm h=>cases h
  | kp _ _ _ b m c n hm hk=>exact⟨_,rfl,rfl⟩
 | loc h' off=>
  cases hn
  cases h with
  | imm h=>cases h
  | loc _ _ b m hm=>exact⟨_,rfl,rfl⟩
 | _=>cases hn
theorem run_ptrNil {t e:TypeId}(ht:P.underlying t=some (.pointer e)) (p:Option Addr) (w:World):(Op.equal t (.pointer p) (.pointer none)).run P w=.ok p.isNone w:=by
 have key:∀d,(Op.equalIn (d+1) t (.pointer p) (.pointer none)).run P w=.ok p.isNone w:=fun d=>by
  cases p with
  | none=>simp[Op.equalIn,run_underlying ht]
  | some a=>simp[Op.equalIn,run_underlying ht]
 exact key 9999
theorem PY.ptrEq {t t' e:TypeId}{x:Operand}{g:G}{b:Bool}(hx:ev s x=some g) (hn:AM.ptrNil g=some b) (ht:P.underlying t=some (.pointer e)):
  PY P s ⟨dst,.binOp .eql t x (.const (.pointer none)) t',ty,pos,after,guard⟩ (.val (.bool b)):=fun N cx μ a w hr=>by
 obtain⟨p,e1,rfl⟩:=(hr.ev hx).ptrNil hn
 refine⟨_,.imm (.val _),fun w'=>?_⟩
 have h:=run_ptrNil (P:=P) ht p w'
 have hg:(eqGuard .eql t x (.const (.pointer none)) (.pointer p) (.pointer none)).run P w'=.ok () w':=by simp[eqGuard]
 simp only[execOp,e1,show a.eval (.const (.pointer none))=.pointer none from rfl,Sem.run_bind,hg,Result.andThen_ok]
 simp[binOp,h]
theorem PY.ptrNe {t t' e:TypeId}{x:Operand}{g:G}{b:Bool}(hx:ev s x=some g) (hn:AM.ptrNil g=some b) (ht:P.underlying t=some (.pointer e)):
  PY P s ⟨dst,.binOp .neq t x (.const (.pointer none)) t',ty,pos,after,guard⟩ (.val (.bool (!b))):=fun N cx μ a w hr=>by
 obtain⟨p,e1,rfl⟩:=(hr.ev hx).ptrNil hn
 refine⟨_,.imm (.val _),fun w'=>?_⟩
 have h:=run_ptrNil (P:=P) ht p w'
 have hg:(eqGuard .neq t x (.const (.pointer none)) (.pointer p) (.pointer none)).run P w'=.ok () w':=by simp[eqGuard]
 simp only[execOp,e1,show a.eval (.const (.pointer none))=.pointer none from rfl,Sem.run_bind,hg,Result.andThen_ok]
 simp[binOp,h]
theorem PY.nilCheckK {x:Operand}{h i off:Nat}(hx:ev s x=some (.kp h i off)):PY P s ⟨dst,.nilCheck x,ty,pos,after,guard⟩ (.kp h i off):=fun N cx μ a w hrel=>by
 have hr:=hrel.ev hx
 refine⟨_,hr,fun w'=>?_⟩
 generalize e1:a.eval x=v at hr
 cases hr with
 | imm h=>cases h
 | kp _ _ _ b m c n hm hk=>simp[execOp,e1]
def RowAt (O:Nat→Prop) (w:World) (kty:TypeId) (sz:Nat) (n:Nat) (gs:List G) (u:Value):Option (Nat×Nat)→Prop
 | none=>n=0∧gs=[]∧∃a cap,u=.slice a 0 cap∧(a=none→cap=0)
 | some (c,k)=>∃cap cs,u=.slice (some ⟨c,0,none⟩) n cap∧n≤cap∧cap*sz=k∧w.heap[c]?=some (.cells cs kty (0,0))∧cs.size=k∧k≤maxLen*sz∧gs.length=n*sz∧
   ∀(j:Nat) (g:G),gs[j]?=some g→∃v,cs[j]?=some v∧RepI O w g v
structure FamAt (ety kty:TypeId) (sz:Nat) (rows:List (Nat×List G)) (O:Nat→Prop) (w:World) (b:Nat) (m:Mm) (cs:Array Value):Prop where
 len:m.2.length=rows.length
 root:∀(i c k:Nat),m.2[i]?=some (some (c,k))→c≠b∧c<w.heap.size
 inj:∀(i j c k k':Nat),m.2[i]?=some (some (c,k))→m.2[j]?=some (some (c,k'))→i=j
 heap:w.heap[b]?=some (.cells cs ety (0,0))
 size:cs.size=m.1
 le:rows.length≤m.1
 max:m.1≤maxLen
 row:∀(i n:Nat) (gs:List G),rows[i]?=some (n,gs)→∃u x,cs[i]?=some u∧m.2[i]?=some x∧RowAt O w kty sz n gs u x
theorem RowAt.mono {O O':Nat→Prop}{w w':World}{kty:TypeId}{sz n:Nat}{gs:List G}{u:Value}{x:Option (Nat×Nat)}(h:RowAt O w kty sz n gs u x) (hk:Kept O w w') (hO:∀x,x<w.heap.size→¬O x→¬O' x)
  (hc:∀c k,x=some (c,k)→w'.heap[c]?=w.heap[c]?):RowAt O' w' kty sz n gs u x:=by
 cases x with
 | none=>exact h
 | some ck=>
  obtain⟨c,k⟩:=ck
  obtain⟨cap,cs,h1,h2,h3,h4,h5,h6,h7,h8⟩:=h
  exact⟨cap,cs,h1,h2,h3,(hc c k rfl).trans h4,h5,h6,h7,fun j g hg=>let ⟨v,hv,hr⟩:=h8 j g hg;⟨v,hv,hr.mono hk hO⟩⟩
theorem RowAt.shut {O Z:Nat→Prop}{w w':World}{kty:TypeId}{sz n:Nat}{gs:List G}{u:Value}{x:Option (Nat×Nat)}(h:RowAt O w kty sz n gs u x) (hs:Shut Z w w'):RowAt O w' kty sz n gs u x:=by
 cases x with
 | none=>exact h
 | some ck=>
  obtain⟨c,k⟩:=ck
  obtain⟨cap,cs,h1,h2,h3,h4,h5,h6,h7,h8⟩:=h
  exact⟨cap,cs,h1,h2,h3,hs.cells h4,h5,h6,h7,fun j g hg=>let ⟨v,hv,hr⟩:=h8 j g hg;⟨v,hv,hr.shut hs⟩⟩
theorem In.kid {b:Nat}{m:Mm}{i c k:Nat}(h:m.2[i]?=some (some (c,k))):In c b m:=.inr ⟨k,List.mem_of_getElem? h⟩
def famDp (ety kty:TypeId) (sz:Nat) (rows:List (Nat×List G)):Dp where
 φ:=fun O w b m=>∃cs,FamAt ety kty sz rows O w b m cs
 emp:=rows=[]
 mono:=by
  rintro O O' w w' b m ⟨cs,h⟩ hk hO hb
  refine⟨cs,{len:=h.len,root:=fun i c k e=>⟨(h.root i c k e).1,Nat.lt_of_lt_of_le (h.root i c k e).2 hk.size⟩,inj:=h.inj,heap:=(hb b (.self _ _)).trans h.heap,size:=h.size,le:=h.le,max:=h.max,row:=fun i n gs e=>?_}⟩
  obtain⟨u,x,h1,h2,h3⟩:=h.row i n gs e
  exact⟨u,x,h1,h2,h3.mono hk hO fun c k e=>hb c (.kid (k:=k) (by rw[h2,e]))⟩
 shut:=by
  rintro O Z w w' b m ⟨cs,h⟩ hs _
  refine⟨cs,{len:=h.len,root:=fun i c k e=>⟨(h.root i c k e).1,by rw[hs.size];exact(h.root i c k e).2⟩,inj:=h.inj,heap:=hs.cells h.heap,size:=h.size,le:=h.le,max:=h.max,row:=fun i n gs e=>?_}⟩
  obtain⟨u,x,h1,h2,h3⟩:=h.row i n gs e
  exact⟨u,x,h1,h2,h3.shut hs⟩
 live:=by
  rintro O w b m ⟨cs,h⟩ x hx
  rcases hx with rfl | ⟨n,hn⟩
  ·exact lt_of_heap h.heap
  ·obtain⟨i,hi⟩:=List.getElem?_of_mem hn
   exact(h.root i x n hi).2
theorem Rel.fam {μ:Mu}{a:Act}{w:World}(hr:Rel N cx μ s a w){h:Nat}{k:Blk}{ety kty:TypeId}{sz:Nat}{rows:List (Nat×List G)}(hk:sget s.st h=some k) (hl:k.lp=some (.deep (famDp ety kty sz rows))){b:Nat}{m:Mm}(hm:μ h=some (b,m)):
  ∃cs,FamAt ety kty sz rows (bif k.fresh then Old (cx.O s.st μ) cx.base else cx.O s.st μ) w b m cs:=by
 have:=hr.st.blk h k hk
 rw[hm] at this
 exact((RelBlk.deep hl).1 this).1
theorem Rel.agreeIn {μ:Mu}{a:Act}{w w':World}(hrel:Rel N cx μ s a w){h:Nat}{k:Blk}(hk:sget s.st h=some k){b:Nat}{m:Mm}(hm:μ h=some (b,m))
  (hW:W.contains h=false) (hag:Agree W s μ w w'){c:Nat}(hi:In c b m):w'.heap[c]?=w.heap[c]?:=by
 refine hag.2 c (hrel.st.outF h k b m c hk hm hi).2.2.1 ?_
 intro h' k' c' m' hin hk' hm' hi'
 have:=hrel.st.injF h h' k k' c b m c' m' hk hk' hm hm' hi hi'
 subst this
 simp at hW
 exact hW hin
theorem bigI_ne {i:Nat}(h:i<maxLen):i≠bigI:=by unfold bigI;simp only[maxLen] at h;omega
theorem YL.famRow {t:TypeId}{x:Operand}{h i sz n:Nat}{k:Blk}{ety kty:TypeId}{rows:List (Nat×List G)}{gs:List G}(hx:ev s x=some (.loc h i)) (hk:sget s.st h=some k) (hl:k.lp=some (.deep (famDp ety kty sz rows))) (hi:rows[i]?=some (n,gs))
  (hag:∀w,(isAgg t).run P w=.ok false w) (hW:W.contains h=false):Yield P W s ⟨dst,.load t x,ty,pos,after,guard⟩ (.ks h i sz n):=fun N cx μ a w hrel=>by
 obtain⟨b,m,e1,hm⟩:=hrel.loc hx
 obtain⟨cs,hf⟩:=hrel.fam hk hl hm
 obtain⟨u,x',h1,h2,h3⟩:=hf.row i n gs hi
 refine⟨u,?_,fun w' hs hw'=>?_⟩
 ·cases x' with
  | none=>obtain⟨rfl,_,a',cap,rfl,_⟩:=h3;exact .knil h i sz a' cap (fun e=>absurd e (bigI_ne (Nat.lt_of_lt_of_le (List.getElem?_eq_some_iff.1 hi).1 (Nat.le_trans hf.le hf.max))))
  | some ck=>
   obtain⟨c,kk⟩:=ck
   obtain⟨cap,cs',rfl,h4,h5,_⟩:=h3
   exact .ks h i sz n b m c kk cap hm h2 h4 h5
 ·have hb:=hrel.agreeIn hk hm hW ⟨hs,hw'⟩ (.self b m)
  rw[hf.heap] at hb
  have hc:w'.cell? ⟨b,i,none⟩=some u:=by rw[cell_of hb,h1]
  simp[execOp,e1,Instr.loadAt,Instr.sureAddr,loadVar,hag,hc]
theorem Rel.kp {μ:Mu}{a:Act}{w:World}(hrel:Rel N cx μ s a w){x:Operand}{h i off:Nat}(hx:AM.ev s x=some (.kp h i off)):∃b m c n,a.eval x=.pointer (some ⟨c,off,none⟩)∧μ h=some (b,m)∧m.2[i]?=some (some (c,n)):=by
 have hr:=hrel.ev hx
 generalize a.eval x=v at hr
 cases hr with
 | imm h=>cases h
 | kp _ _ _ b m c n hm hk=>exact⟨b,m,c,n,rfl,hm,hk⟩
def frF (f:Bool):G→G
 | .val v=>.val v
 | g=>bif f then .fr g else g
theorem RepI.frF {O:Nat→Prop}{base:Nat}{w:World}{μ:Mu}{f:Bool}{g:G}{v:Value}(h:RepI (bif f then Old O base else O) w g v):RepV O base w μ (AM.frF f g) v:=by
 have key:RepV O base w μ (bif f then .fr g else g) v:=by
  cases f with
  | false=>exact .imm h
  | true=>exact .fr h
 cases g with
 | val u=>cases h;exact .imm (.val _)
 | _=>exact key
theorem YL.famCell {t:TypeId}{x:Operand}{h i off sz n:Nat}{k:Blk}{ety kty:TypeId}{rows:List (Nat×List G)}{gs:List G}{g:G}(hx:ev s x=some (.kp h i off)) (hk:sget s.st h=some k) (hl:k.lp=some (.deep (famDp ety kty sz rows)))
  (hi:rows[i]?=some (n,gs)) (hg:gs[off]?=some g) (hag:∀w,(isAgg t).run P w=.ok false w) (hW:W.contains h=false):Yield P W s ⟨dst,.load t x,ty,pos,after,guard⟩ (frF k.fresh g):=fun N cx μ a w hrel=>by
 obtain⟨b,m,c,n',e1,hm,hc⟩:=hrel.kp hx
 obtain⟨cs,hf⟩:=hrel.fam hk hl hm
 obtain⟨u,x',h1,h2,h3⟩:=hf.row i n gs hi
 rw[hc] at h2
 cases h2
 obtain⟨cap,cs',_,_,_,h6,_,_,_,h10⟩:=h3
 obtain⟨v,hv,hr⟩:=h10 off g hg
 refine⟨v,hr.frF,fun w' hs hw'=>?_⟩
 have hb:=hrel.agreeIn hk hm hW ⟨hs,hw'⟩ (.kid hc)
 rw[h6] at hb
 have hcell:w'.cell? ⟨c,off,none⟩=some v:=by rw[cell_of hb,hv]
 simp[execOp,e1,Instr.loadAt,Instr.sureAddr,loadVar,hag,hcell]
theorem RelSt.rewrite {μ:Mu}{st:List (Nat×Blk)}{w w':World}(h:RelSt cx μ st w){hh:Nat}{k k':Blk}{b c:Nat}{m:Mm}(hk:sget st hh=some k) (hm:μ hh=some (b,m)) (hc:In c b m)
  (hsz:w'.heap.size=w.heap.size) (hoth:∀b',b'≠c→w'.heap[b']?=w.heap[b']?) (hos:w'.os=w.os) (htape:w'.tape=w.tape) (hout:w'.output=w.output) (hmine:k'.mine=true→k.mine=true)
  (hb:∀O',(∀x,cx.O st μ x↔O' x)→RelBlk O' cx.base w' μ k' (some (b,m))):
  RelSt cx μ (sset st hh k') w'∧Kept (cx.O st μ) w w'∧∀b,cx.O (sset st hh k') μ b↔cx.O st μ b:=by
 have hOO:∀b,cx.O (sset st hh k') μ b↔cx.O st μ b:=fun b=>or_congr Iff.rfl (Own.sset hk)
 have hown:cx.O st μ c:=.inr ⟨hh,k,b,m,hk,hm,hc⟩
 have hkept:Kept (cx.O st μ) w w':=⟨by rw[hsz];exact Nat.le_refl _,fun b' _ hn=>hoth b' fun e=>hn (e▸hown)⟩
 have hO:∀b,b<w.heap.size→¬cx.O st μ b→¬cx.O (sset st hh k') μ b:=fun b _ hn ho=>hn ((hOO b).1 ho)
 obtain⟨hx,hbA,_⟩:=h.outF hh k b m c hk hm hc
 refine⟨{blk:=?_,injF:=?_,outF:=?_,pin:=?_,xlt:=h.xlt,hb:=by rw[hsz];exact h.hb,os:=hos.trans h.os,tape:=htape.trans h.tape,output:=hout.trans h.output,gl:=h.gl,keep:=?_},hkept,hOO⟩
 ·intro x k1 h1
  rcases sget_sset_iff hk h1 with ⟨rfl,rfl⟩ | ⟨hne,h1⟩
  ·rw[hm];exact hb _ fun x=>(hOO x).symm
  ·exact(h.blk x k1 h1).mono (fun b1 m1 hmx y hy=>hoth y fun e=>hne (h.injF x hh k1 k y b1 m1 b m h1 hk hmx hm hy (e▸hc))) hkept hO
 ·intro x x' k1 k2 y b1 m1 b2 m2 h1 h2
  have f:∀x k1,sget (sset st hh k') x=some k1→∃k1,sget st x=some k1:=fun x k1 h1=>by
   rcases sget_sset_iff hk h1 with ⟨rfl,rfl⟩ | ⟨_,h1⟩
   ·exact⟨k,hk⟩
   ·exact⟨_,h1⟩
  obtain⟨k1',h1'⟩:=f x k1 h1
  obtain⟨k2',h2'⟩:=f x' k2 h2
  exact h.injF x x' k1' k2' y b1 m1 b2 m2 h1' h2'
 ·intro x k1 b1 m1 y h1 h2 h3
  rw[hsz]
  rcases sget_sset_iff hk h1 with ⟨rfl,rfl⟩ | ⟨_,h1⟩
  ·exact let ⟨a1,a2,a3,a4⟩:=h.outF x k b1 m1 y hk h2 h3;⟨a1,a2,a3,fun hm=>a4 (hmine hm)⟩
  ·exact h.outF x k1 b1 m1 y h1 h2 h3
 ·intro x k1 h1 h2
  rcases sget_sset_iff hk h1 with ⟨rfl,rfl⟩ | ⟨_,h1⟩
  ·exact h.pin x k hk h2
  ·exact h.pin x k1 h1 h2
 ·intro b' hb1 hA
  rw[hoth b' (fun e=>by subst e;exact hbA.elim (fun h1=>by omega) (fun h1=>hA h1))]
  exact h.keep b' hb1 hA
theorem Rel.rewrite {μ:Mu}{a:Act}{w w':World}(h:Rel N cx μ s a w){hh:Nat}{k k':Blk}{b c:Nat}{m:Mm}(hk:sget s.st hh=some k) (hm:μ hh=some (b,m)) (hc:In c b m)
  (hsz:w'.heap.size=w.heap.size) (hoth:∀b',b'≠c→w'.heap[b']?=w.heap[b']?) (hos:w'.os=w.os) (htape:w'.tape=w.tape) (hout:w'.output=w.output) (hmine:k'.mine=true→k.mine=true)
  (hb:∀O',(∀x,cx.O s.st μ x↔O' x)→RelBlk O' cx.base w' μ k' (some (b,m))) (hW:W.contains hh=true):
  Rel N cx μ {fr:=s.fr,st:=sset s.st hh k',df:=s.df} a w'∧Step W s.st μ (sset s.st hh k') μ w w':=by
 obtain⟨h1,h2,h3⟩:=h.st.rewrite hk hm hc hsz hoth hos htape hout hmine hb
 refine⟨{st:=h1,nd:=h.nd.mono h2 (fun b _ hn ho=>hn ((h3 b).1 ho)),sz:=h.sz,fr:=fun t g hg=>?_},?_⟩
 ·obtain⟨v,hv,hr⟩:=h.fr t g hg
  exact⟨v,hv,hr.mono h2 (fun b _ hn ho=>hn ((h3 b).1 ho)) (Nat.le_refl _)⟩
 ·refine⟨by rw[hsz];exact Nat.le_refl _,fun b' _ hn=>hoth b' fun e=>?_,fun x k1 c1 m1 y hw h1 h2 hy=>?_⟩
  ·subst e
   exact hn hh k b m (by simpa using hW) hk hm hc
  ·rcases sget_sset_iff hk h1 with ⟨rfl,rfl⟩ | ⟨_,h1⟩
   ·exact .inl ⟨x,k,c1,m1,hw,hk,h2,hy⟩
   ·exact .inl ⟨x,k1,c1,m1,hw,h1,h2,hy⟩
theorem EF.famCell {t:TypeId}{x y:Operand}{h i off sz n:Nat}{k:Blk}{ety kty:TypeId}{rows:List (Nat×List G)}{gs:List G}{g g':G}{f:Bool}(hx:ev s x=some (.kp h i off)) (hy:ev s y=some g) (hk:sget s.st h=some k)
  (hl:k.lp=some (.deep (famDp ety kty sz rows))) (hi:rows[i]?=some (n,gs)) (hoff:off<gs.length) (hig:immG g=some (g',f)) (hone:g.one=true) (hsz:∀w,(sizeOf t).run P w=.ok 1 w) (hW:W.contains h=true):
  Effect P W s ⟨none,.store t x y,ty,pos,after,guard⟩ (·={fr:=s.fr,st:=sset s.st h {k with fresh:=k.fresh&&f,lp:=some (.deep (famDp ety kty sz (rows.set i (n,gs.set off g'))))},df:=s.df}):=by
 refine Effect.skip rfl (fun _ h=>by cases h) ?_
 intro N cx μ a w hr
 obtain⟨b,m,c,n',e1,hm,hc⟩:=hr.kp hx
 obtain⟨cs0,hf⟩:=hr.fam hk hl hm
 obtain⟨u,x',h1,h2,h3⟩:=hf.row i n gs hi
 rw[hc] at h2
 cases h2
 obtain⟨cap,cs,q1,q2,q3,q4,q5,q6,q7,q8⟩:=h3
 have hlen:off<cs.size:=by rw[q5,←q3];have:=Nat.mul_le_mul_right sz q2;omega
 have hv:=hr.ev hy
 have hvone:=hv.one hone
 have hcells:=oneCell_cells hvone
 have hrun:=run_storeCells_at P c off kty [a.eval y] 0 cs w q4 (by simp;omega) (fun v hv=>by simp at hv;subst hv;exact hvone)
 simp only[Nat.add_zero,List.length_cons,List.length_nil,Nat.zero_add] at hrun
 refine⟨μ,w.setRow c (cs.toList.take off++[a.eval y]++cs.toList.drop (off+1)).toArray,?_,?_⟩
 ·simp only[execOp,Instr.storeAt,Instr.sureAddr,e1,storeVar,hsz,Sem.run_bind,Sem.run_pure,Result.andThen_ok]
  rw[if_neg (by rw[hcells];simp)]
  rw[hcells]
  show((storeCells ⟨c,off,none⟩ [a.eval y] 0).run P w).andThen _=_
  rw[hrun]
  rfl
 ·have hset:(cs.toList.take off++[a.eval y]++cs.toList.drop (off+1)).toArray=cs.setIfInBounds off (a.eval y):=by
   apply Array.ext'
   rw[Array.toList_setIfInBounds,List.set_eq_take_append_cons_drop,if_pos (by rw[Array.length_toList];omega)]
   simp
  rw[hset]
  refine hr.rewrite (k':={k with fresh:=k.fresh&&f,lp:=some (.deep (famDp ety kty sz (rows.set i (n,gs.set off g'))))}) hk hm (.kid hc) (setRow_size _ _ _) (fun b' hb'=>setRow_other w c b' _ hb') rfl rfl rfl id (fun O' hO=>?_) hW
  have hb0:=hr.st.blk h k hk
  rw[hm] at hb0
  obtain⟨_,p2,p3,p4⟩:=(RelBlk.deep hl).1 hb0
  refine(RelBlk.deep (d:=famDp ety kty sz (rows.set i (n,gs.set off g'))) rfl).2 ⟨⟨cs0,?_⟩,p2,p3,p4⟩
  have hOk:∀x,(bif (k.fresh&&f) then Old O' cx.base else O') x→(bif k.fresh then Old (cx.O s.st μ) cx.base else cx.O s.st μ) x∨k.fresh=true∧x<cx.base:=by
   intro x hx
   cases hkf:k.fresh with
   | false=>rw[hkf] at hx;exact .inl ((hO x).2 hx)
   | true=>
    rw[hkf] at hx
    cases f with
    | true=>
     rcases hx with hx | hx
     ·exact .inr ⟨rfl,hx⟩
     ·exact .inl (.inr ((hO x).2 hx))
    | false=>exact .inl (.inr ((hO x).2 hx))
  have hOk':∀x,(bif (k.fresh&&f) then Old O' cx.base else O') x→(bif k.fresh then Old (cx.O s.st μ) cx.base else cx.O s.st μ) x:=by
   intro x hx
   rcases hOk x hx with h | ⟨h1,h2⟩
   ·exact h
   ·rw[h1];exact .inl h2
  have hkept:Kept (bif k.fresh then Old (cx.O s.st μ) cx.base else cx.O s.st μ) w (w.setRow c (cs.setIfInBounds off (a.eval y))):=by
   refine⟨by rw[setRow_size];exact Nat.le_refl _,fun b' _ hn=>setRow_other w c b' _ fun e=>hn ?_⟩
   subst e
   have:cx.O s.st μ b':=.inr ⟨h,k,b,m,hk,hm,.kid hc⟩
   cases k.fresh with
   | false=>exact this
   | true=>exact .inr this
  have hne:b≠c:=fun e=>(hf.root i c n' hc).1 e.symm
  refine {len:=by rw[List.length_set];exact hf.len,root:=fun i c k e=>⟨(hf.root i c k e).1,by rw[setRow_size];exact(hf.root i c k e).2⟩,inj:=hf.inj,heap:=(setRow_other w c b _ hne).trans hf.heap,size:=hf.size,le:=by rw[List.length_set];exact hf.le,max:=hf.max,row:=fun j nj gj hj=>?_}
  rw[List.getElem?_set] at hj
  split at hj
  ·rename_i e
   subst e
   split at hj
   ·cases hj
    refine⟨u,_,h1,hc,cap,cs.setIfInBounds off (a.eval y),q1,q2,q3,setRow_heap_same q4,by simp[q5],q6,by simp[q7],fun j g1 hg1=>?_⟩
    rw[List.getElem?_set] at hg1
    split at hg1
    ·rename_i hj
     subst hj
     cases hg1
     refine⟨a.eval y,by rw[Array.getElem?_setIfInBounds_self_of_lt hlen],?_⟩
     have:=immG_spec hv hig
     refine this.mono (w':=w.setRow c (cs.setIfInBounds off (a.eval y))) ⟨by rw[setRow_size];exact Nat.le_refl _,fun b' hb' hn=>setRow_other w c b' _ fun e=>hn ?_⟩ fun x _ hn hx=>hn ?_
     ·subst e
      have hown:cx.O s.st μ b':=.inr ⟨h,k,b,m,hk,hm,.kid hc⟩
      cases f with
      | false=>exact hown
      | true=>exact .inr hown
     ·cases f with
      | false=>rw[Bool.and_false] at hx;exact(hO x).2 hx
      | true=>
       rw[Bool.and_true] at hx
       cases hkf:k.fresh with
       | false=>rw[hkf] at hx;exact .inr ((hO x).2 hx)
       | true=>rw[hkf] at hx;exact hx.imp id (hO x).2
    ·rename_i hj
     obtain⟨v,hv1,hrv⟩:=q8 j g1 hg1
     refine⟨v,by rw[Array.getElem?_setIfInBounds_ne hj];exact hv1,hrv.mono hkept fun x _ hn hx=>hn (hOk' x hx)⟩
   ·cases hj
  ·rename_i hne'
   obtain⟨u',y',r1,r2,r3⟩:=hf.row j nj gj hj
   refine⟨u',y',r1,r2,r3.mono hkept (fun x _ hn hx=>hn (hOk' x hx)) fun c' k' e=>setRow_other w c c' _ fun e'=>?_⟩
   subst e'
   exact hne' (hf.inj i j c' n' k' hc (by rw[r2,e]))
end
section
variable {P:Program}{W:List Nat}{s:St}{dst:Option Nat}{ty:TypeId}{pos:String}{after:Array Edge}{guard:Option (Nat×Bool)}
theorem equal_ifc {t:TypeId}{v:Value}{b:Bool}{ms:_}(hb:ifcB v=some b) (ht:P.underlying t=some (.interface ms)) (w:World):(Op.equal t v .nilIface).run P w=.ok (!b) w:=by
 have h:∀d,(Op.equalIn (d+1) t v .nilIface).run P w=.ok (!b) w:=fun d=>by
  cases v <;> cases hb <;> simp[Op.equalIn,run_underlying ht]
 exact h 9999
theorem PY.ifcNil {op:BinOp}{t t':TypeId}{x:Operand}{b:Bool}{ms:_}(neg:Bool) (ho:op=bif neg then .neq else .eql) (hx:ev s x=some (.ifc b)∨ev s x=some (.fr (.ifc b))) (ht:P.underlying t=some (.interface ms)):
  PY P s ⟨dst,.binOp op t x (.const .nilIface) t',ty,pos,after,guard⟩ (.val (.bool (b==neg))):=fun _ _ _ a _ hrel=>by
 have hr:ifcB (a.eval x)=some b:=by
  rcases hx with hx | hx
  ·have hr:=hrel.ev hx
   generalize a.eval x=v at hr
   cases hr with
   | imm h=>cases h with
    | ifc _ _ hb=>exact hb
  ·have hr:=hrel.ev hx
   generalize a.eval x=v at hr
   cases hr with
   | imm h=>cases h
   | fr h=>cases h with
    | ifc _ _ hb=>exact hb
 refine⟨_,.imm (.val _),fun w'=>?_⟩
 generalize e1:a.eval x=v at hr
 have hb:=hr
 have he:=equal_ifc (P:=P) hb ht w'
 have e2:(eqGuard op t x (.const .nilIface) v .nilIface).run P w'=.ok () w':=by
  cases v <;> cases hb <;> cases neg <;> subst ho <;> simp[eqGuard]
 have e3:(binOp op t v .nilIface).run P w'=.ok (.bool (b==neg)) w':=by
  have h1:binOp .eql t v .nilIface=(do pure (.bool (←Op.equal t v .nilIface)):Sem Value):=by cases v <;> cases hb <;> rfl
  have h2:binOp .neq t v .nilIface=(do pure (.bool (!(←Op.equal t v .nilIface))):Sem Value):=by cases v <;> cases hb <;> rfl
  cases neg <;> subst ho <;> simp only[cond_true,cond_false,h1,h2,Sem.run_bind,he,Result.andThen_ok,Sem.run_pure] <;> cases b <;> rfl
 have e4:a.eval (.const .nilIface)=.nilIface:=rfl
 simp only[execOp,e1,e4,Sem.run_bind,e2,e3,Result.andThen_ok,Sem.run_pure]
end
end Go.AM
/-
 AM:what belongs to a block is told anew:slices of slices that are empty,that are handed over,that are written no more.
-/
namespace Go.AM
def unK (h:Nat):G→G
 | .kp x i off=>bif Nat.beq x h then .any else .kp x i off
 | .ks x i sz n=>bif Nat.beq x h then .any else .ks x i sz n
 | .agg gs=>.agg (go gs)
 | .tup gs=>.tup (go gs)
 | .clo f gs=>.clo f (go gs)
 | g=>g
where go:List G→List G
 | []=>[]
 | g::r=>unK h g::go r
theorem unK_go {h:Nat}{gs:List G}:(unK.go h gs).length=gs.length∧∀(j:Nat) (g':G),(unK.go h gs)[j]?=some g'→∃g,gs[j]?=some g∧g'=unK h g:=by
 induction gs with
 | nil=>exact⟨rfl,fun j g e=>by simp[unK.go] at e⟩
 | cons x r ih=>
  refine⟨by simp[unK.go,ih.1],fun j g' e=>?_⟩
  simp only[unK.go] at e
  cases j with
  | zero=>cases e;exact⟨x,rfl,rfl⟩
  | succ j=>exact ih.2 j g' e
def unKB (h:Nat) (k:Blk):Blk:=bif k.pure then k else {k with cells:=unK.go h k.cells}
def Rekid (μ μ':Mu) (h:Nat):Prop:=(∀y,y≠h→μ' y=μ y)∧match μ h with
 | none=>μ' h=none
 | some (b,m)=>∃m':Mm,μ' h=some (b,m')∧m'.1=m.1
theorem RepV.unK {O:Nat→Prop}{base:Nat}{w:World}{μ μ':Mu}{h:Nat}{g:G}{v:Value}(hv:RepV O base w μ g v) (hr:Rekid μ μ' h):RepV O base w μ' (AM.unK h g) v:=by
 have key:∀{y:Nat}{b:Nat}{m:Mm},μ y=some (b,m)→∃m':Mm,μ' y=some (b,m')∧m'.1=m.1:=by
  intro y b m hm
  by_cases e:y=h
  ·subst e
   have:=hr.2
   rw[hm] at this
   exact this
  ·exact⟨m,(hr.1 y e).trans hm,rfl⟩
 have imm:∀{g:G}{v:Value},RepI O w g v→RepV O base w μ' (AM.unK h g) v:=by
  intro g v hi
  induction hi with
  | any v=>exact .imm (.any v)
  | val v=>exact .imm (.val v)
  | ifc b v h=>exact .imm (.ifc b v h)
  | nil=>exact .imm .nil
  | emp a c=>exact .imm (.emp a c)
  | sl n cells b off cap us h1 h2 h3 h4 h5 ih=>exact .imm (.sl n cells b off cap us h1 h2 h3 h4 h5)
  | ptr cells b off us h1 h2 h3 h4 ih=>exact .imm (.ptr cells b off us h1 h2 h3 h4)
  | agg cells us hl hr ih=>
   refine .agg _ us (by rw[unK_go.1];exact hl) fun j g v hg hv=>?_
   obtain⟨g0,e1,rfl⟩:=unK_go.2 j g hg
   exact ih j g0 v e1 hv
 induction hv with
 | imm h=>exact imm h
 | fr h=>exact .fr h
 | loc x off b m hm=>obtain⟨m',e,_⟩:=key hm;exact .loc x off b m' e
 | onil x sz hm=>
  refine .onil x sz ?_
  by_cases e:x=h
  ·subst e
   have:=hr.2
   rw[hm] at this
   exact this
  ·exact(hr.1 x e).trans hm
 | osl x sz off n b m cap hm hn hc=>obtain⟨m',e,e1⟩:=key hm;exact .osl x sz off n b m' cap e hn (hc.trans e1.symm)
 | ozero x sz off0 b m hm hp=>
  obtain⟨⟨m',ks⟩,e,e1⟩:=key hm
  dsimp only at e1
  subst e1
  exact .ozero x sz off0 b m' e hp
 | yld x b m hm=>obtain⟨m',e,_⟩:=key hm;exact .yld x b m' e
 | mref x b m hm=>obtain⟨m',e,_⟩:=key hm;exact .mref x b m' e
 | kp x i off b m c n hm hk=>
  simp only[AM.unK]
  cases hb:Nat.beq x h with
  | true=>exact .imm (.any _)
  | false=>exact .kp x i off b m c n ((hr.1 x fun e=>by subst e;rw[Nat.beq_refl] at hb;cases hb).trans hm) hk
 | knil x i sz a cap hi=>
  simp only[AM.unK]
  cases hb:Nat.beq x h with
  | true=>exact .imm (.any _)
  | false=>exact .knil x i sz a cap hi
 | ks x i sz n b m c k cap hm hk hn hc=>
  simp only[AM.unK]
  cases hb:Nat.beq x h with
  | true=>exact .imm (.any _)
  | false=>exact .ks x i sz n b m c k cap ((hr.1 x fun e=>by subst e;rw[Nat.beq_refl] at hb;cases hb).trans hm) hk hn hc
 | agg cells us hl hr' ih=>
  refine .agg _ us (by rw[unK_go.1];exact hl) fun j g v hg hv=>?_
  obtain⟨g0,e1,rfl⟩:=unK_go.2 j g hg
  exact ih j g0 v e1 hv
 | tup cells us hl hr' ih=>
  refine .tup _ us (by rw[unK_go.1];exact hl) fun j g v hg hv=>?_
  obtain⟨g0,e1,rfl⟩:=unK_go.2 j g hg
  exact ih j g0 v e1 hv
 | clo f cells us hl hr' ih=>
  refine .clo f _ us (by rw[unK_go.1];exact hl) fun j g v hg hv=>?_
  obtain⟨g0,e1,rfl⟩:=unK_go.2 j g hg
  exact ih j g0 v e1 hv
theorem RelBlk.unK {O:Nat→Prop}{base:Nat}{w:World}{μ μ':Mu}{h:Nat}{k:Blk}{x:Option (Nat×Mm)}(hb:RelBlk O base w μ k x) (hr:Rekid μ μ' h):RelBlk O base w μ' (unKB h k) x:=by
 unfold unKB
 cases hp:k.pure with
 | true=>exact hb.remap fun hp'=>by rw[hp] at hp';cases hp'
 | false=>
  simp only[cond_false]
  cases x with
  | none=>
   obtain⟨h1,h2⟩:=hb
   refine⟨List.eq_nil_of_length_eq_zero (by simp only;rw[unK_go.1,h1];rfl),?_⟩
   dsimp only
   split at h2
   ·trivial
   ·exact h2.elim
   ·rw[hp] at h2;cases h2.2
  | some bm=>
   obtain⟨b,m⟩:=bm
   cases hl:k.lp with
   | none=>
    obtain⟨cs1,h4,h5,h6,h7,h8,h9⟩:=hb.cells hl
    refine .mk rfl (hb.nokid hl) ⟨cs1,h4,h5,by simp only;rw[unK_go.1];exact h6,h7,h8,fun j g hg=>?_⟩
    obtain⟨g0,e1,rfl⟩:=unK_go.2 j g hg
    obtain⟨v,hv,hrv⟩:=h9 j g0 e1
    refine⟨v,hv,?_⟩
    unfold RepC at hrv⊢
    rw[hp] at hrv
    simp only
    exact hrv.unK hr
   | some kd=>
    cases kd with
    | deep d=>have:=((RelBlk.deep hl).1 hb).2.1;rw[hp] at this;cases this
    | loop lp=>
     obtain⟨D,vs,q1,q2,q3,q4,q5⟩:=(RelBlk.loop hl).1 hb
     refine(RelBlk.loop rfl).2 ⟨D,vs,q1,q2,q3,rfl,fun j t g ht hg=>?_⟩
     obtain⟨g0,e1,rfl⟩:=unK_go.2 j g hg
     obtain⟨v,hv,hrv⟩:=q5 j t g0 ht e1
     exact⟨v,hv,hrv.unK hr⟩
section
variable {P:Program}{N:Nat}{cx:Cx}{s:St}{W:List Nat}
variable {ty:TypeId}{pos:String}{after:Array Edge}{guard:Option (Nat×Bool)}
end
end Go.AM
/-
 AM:slices of slices grow:one made of a slice of the call's own;one appended to another.
-/
namespace Go.AM
section
variable {P:Program}{N:Nat}{cx:Cx}{s:St}{W:List Nat}
theorem Step.andThen {st st1 st2:List (Nat×Blk)}{μ μ1 μ2:Mu}{w w1 w2:World}(h:Step W st μ st1 μ1 w w1) (h':Step W st1 μ1 st2 μ2 w1 w2):Step W st μ st2 μ2 w w2:=by
 refine⟨Nat.le_trans h.size h'.size,fun b hb hn=>(h'.block b (Nat.lt_of_lt_of_le hb h.size) fun x k c m hx hk hm hi=>?_).trans (h.block b hb hn),fun x k c m b hx hk hm hi=>?_⟩
 ·rcases h.hand x k c m b hx hk hm hi with ⟨h0,k0,c0,m0,q1,q2,q3,q4⟩ | h3
  ·exact hn h0 k0 c0 m0 q1 q2 q3 q4
  ·omega
 ·rcases h'.hand x k c m b hx hk hm hi with ⟨h0,k0,c0,m0,q1,q2,q3,q4⟩ | h3
  ·exact h.hand h0 k0 c0 m0 b q1 q2 q3 q4
  ·exact .inr (Nat.le_trans h.size h3)
theorem Effect.after {o:Oper}{s1 s2:St}(he:Effect P W s o (·=s1)) (hg:∀(N:Nat) (cx:Cx) (μ:Mu) (a:Act) (w:World),Rel N cx μ s1 a w→∃μ',Rel N cx μ' s2 a w∧Step W s1.st μ s2.st μ' w w):Effect P W s o (·=s2):=by
 refine⟨he.1,fun N cx μ a w hr hd K Q hK=>he.2 N cx μ a w hr hd K Q fun μ1 s' a' w' hr' e hst=>?_⟩
 subst e
 obtain⟨μ2,h1,h2⟩:=hg N cx μ1 a' w' hr'
 exact hK μ2 s2 a' w' h1 rfl (hst.andThen h2)
variable {ty:TypeId}{pos:String}{after:Array Edge}{guard:Option (Nat×Bool)}{d:Nat}
end
end Go.AM
/-
 AM:parts of a slice beyond its end,append within the same block.
-/
namespace Go.AM
section
variable {P:Program}{N:Nat}{cx:Cx}{s:St}{W:List Nat}
variable {dst:Option Tmp}{ty:TypeId}{pos:String}{after:Array Edge}{guard:Option (Nat×Bool)}{d:Nat}
theorem repV_part {O:Nat→Prop}{base:Nat}{w:World}{μ:Mu}{h sz off n i j:Nat}{v:Value}(hv:RepV O base w μ (.osl h sz off n) v) (h1:i≤j) (h2:j≤n):
  ∃(a:Option Addr) (cap:Nat),v=.slice a n cap∧n≤cap∧RepV O base w μ (.osl h sz (off+i*sz) (j-i)) (sliced a i j cap sz):=by
 cases hv with
 | imm hv=>cases hv
 | onil _ _ hm=>
  obtain rfl:i=0:=by omega
  obtain rfl:j=0:=by omega
  refine⟨none,0,rfl,Nat.le_refl _,?_⟩
  simp only[sliced,Nat.zero_mul,Nat.add_zero,if_true]
  exact .onil h sz hm
 | osl _ _ _ _ b m cap hm hn hc=>
  refine⟨_,cap,rfl,hn,?_⟩
  unfold sliced
  by_cases e:cap=i
  ·rw[if_pos e]
   have hj:j-i=0:=by omega
   have hci:cap-i=0:=by omega
   rw[hj,hci]
   by_cases hpos:0<m.1
   ·have:off+i*sz=m.1:=by rw[←e];exact hc
    rw[this]
    exact .ozero h sz off b m.1 hm hpos
   ·have h5:off=0:=by omega
    have h6:i*sz=0:=by rw[←e];omega
    rw[h5,h6]
    exact .osl h sz 0 0 b m 0 hm (Nat.le_refl _) (by omega)
  ·rw[if_neg e]
   simp only[Option.map_some,Addr.add_off]
   refine .osl h sz _ _ b m _ hm (by omega) ?_
   have:i*sz+(cap-i)*sz=cap*sz:=by rw[←Nat.add_mul];congr 1;omega
   omega
 | ozero _ _ off0 b m hm hpos=>
  obtain rfl:i=0:=by omega
  obtain rfl:j=0:=by omega
  refine⟨_,0,rfl,Nat.le_refl _,?_⟩
  simp only[sliced,Nat.zero_mul,Nat.add_zero,if_true]
  exact .ozero h sz off0 b _ hm hpos
theorem PY.sliceB {t e:TypeId}{x lo hi:Operand}{h sz off n i j:Nat}{k1 k2:IntKind}{k:Blk}(hx:ev s x=some (.osl h sz off n)) (hk:sget s.st h=some k) (hlp:k.lp=none) (hl:ev s lo=some (.val (.int k1 (i:Nat)))) (hh:ev s hi=some (.val (.int k2 (j:Nat))))
  (ht:P.underlying t=some (.slice e)) (hsz:∀w,(sizeOf e).run P w=.ok sz w) (hs0:0<sz) (h1:i≤j) (h2:off+j*sz≤k.cells.length):PY P s ⟨dst,.slice t x (some lo) (some hi) none,ty,pos,after,guard⟩ (.osl h sz (off+i*sz) (j-i)):=fun N cx μ a w hr=>by
 have hv:=hr.ev hx
 have he:P.underlying t=some (.slice (P.elem t)):=by unfold Program.elem;rw[ht]
 have e:P.elem t=e:=by unfold Program.elem;rw[ht]
 have key:∃(ad:Option Addr) (cap:Nat),a.eval x=.slice ad n cap∧j≤cap∧RepV (cx.O s.st μ) cx.base w μ (.osl h sz (off+i*sz) (j-i)) (sliced ad i j cap sz):=by
  generalize a.eval x=v at hv
  cases hv with
  | imm hv=>cases hv
  | onil _ _ hm=>
   have hb:=hr.st.blk h k hk
   rw[hm] at hb
   have hc:k.cells=[]:=hb.1
   rw[hc] at h2
   have hj:j=0:=by
    rcases Nat.eq_zero_or_pos j with h | h
    ·exact h
    ·have:=Nat.mul_le_mul_right sz h;simp at h2;omega
   subst hj
   obtain rfl:i=0:=by omega
   refine⟨none,0,rfl,Nat.le_refl _,?_⟩
   simp only[sliced,Nat.zero_mul,Nat.add_zero,if_true]
   exact .onil h sz hm
  | osl _ _ _ _ b m cap hm hn hc=>
   obtain⟨cs,q1,q2,q3,_⟩:=hr.own hk hm hlp
   have hjc:j≤cap:=by
    have:j*sz≤cap*sz:=by omega
    exact Nat.le_of_mul_le_mul_right this hs0
   have hv2:RepV (cx.O s.st μ) cx.base w μ (.osl h sz off cap) (.slice (some ⟨b,off,none⟩) cap cap):=.osl h sz off cap b m cap hm (Nat.le_refl _) hc
   obtain⟨ad,cap2,q4,q5,q6⟩:=Go.AM.repV_part hv2 h1 hjc
   cases q4
   exact⟨_,cap,rfl,hjc,q6⟩
  | ozero _ _ off0 b m hm hpos=>
   obtain⟨cs,q1,q2,q3,_⟩:=hr.own hk hm hlp
   have hj:j=0:=by
    rcases Nat.eq_zero_or_pos j with h | h
    ·exact h
    ·have:=Nat.mul_le_mul_right sz h
     simp only at q3
     omega
   subst hj
   obtain rfl:i=0:=by omega
   refine⟨_,0,rfl,Nat.le_refl _,?_⟩
   simp only[sliced,Nat.zero_mul,Nat.add_zero,if_true]
   exact .ozero h sz off0 b _ hm hpos
 obtain⟨ad,cap,e1,e2,e3⟩:=key
 refine⟨_,e3,fun w'=>?_⟩
 have hrun:=run_slice_lh w' t ad n cap he k1 k2 (i:Int) (j:Int) (by omega) (by omega) (by omega)
 rw[e,hsz w'] at hrun
 simp only[Int.toNat_natCast] at hrun
 simp[execOp,e1,hr.val hl,hr.val hh,run_sliceAt_slice _ _ _ _ _ _ he,hrun]
end
end Go.AM
/-
 AM:cells of an owned block written in a row:append within the block,clear.
-/
namespace Go.AM
section
variable {P:Program}{N:Nat}{cx:Cx}{s:St}{W:List Nat}
variable {ty:TypeId}{pos:String}{after:Array Edge}{guard:Option (Nat×Bool)}{d:Nat}
theorem Rel.over {μ:Mu}{a:Act}{w:World}(hr:Rel N cx μ s a w){h b:Nat}{m0:Mm}{k:Blk}{cs:Array Value}{p:Nat}{newsG:List G}{news:List Value}{f:Bool}(hk:sget s.st h=some k) (hm:μ h=some (b,m0)) (hlp:k.lp=none) (hp:k.pure=true)
  (hW:W.contains h=true) (hcs:w.heap[b]?=some (.cells cs k.ety (0,0))) (hl:news.length=newsG.length) (hfit:p+newsG.length≤k.cells.length)
  (hrep:∀(j:Nat) (g:G),newsG[j]?=some g→∃u,news[j]?=some u∧RepI (bif f then Old (cx.O s.st μ) cx.base else cx.O s.st μ) w g u):
  Rel N cx μ {fr:=s.fr,st:=sset s.st h {k with fresh:=k.fresh&&f,cells:=k.cells.take p++newsG++k.cells.drop (p+newsG.length)},df:=s.df} a (w.setRow b (cs.toList.take p++news++cs.toList.drop (p+news.length)).toArray)∧
   Step W s.st μ (sset s.st h {k with fresh:=k.fresh&&f,cells:=k.cells.take p++newsG++k.cells.drop (p+newsG.length)}) μ w (w.setRow b (cs.toList.take p++news++cs.toList.drop (p+news.length)).toArray):=by
 obtain⟨cs',h1,h2,h3,h4,h5,h6⟩:=hr.own hk hm hlp
 rw[hcs] at h1
 cases h1
 refine hr.write (k':={k with fresh:=k.fresh&&f,cells:=k.cells.take p++newsG++k.cells.drop (p+newsG.length)}) hk hm (setRow_heap_same hcs) (by
    simp only[List.size_toArray,List.length_append,List.length_take,List.length_drop,Array.length_toList];omega) (setRow_size _ _ _) (fun b' hb'=>setRow_other w b b' _ hb') rfl rfl rfl id (by
    simp only[List.length_append,List.length_take,List.length_drop];omega) h5 (by
    intro j g' hg'
    have hget:∀(j:Nat),(cs.toList.take p++news++cs.toList.drop (p+news.length)).toArray[j]?=if j<p then cs[j]? else if j<p+news.length then news[j-p]? else cs[j]?:=by
     intro j
     rw[List.getElem?_toArray,List.append_assoc,List.getElem?_append,List.length_take,Array.length_toList,Nat.min_eq_left (by omega:p≤cs.size)]
     split
     ·rename_i hj;rw[List.getElem?_take,if_pos hj,Array.getElem?_toList]
     ·rw[List.getElem?_append]
      split
      ·rename_i hj1 hj2;rw[if_pos (by omega)]
      ·rename_i hj1 hj2;rw[if_neg (by omega),List.getElem?_drop,Array.getElem?_toList];congr 1;omega
    dsimp only at hg'
    rw[List.append_assoc,List.getElem?_append,List.length_take,Nat.min_eq_left (by omega:p≤k.cells.length)] at hg'
    rw[hget]
    have old:∀{j:Nat}{g':G},k.cells[j]?=some g'→∃v,cs[j]?=some v∧RepC (cx.O s.st μ) cx.base w μ {k with fresh:=k.fresh&&f,cells:=k.cells.take p++newsG++k.cells.drop (p+newsG.length)} g' v:=by
     intro j g' hg'
     obtain⟨v,hv,hrv⟩:=h6 j g' hg'
     refine⟨v,hv,?_⟩
     unfold RepC at hrv⊢
     dsimp only at hrv⊢
     rw[hp] at hrv⊢
     exact hrv.flag (fun h=>by simp at h;exact h.1)
    split at hg'
    ·rename_i hj
     rw[if_pos hj]
     rw[List.getElem?_take,if_pos hj] at hg'
     exact old hg'
    ·rename_i hj
     rw[if_neg hj]
     rw[List.getElem?_append] at hg'
     split at hg'
     ·rename_i hj2
      rw[if_pos (by omega)]
      obtain⟨u,hu,hru⟩:=hrep _ g' hg'
      refine⟨u,hu,?_⟩
      unfold RepC
      dsimp only
      rw[hp]
      exact hru.flag (fun h=>by simp at h;exact h.2)
     ·rename_i hj2
      rw[if_neg (by omega)]
      rw[List.getElem?_drop] at hg'
      have:p+newsG.length+(j-p-newsG.length)=j:=by omega
      rw[this] at hg'
      exact old hg') W hW hlp
theorem zeroCells_get (z:Array Value) (n j:Nat) (v:Value) (h:(Builtin.zeroCells z n).toList[j]?=some v):∃i:Nat,z[i]?=some v:=by
 unfold Builtin.zeroCells at h
 simp only[Array.toList_map,Array.toList_range,List.getElem?_map,Option.map_eq_some_iff] at h
 obtain⟨q,h1,h2⟩:=h
 have hq:q<n*z.size:=by
  have:=List.mem_of_getElem? h1
  simpa using this
 have hz:0<z.size:=by
  rcases Nat.eq_zero_or_pos z.size with h | h
  ·rw[h,Nat.mul_zero] at hq;omega
  ·exact h
 have hlt:q%z.size<z.size:=Nat.mod_lt _ hz
 refine⟨q%z.size,?_⟩
 rw[←h2,Array.getElem?_eq_getElem hlt]
 simp[hlt]
theorem EF.clear {t e:TypeId}{x:Operand}{h sz off n:Nat}{k:Blk}{z:Value}(hx:ev s x=some (.osl h sz off n)) (hk:sget s.st h=some k) (hp:k.pure=true)
  (hfit:off+n*sz≤k.cells.length) (ht:P.underlying t=some (.slice e)) (hz:(P.info? e).map (·.zero)=some (some z)) (hzs:z.cells.size=sz) (hone:∀(i:Nat) (v:Value),z.cells[i]?=some v→v.oneCell'=true)
  (hW:W.contains h=true) (hlp:k.lp=none:=by rfl):
  Effect P W s ⟨none,.call ⟨.builtin .clear,#[x],#[t]⟩,ty,pos,after,guard⟩
   (fun s'=>s'={fr:=s.fr,st:=sset s.st h {k with fresh:=k.fresh&&true,cells:=k.cells.take off++(Builtin.zeroCells z.cells n).toList.map viewV++k.cells.drop (off+n*sz)},df:=s.df}∨
    (n=0∧s'=s)):=by
 refine⟨(fun _ h=>by cases h),?_⟩
 intro N cx μ a w hr hN K Q hK
 obtain⟨i,hi1,hi2⟩:=Option.map_eq_some_iff.1 hz
 have hv:=hr.ev hx
 have idle:∀(ad:Option Addr) (c:Nat),n=0→a.eval x=.slice ad 0 c→(Oper.wp P ⟨none,.call ⟨.builtin .clear,#[x],#[t]⟩,ty,pos,after,guard⟩ a w K Q):=by
  intro ad c hn0 hav
  unfold Oper.wp
  have:(execOp a.eval ⟨none,.call ⟨.builtin .clear,#[x],#[t]⟩,ty,pos,after,guard⟩).run P w=.ok (.value (.tuple #[])) w:=by
   cases ad <;> simp[execOp,resolve,invoke,builtin,Builtin.clear_,run_underlying ht,hav]
  rw[this]
  exact hK μ _ _ w hr (.inr ⟨hn0,rfl⟩) ⟨Nat.le_refl _,fun _ _ _=>rfl,fun x k1 c1 m1 b1 hw h1 h2 hi=>.inl ⟨x,k1,c1,m1,hw,h1,h2,hi⟩⟩
 generalize hav:a.eval x=v at hv
 cases hv with
 | imm h=>cases h
 | onil _ _ hm=>exact idle _ _ rfl hav
 | ozero _ _ off0 b _ hm hp0=>exact idle _ _ rfl hav
 | osl _ _ _ _ b m0 cap hm hn hc=>
  rcases Nat.eq_zero_or_pos n with hn0 | hn0
  ·subst hn0;exact idle _ _ rfl hav
  obtain⟨cs,h1,h2,h3,h4,h5,h6⟩:=hr.own hk hm hlp
  have hl:(Builtin.zeroCells z.cells n).toList.length=n*sz:=by rw[Array.length_toList,size_zeroCells,hzs]
  have hst:=run_storeCells_at P b off k.ety (Builtin.zeroCells z.cells n).toList 0 cs w h1 (by rw[hl];omega) (fun v hv=>by
   obtain⟨j,hj⟩:=List.mem_iff_getElem?.1 hv
   obtain⟨q,hq⟩:=zeroCells_get _ _ _ _ hj
   exact hone q v hq)
  simp only[Nat.add_zero] at hst
  obtain⟨n',rfl⟩:∃n',n=n'+1:=⟨n-1,by omega⟩
  have hzv:(zeroValue e).run P w=.ok z w:=by simp[zeroValue,typeInfo,hi1,hi2]
  unfold Oper.wp
  have:(execOp a.eval ⟨none,.call ⟨.builtin .clear,#[x],#[t]⟩,ty,pos,after,guard⟩).run P w=.ok (.value (.tuple #[])) (w.setRow b (cs.toList.take off++(Builtin.zeroCells z.cells (n'+1)).toList++cs.toList.drop (off+(Builtin.zeroCells z.cells (n'+1)).toList.length)).toArray):=by
   simp[execOp,resolve,invoke,builtin,Builtin.clear_,run_underlying ht,hav,hzv,-Array.length_toList]
   rw[hst]
   simp
  rw[this]
  have hwr:=hr.over (W:=W) (p:=off) (f:=true) (newsG:=(Builtin.zeroCells z.cells (n'+1)).toList.map viewV) (news:=(Builtin.zeroCells z.cells (n'+1)).toList) hk hm hlp hp hW h1 (by rw[List.length_map]) (by rw[List.length_map,hl];omega) (fun j g hg=>by
   rw[List.getElem?_map,Option.map_eq_some_iff] at hg
   obtain⟨u,hu,rfl⟩:=hg
   exact⟨u,hu,viewV_rep u⟩)
  rw[List.length_map,hl] at hwr
  rw[hl]
  exact hK μ _ _ _ hwr.1 (.inl rfl) hwr.2
end
end Go.AM
/-
 AM:slices that belong to a block of structs (or of slices),each nothing or with a block of its own:one is taken out,and put back.
-/
namespace Go.AM
def RowS (O:Nat→Prop) (w:World) (kty:TypeId) (sz:Nat) (n:Nat) (gs:List G) (u:Value) (x:Option (Nat×Nat)):Prop:=RowAt O w kty sz n gs u x∧(x=none→u=.slice none 0 0)
structure RowsAt (ety kty:TypeId) (sz z:Nat) (rows:List (Nat×List G)) (ho:Option Nat) (O:Nat→Prop) (w:World) (b:Nat) (m:Mm) (cs:Array Value):Prop where
 len:m.2.length=rows.length
 root:∀(i c k:Nat),m.2[i]?=some (some (c,k))→c≠b∧c<w.heap.size
 inj:∀(i j c k k':Nat),m.2[i]?=some (some (c,k))→m.2[j]?=some (some (c,k'))→i=j
 heap:w.heap[b]?=some (.cells cs ety (0,0))
 size:cs.size=m.1
 le:rows.length≤m.1
 max:m.1≤maxLen*z
 row:∀(i n:Nat) (gs:List G),rows[i]?=some (n,gs)→ho≠some i→∃u x,cs[i]?=some u∧m.2[i]?=some x∧RowS O w kty sz n gs u x
 hole:∀i,ho=some i→i<rows.length→m.2[i]?=some none
def rowsDp (ety kty:TypeId) (sz z:Nat) (rows:List (Nat×List G)) (ho:Option Nat):Dp where
 φ:=fun O w b m=>∃cs,RowsAt ety kty sz z rows ho O w b m cs
 emp:=rows=[]
 mono:=by
  rintro O O' w w' b m ⟨cs,h⟩ hk hO hb
  refine⟨cs,{len:=h.len,root:=fun i c k e=>⟨(h.root i c k e).1,Nat.lt_of_lt_of_le (h.root i c k e).2 hk.size⟩,inj:=h.inj,heap:=(hb b (.self _ _)).trans h.heap,size:=h.size,le:=h.le,max:=h.max,row:=fun i n gs e hn=>?_,hole:=h.hole}⟩
  obtain⟨u,x,h1,h2,h3,h4⟩:=h.row i n gs e hn
  exact⟨u,x,h1,h2,h3.mono hk hO fun c k e=>hb c (.kid (k:=k) (by rw[h2,e])),h4⟩
 shut:=by
  rintro O Z w w' b m ⟨cs,h⟩ hs _
  refine⟨cs,{len:=h.len,root:=fun i c k e=>⟨(h.root i c k e).1,by rw[hs.size];exact(h.root i c k e).2⟩,inj:=h.inj,heap:=hs.cells h.heap,size:=h.size,le:=h.le,max:=h.max,row:=fun i n gs e hn=>?_,hole:=h.hole}⟩
  obtain⟨u,x,h1,h2,h3,h4⟩:=h.row i n gs e hn
  exact⟨u,x,h1,h2,h3.shut hs,h4⟩
 live:=by
  rintro O w b m ⟨cs,h⟩ x hx
  rcases hx with rfl | ⟨n,hn⟩
  ·exact lt_of_heap h.heap
  ·obtain⟨i,hi⟩:=List.getElem?_of_mem hn
   exact(h.root i x n hi).2
section
variable {P:Program}{N:Nat}{cx:Cx}{s:St}{W:List Nat}
variable {ty:TypeId}{pos:String}{after:Array Edge}{guard:Option (Nat×Bool)}
theorem Rel.rows {μ:Mu}{a:Act}{w:World}(hr:Rel N cx μ s a w){h:Nat}{k:Blk}{ety kty:TypeId}{sz z:Nat}{rows:List (Nat×List G)}{ho:Option Nat}(hk:sget s.st h=some k) (hl:k.lp=some (.deep (rowsDp ety kty sz z rows ho))){b:Nat}{m:Mm}(hm:μ h=some (b,m)):
  ∃cs,RowsAt ety kty sz z rows ho (bif k.fresh then Old (cx.O s.st μ) cx.base else cx.O s.st μ) w b m cs:=by
 have:=hr.st.blk h k hk
 rw[hm] at this
 exact((RelBlk.deep hl).1 this).1
end
end Go.AM
/-
 AM:one of the slices of a block is taken out;one is put in.
-/
namespace Go.AM
section
variable {P:Program}{N:Nat}{cx:Cx}{s:St}{W:List Nat}
variable {ty:TypeId}{pos:String}{after:Array Edge}{guard:Option (Nat×Bool)}
end
end Go.AM
/-
 AM:arrays of numbers:an element's address,equality.
-/
namespace Go.AM
def eqI:List Int→List Int→Bool
 | [],[]=>true
 | x::xs,y::ys=>x==y&&eqI xs ys
 | _,_=>false
section
variable {P:Program}{s:St}{dst:Option Tmp}{ty:TypeId}{pos:String}{after:Array Edge}{guard:Option (Nat×Bool)}
theorem PY.indexArr {t e:TypeId}{x y:Operand}{h off n:Nat}{k:IntKind}{i:Int}(hx:ev s x=some (.loc h off)) (hy:ev s y=some (.val (.int k i))) (h0:0≤i) (hn:i<n) (ht:P.underlying t=some (.array n e)) (hsz:∀w,(sizeOf e).run P w=.ok 1 w):
  PY P s ⟨dst,.indexAddr t x y,ty,pos,after,guard⟩ (.loc h (i.toNat+off)):=fun _ cx μ a w hrel=>by
 have hv:=hrel.ev hx
 generalize e1:a.eval x=v at hv
 cases hv with
 | imm h=>cases h
 | loc _ _ b m hm=>
  refine⟨_,.loc h (i.toNat+off) b m hm,fun w'=>?_⟩
  simp[execOp,e1,hrel.val hy,Instr.indexAt,asIntOf,Instr.sureAddr,run_underlying ht,h0,hn,hsz,Addr.add_off,Nat.add_comm]
theorem run_eqInt {e:TypeId}{k k':IntKind}(he:P.underlying e=some (.int k')) (a b:Int) (d:Nat) (w:World):(Op.equalIn (d+1) e (.int k a) (.int k b)).run P w=.ok (a==b) w:=by
 simp[Op.equalIn,run_underlying he]
theorem run_cellPart {e:TypeId}(hag:∀w,(isAgg e).run P w=.ok false w){cs:Array Value}{i:Nat}{v:Value}(h:cs[i]?=some v) (w:World):(part e cs i).run P w=.ok v w:=by
 unfold part
 simp[hag,h]
theorem agg_int {e:TypeId}{k:IntKind}(he:P.underlying e=some (.int k)) (w:World):(isAgg e).run P w=.ok false w:=by
 simp[isAgg,underlying,he]
theorem run_eqArr {t e:TypeId}{n:Nat}{k k':IntKind}(ht:P.underlying t=some (.array n e)) (he:P.underlying e=some (.int k')) (hsz:∀w,(sizeOf e).run P w=.ok 1 w) (xs ys:List Int) (hx:xs.length=n) (hy:ys.length=n) (w:World):
  (Op.equal t (.agg (xs.map (Value.int k)).toArray) (.agg (ys.map (Value.int k)).toArray)).run P w=.ok (eqI xs ys) w:=by
 have key:∀d,(Op.equalIn (d+2) t (.agg (xs.map (Value.int k)).toArray) (.agg (ys.map (Value.int k)).toArray)).run P w=.ok (eqI xs ys) w:=fun d=>by
  rw[Op.equalIn]
  simp only[Sem.run_bind,run_underlying ht,Result.andThen_ok,hsz,Nat.mul_one]
  rw[Std.Legacy.Range.forIn_eq_forIn_range']
  have loop:∀(m i:Nat),i+m=n→Sem.run P (forIn (List.range' i m) ((none,()):Option Bool×Unit) fun i __s=>do
      let __do_lift ←part e (xs.map (Value.int k)).toArray i
      let __do_lift_1 ←part e (ys.map (Value.int k)).toArray i
      let __do_lift ←Op.equalIn (d+1) e __do_lift __do_lift_1
      if (!__do_lift)=true then pure (ForInStep.done (some false,())) else pure (ForInStep.yield (none,()))) w=.ok (if eqI (xs.drop i) (ys.drop i) then(none,()) else(some false,())) w:=by
   intro m
   induction m with
   | zero=>
    intro i h
    rw[List.drop_eq_nil_of_le (by omega),List.drop_eq_nil_of_le (by omega)]
    simp[eqI]
   | succ m ih=>
    intro i h
    have h1:i<xs.length:=by omega
    have h2:i<ys.length:=by omega
    have p1:=run_cellPart (P:=P) (agg_int he) (cs:=(xs.map (Value.int k)).toArray) (i:=i) (v:=.int k xs[i]) (by simp[h1]) w
    have p2:=run_cellPart (P:=P) (agg_int he) (cs:=(ys.map (Value.int k)).toArray) (i:=i) (v:=.int k ys[i]) (by simp[h2]) w
    rw[List.range'_succ,List.forIn_cons]
    simp only[Sem.run_bind,p1,p2,Result.andThen_ok,run_eqInt he]
    rw[List.drop_eq_getElem_cons h1,List.drop_eq_getElem_cons h2]
    simp only[eqI]
    by_cases hb:xs[i]=ys[i]
    ·have e1:(xs[i]==ys[i])=true:=by simpa using hb
     simp only[e1,Bool.not_true,Bool.false_eq_true,if_false,Sem.run_pure,Result.andThen_ok,Bool.true_and]
     exact ih (i+1) (by omega)
    ·have e1:(xs[i]==ys[i])=false:=by simpa using hb
     simp only[e1,Bool.not_false,if_true,Sem.run_pure,Result.andThen_ok,Bool.false_and,Bool.false_eq_true,if_false]
  have:=loop n 0 (by omega)
  simp only[List.drop_zero] at this
  have e0:([:n]:Std.Legacy.Range).size=n:=by simp[Std.Legacy.Range.size]
  rw[e0]
  show(Result.andThen (Sem.run P (forIn (List.range' 0 n 1) _ _) w) _)=_
  rw[this]
  cases eqI xs ys <;> simp
 exact key 9998
theorem PY.arrEq {t e t':TypeId}{n:Nat}{k k':IntKind}{x y:Operand}{xs ys:List Int}(hx:ev s x=some (.agg (xs.map fun a=>.val (.int k a)))) (hy:ev s y=some (.agg (ys.map fun a=>.val (.int k a)))) (ht:P.underlying t=some (.array n e)) (he:P.underlying e=some (.int k')) (hsz:∀w,(sizeOf e).run P w=.ok 1 w) (h1:xs.length=n) (h2:ys.length=n) (hgt:P.eqGuardType P.depth t=false):
  PY P s ⟨dst,.binOp .eql t x y t',ty,pos,after,guard⟩ (.val (.bool (eqI xs ys))):=fun N cx μ a w hr=>by
 have hv:∀{l:List Int}{v:Value},RepV (cx.O s.st μ) cx.base w μ (.agg (l.map fun a=>.val (.int k a))) v→v=.agg (l.map (Value.int k)).toArray:=by
  intro l v h
  have imm:∀{O:Nat→Prop}{us:List Value},us.length=(l.map fun a=>G.val (.int k a)).length→(∀(j:Nat) (g:G) (v:Value),(l.map fun a=>G.val (.int k a))[j]?=some g→us[j]?=some v→g=.val v)→us=l.map (Value.int k):=by
   intro O us hl hr
   apply List.ext_getElem (by simpa using hl)
   intro j h1 h2
   have hjl:j<l.length:=by simpa using h2
   have:=hr j (.val (.int k l[j])) us[j] (by simp[hjl]) (List.getElem?_eq_getElem h1)
   rw[←G.val.inj this]
   simp
  cases h with
  | imm h=>
   cases h with
   | agg cells us hl hr=>rw[imm (O:=cx.O s.st μ) hl fun j g v hg hv=>by
     have:=hr j g v hg hv
     rw[List.getElem?_map] at hg
     obtain⟨a,_,rfl⟩:=Option.map_eq_some_iff.1 hg
     cases this
     rfl]
  | agg cells us hl hr=>rw[imm (O:=cx.O s.st μ) hl fun j g v hg hv=>by
     have:=hr j g v hg hv
     rw[List.getElem?_map] at hg
     obtain⟨a,_,rfl⟩:=Option.map_eq_some_iff.1 hg
     cases this with
     | imm h=>cases h;rfl]
 have q1:=hv (hr.ev hx)
 have q2:=hv (hr.ev hy)
 refine⟨_,.imm (.val _),fun w'=>?_⟩
 have h:=run_eqArr (P:=P) (k:=k) ht he hsz xs ys h1 h2 w'
 have hg:(eqGuard .eql t x y (.agg (xs.map (Value.int k)).toArray) (.agg (ys.map (Value.int k)).toArray)).run P w'=.ok () w':=by simp[eqGuard,hgt]
 simp only[execOp,q1,q2,Sem.run_bind,hg,Result.andThen_ok]
 simp[binOp,h]
def scalEq:Value→Value→Option Bool
 | .int k a,.int k' b=>match decEq k k' with
  | isTrue _=>some (a==b)
  | isFalse _=>none
 | .bool a,.bool b=>some (a==b)
 | .string a,.string b=>some (a==b)
 | _,_=>none
def scalT (P:Program) (e:TypeId) (v:Value):Bool:=match P.underlying e with
 | some (.int _)=>match v with
  | .int _ _=>true
  | _=>false
 | some .bool=>match v with
  | .bool _=>true
  | _=>false
 | some .string=>match v with
  | .string _=>true
  | _=>false
 | _=>false
def eqFs (P:Program):List Field→List Value→List Value→Option Bool
 | [],_,_=>some true
 | f::r,us,vs=>match us[f.offset]?,vs[f.offset]? with
  | some u, some v => match f.name != "_" && (scalT P f.type u && scalT P f.type v) with
   | true=>match scalEq u v with
    | some b=>match eqFs P r us vs with
     | some c=>some (b&&c)
     | none=>none
    | none=>none
   | false=>none
  | _,_=>none
theorem scalT_agg {e:TypeId}{v:Value}(h:scalT P e v=true) (w:World):(isAgg e).run P w=.ok false w:=by
 unfold scalT at h
 split at h
 ·rename_i he;simp[isAgg,underlying,he]
 ·rename_i he;simp[isAgg,underlying,he]
 ·rename_i he;simp[isAgg,underlying,he]
 ·cases h
theorem run_eqScal {e:TypeId}{u v:Value}{b:Bool}(hu:scalT P e u=true) (hv:scalT P e v=true) (h:scalEq u v=some b) (d:Nat) (w:World):(Op.equalIn (d+1) e u v).run P w=.ok b w:=by
 unfold scalT at hu hv
 unfold scalEq at h
 split at h
 ·split at h
  ·rename_i e1 _
   subst e1
   cases h
   split at hu
   ·rename_i he;simp[Op.equalIn,run_underlying he]
   ·cases hu
   ·cases hu
   ·cases hu
  ·cases h
 ·cases h
  split at hu
  ·cases hu
  ·rename_i he;simp[Op.equalIn,run_underlying he]
  ·cases hu
  ·cases hu
 ·cases h
  split at hu
  ·cases hu
  ·cases hu
  ·rename_i he;simp[Op.equalIn,run_underlying he]
  ·cases hu
 ·cases h
theorem run_eqSt {t:TypeId}{fs:Array Field}{us vs:List Value}{b:Bool}(ht:P.underlying t=some (.struct fs)) (hs:P.stoodInHeld t=false) (h:eqFs P fs.toList us vs=some b) (w:World):
  (Op.equal t (.agg us.toArray) (.agg vs.toArray)).run P w=.ok b w:=by
 have key:∀d,(Op.equalIn (d+2) t (.agg us.toArray) (.agg vs.toArray)).run P w=.ok b w:=fun d=>by
  rw[Op.equalIn]
  simp only[Sem.run_bind,run_underlying ht,Result.andThen_ok]
  have loop:∀(l:List Field) (b:Bool),eqFs P l us vs=some b→Sem.run P (forIn l ((none,()):Option Bool×Unit) fun f __s=>
     if f.name ≠ "_" then do
      let __do_lift ←part f.type us.toArray f.offset
      let __do_lift_1 ←part f.type vs.toArray f.offset
      let __do_lift ←Op.equalIn (d+1) f.type __do_lift __do_lift_1
      if (!__do_lift)=true then pure (ForInStep.done (some false,())) else pure (ForInStep.yield (none,()))
     else pure (ForInStep.yield (none,()))) w=.ok (if b then(none,()) else(some false,())) w:=by
   intro l
   induction l with
   | nil=>intro b h;cases h;simp
   | cons f r ih=>
    intro b h
    simp only[eqFs] at h
    split at h
    ·rename_i u v hu hv
     split at h
     ·rename_i hc
      simp only[Bool.and_eq_true,bne_iff_ne,ne_eq] at hc
      obtain⟨c0,c1,c2⟩:=hc
      split at h
      ·rename_i b1 hb1
       split at h
       ·rename_i c hc
        cases h
        have p1:=run_cellPart (P:=P) (scalT_agg c1) (cs:=us.toArray) (i:=f.offset) (v:=u) (by simpa using hu) w
        have p2:=run_cellPart (P:=P) (scalT_agg c2) (cs:=vs.toArray) (i:=f.offset) (v:=v) (by simpa using hv) w
        rw[List.forIn_cons]
        simp only[c0,ne_eq,not_false_eq_true,if_true,Sem.run_bind,p1,p2,Result.andThen_ok,run_eqScal c1 c2 hb1]
        cases b1 with
        | false=>simp
        | true=>
         simp only[Bool.not_true,Bool.false_eq_true,if_false,Sem.run_pure,Result.andThen_ok,Bool.true_and]
         exact ih c hc
       ·cases h
      ·cases h
     ·cases h
    ·cases h
  have:=loop fs.toList b h
  rw[show Sem.run P program w=.ok P w from rfl]
  simp only[Result.andThen_ok,hs,Bool.false_eq_true,if_false,Sem.run_bind]
  rw[Array.forIn_toList] at this
  rw[this]
  cases b <;> simp
 exact key 9998
theorem agg_vals {O:Nat→Prop}{base:Nat}{μ:Mu}{w:World}{l:List Value}{v:Value}(h:RepV O base w μ (.agg (l.map .val)) v):v=.agg l.toArray:=by
 have imm:∀{us:List Value},us.length=(l.map G.val).length→(∀(j:Nat) (g:G) (v:Value),(l.map G.val)[j]?=some g→us[j]?=some v→g=.val v)→us=l:=by
  intro us hl hr
  apply List.ext_getElem (by simpa using hl)
  intro j h1 h2
  have:=hr j (.val l[j]) us[j] (by simp[h2]) (List.getElem?_eq_getElem h1)
  rw[←G.val.inj this]
 cases h with
 | imm h=>
  cases h with
  | agg cells us hl hr=>rw[imm hl fun j g v hg hv=>by
    have:=hr j g v hg hv
    rw[List.getElem?_map] at hg
    obtain⟨a,_,rfl⟩:=Option.map_eq_some_iff.1 hg
    cases this
    rfl]
 | agg cells us hl hr=>rw[imm hl fun j g v hg hv=>by
    have:=hr j g v hg hv
    rw[List.getElem?_map] at hg
    obtain⟨a,_,rfl⟩:=Option.map_eq_some_iff.1 hg
    cases this with
    | imm h=>cases h;rfl]
theorem PY.stEq {t t':TypeId}{x y:Operand}{us vs:List Value}{fs:Array Field}{b:Bool}(hx:ev s x=some (.agg (us.map .val))) (hy:ev s y=some (.agg (vs.map .val))) (ht:P.underlying t=some (.struct fs)) (hs:P.stoodInHeld t=false) (hgt:P.eqGuardType P.depth t=false) (hb:eqFs P fs.toList us vs=some b):
  PY P s ⟨dst,.binOp .eql t x y t',ty,pos,after,guard⟩ (.val (.bool b))∧PY P s ⟨dst,.binOp .neq t x y t',ty,pos,after,guard⟩ (.val (.bool (!b))):=by
 have h:=run_eqSt (P:=P) ht hs hb
 constructor
 ·intro N cx μ a w hr
  have q1:=agg_vals (hr.ev hx)
  have q2:=agg_vals (hr.ev hy)
  refine⟨_,.imm (.val _),fun w'=>?_⟩
  have hg:(eqGuard .eql t x y (.agg us.toArray) (.agg vs.toArray)).run P w'=.ok () w':=by simp[eqGuard,hgt]
  simp only[execOp,q1,q2,Sem.run_bind,hg,Result.andThen_ok]
  simp[binOp,h]
 ·intro N cx μ a w hr
  have q1:=agg_vals (hr.ev hx)
  have q2:=agg_vals (hr.ev hy)
  refine⟨_,.imm (.val _),fun w'=>?_⟩
  have hg:(eqGuard .neq t x y (.agg us.toArray) (.agg vs.toArray)).run P w'=.ok () w':=by simp[eqGuard,hgt]
  simp only[execOp,q1,q2,Sem.run_bind,hg,Result.andThen_ok]
  simp[binOp,h]
end
end Go.AM
