/-
  DN, second half.
-/
import Derived.Test.YtaobkpnecfcefaaDoorMgG
set_option linter.unusedSectionVars false
set_option linter.unusedSimpArgs false
set_option linter.unusedVariables false
/-
 DN,part O:what a loop or a join carries.
-/
namespace Go.DN
open Go.AM
inductive Sh where
 | dat (f:Bool) (τ:Ty)
 | ptr (f:Bool) (τ:Ty)
 | own (h:Nat) (τ:Ty)
 | loc (h off:Nat)
 | clo (f:FuncId) (l:List Sh)
 | agg (l:List Sh)
 | yld (h:Nat)
 | mp (h:Nat)
 | any
 | cloN
 | sub (h:Nat) (τ:Ty)
 | kpo (h:Nat) (τ:Ty)
 | ks (h:Nat) (τ:Ty)
 | lpo (h off:Nat)
inductive Oh where
 | arr (e:TypeId) (m f:Bool) (τ:Ty)
 | box (e:TypeId) (m:Bool) (cs:List Sh)
 | lp (key:Nat) (lv:Bool) (cs:List Sh)
 | deep (e:TypeId) (m f:Bool) (dk:Dk) (τ:Ty)
structure JH where
 slots:List (Nat×Sh)
 objs:List (Nat×Oh)
mutual
def Sh.tys:Sh→List Ty
 | .dat _ τ=>[τ]
 | .ptr _ τ=>[τ]
 | .own _ _=>[]
 | .loc _ _=>[]
 | .clo _ l=>shTys l
 | .agg l=>shTys l
 | .yld _=>[]
 | .mp _=>[]
 | .any=>[]
 | .cloN=>[.int .i64]
 | .sub _ _=>[.int .i64,.int .i64]
 | .kpo _ _=>[.bool,.int .i64,.int .i64]
 | .ks _ _=>[.int .i64,.int .i64]
 | .lpo _ _=>[.bool]
def shTys:List Sh→List Ty
 | []=>[]
 | x::r=>x.tys++shTys r
end
def Oh.tys:Oh→List Ty
 | .arr _ _ _ τ=>[.list τ]
 | .box _ _ cs=>shTys cs
 | .lp _ lv cs=>match lv with
  | true=>.int .i64::shTys cs
  | false=>shTys cs
 | .deep _ _ _ _ τ=>[τ]
def slotTys:List (Nat×Sh)→List Ty
 | []=>[]
 | (_,x)::r=>x.tys++slotTys r
def objTys:List (Nat×Oh)→List Ty
 | []=>[]
 | (_,x)::r=>x.tys++objTys r
def JH.tys (j:JH):List Ty:=slotTys j.slots++objTys j.objs
@[reducible] def tup (α:Nat→Type):List Ty→Type
 | []=>Unit
 | [t]=>t.den α
 | t::r=>t.den α×tup α r
section
variable {S:Sig}
def tupOf:(ts:List Ty)→List (Leaf S.α)→Option (tup S.α ts)
 | [],[]=>some ()
 | [t],[x]=>castT x.τ t x.a
 | t::u::r,x::xs=>match castT x.τ t x.a with
  | some a=>match tupOf (u::r) xs with
   | some b=>some (a,b)
   | none=>none
  | none=>none
 | _,_=>none
def leaves:(ts:List Ty)→tup S.α ts→List (Leaf S.α)
 | [],_=>[]
 | [t],q=>[⟨t,q⟩]
 | t::u::r,q=>⟨t,q.1⟩::leaves (u::r) q.2
theorem leaves_tupOf:∀{ts:List Ty}{xs:List (Leaf S.α)}{q:tup S.α ts},tupOf ts xs=some q→leaves ts q=xs
 | [],[],_,_=>rfl
 | [t],[x],q,h=>by
  obtain⟨τ,a⟩:=x
  have:=castT_some h
  show[(⟨t,q⟩:Leaf S.α)]=_
  rw[this]
 | t::u::r,x::xs,q,h=>by
  simp only[tupOf] at h
  split at h
  ·rename_i a h1
   split at h
   ·rename_i b h2
    cases h
    show(⟨t,a⟩:Leaf S.α)::leaves (u::r) b=_
    rw[leaves_tupOf h2]
    obtain⟨τ,a'⟩:=x
    rw[castT_some h1]
   ·cases h
  ·cases h
 | [],_::_,_,h=>by cases h
 | [_],[],_,h=>by cases h
 | [_],_::_::_,_,h=>by simp[tupOf] at h
 | _::_::_,[],_,h=>by cases h
mutual
def packV:Sh→TV S→Option (List (Leaf S.α))
 | .dat f τ,v=>match tas τ v with
  | some (f',a)=>match !f||f' with
   | true=>some [⟨τ,a⟩]
   | false=>none
  | none=>none
 | .ptr f τ,v=>match v with
  | .ptr f' τ' a=>match !f||f' with
   | true=>match castT τ' τ a with
    | some b=>some [⟨τ,b⟩]
    | none=>none
   | false=>none
  | _=>none
 | .own h τ,v=>match v with
  | .osl h' τ'=>match Nat.beq h' h with
   | true=>match decEq τ' τ with
    | isTrue _=>some []
    | isFalse _=>none
   | false=>none
  | _=>none
 | .loc h o,v=>match v with
  | .loc h' o'=>match Nat.beq h' h&&Nat.beq o' o with
   | true=>some []
   | false=>none
  | _=>none
 | .clo f l,v=>match v with
  | .clo f' vs=>match Nat.beq f' f with
   | true=>packC l vs
   | false=>none
  | _=>none
 | .agg l,v=>match v with
  | .agg vs=>packC l vs
  | _=>none
 | .yld h,v=>match v with
  | .yld h'=>match Nat.beq h' h with
   | true=>some []
   | false=>none
  | _=>none
 | .mp h,v=>match v with
  | .mp h'=>match Nat.beq h' h with
   | true=>some []
   | false=>none
  | _=>none
 | .any,_=>some []
 | .cloN,v=>match v with
  | .clo f []=>some [⟨.int .i64,(f:Int)⟩]
  | _=>none
 | .sub h τ,v=>match v with
  | .sub h' τ' o n=>match Nat.beq h' h with
   | true=>match decEq τ' τ with
    | isTrue _=>some [⟨.int .i64,(o:Int)⟩,⟨.int .i64,(n:Int)⟩]
    | isFalse _=>none
   | false=>none
  | _=>none
 | .ks h τ,v=>match v with
  | .ks h' τ' z n=>match Nat.beq h' h with
   | true=>match decEq τ' τ with
    | isTrue _=>some [⟨.int .i64,(z:Int)⟩,⟨.int .i64,(n:Int)⟩]
    | isFalse _=>none
   | false=>none
  | _=>none
 | .lpo h o,v=>match v with
  | .val (.pointer none)=>some [⟨.bool,true⟩]
  | .loc h' o'=>match Nat.beq h' h&&Nat.beq o' o with
   | true=>some [⟨.bool,false⟩]
   | false=>none
  | .lpo b h' o'=>match Nat.beq h' h&&Nat.beq o' o with
   | true=>some [⟨.bool,b⟩]
   | false=>none
  | _=>none
 | .kpo h τ,v=>match v with
  | .val (.pointer none)=>some [⟨.bool,true⟩,⟨.int .i64,(0:Int)⟩,⟨.int .i64,(0:Int)⟩]
  | .kp h' τ' i j=>match Nat.beq h' h with
   | true=>match decEq τ' τ with
    | isTrue _=>some [⟨.bool,false⟩,⟨.int .i64,(i:Int)⟩,⟨.int .i64,(j:Int)⟩]
    | isFalse _=>none
   | false=>none
  | .kpo b h' τ' i j=>match Nat.beq h' h with
   | true=>match decEq τ' τ with
    | isTrue _=>some [⟨.bool,b⟩,⟨.int .i64,(i:Int)⟩,⟨.int .i64,(j:Int)⟩]
    | isFalse _=>none
   | false=>none
  | _=>none
def packC:List Sh→List (TV S)→Option (List (Leaf S.α))
 | [],[]=>some []
 | sh::r,v::vs=>match packV sh v with
  | some xs=>match packC r vs with
   | some ys=>some (xs++ys)
   | none=>none
  | none=>none
 | _,_=>none
end
mutual
def fillV:Sh→List (Leaf S.α)→TV S×List (Leaf S.α)
 | .dat f _,ls=>match ls with
  | x::r=>(.dat f x.τ x.a,r)
  | []=>(.any,[])
 | .ptr f _,ls=>match ls with
  | x::r=>(.ptr f x.τ x.a,r)
  | []=>(.any,[])
 | .own h τ,ls=>(.osl h τ,ls)
 | .loc h o,ls=>(.loc h o,ls)
 | .clo f l,ls=>(.clo f (fillC l ls).1,(fillC l ls).2)
 | .agg l,ls=>(.agg (fillC l ls).1,(fillC l ls).2)
 | .yld h,ls=>(.yld h,ls)
 | .mp h,ls=>(.mp h,ls)
 | .any,ls=>(.any,ls)
 | .cloN,ls=>match ls with
  | ⟨.int _,a⟩::r=>(.clo (Int.toNat a) [],r)
  | r=>(.any,r)
 | .sub h τ,ls=>match ls with
  | ⟨.int _,a⟩::⟨.int _,b⟩::r=>(.sub h τ (Int.toNat a) (Int.toNat b),r)
  | r=>(.any,r)
 | .ks h τ,ls=>match ls with
  | ⟨.int _,a⟩::⟨.int _,b⟩::r=>(.ks h τ (Int.toNat a) (Int.toNat b),r)
  | r=>(.any,r)
 | .lpo h o,ls=>match ls with
  | ⟨.bool,b⟩::r=>(.lpo b h o,r)
  | r=>(.any,r)
 | .kpo h τ,ls=>match ls with
  | ⟨.bool,b⟩::⟨.int _,i⟩::⟨.int _,j⟩::r=>(.kpo b h τ (Int.toNat i) (Int.toNat j),r)
  | r=>(.any,r)
def fillC:List Sh→List (Leaf S.α)→List (TV S)×List (Leaf S.α)
 | [],ls=>([],ls)
 | sh::r,ls=>((fillV sh ls).1::(fillC r (fillV sh ls).2).1,(fillC r (fillV sh ls).2).2)
end
theorem RW.any (g:G):RW g .any:=fun _ _ _ _ _ _=>.imm (.any _)
theorem RW.clo {f:FuncId}{gs gs':List G}(hl:gs'.length=gs.length) (h:∀(j:Nat) (g':G),gs'[j]?=some g'→∃g,gs[j]?=some g∧RW g g'):RW (.clo f gs) (.clo f gs'):=by
 intro O base w μ v hv
 cases hv with
 | imm hv=>cases hv
 | clo _ _ us h1 h2=>exact .clo f _ us (h1.trans hl.symm) fun j g' v hg' hv=>(by
   obtain⟨g,hg,hw⟩:=h j g' hg'
   exact hw _ _ _ _ _ (h2 j g v hg hv))
theorem RW.dat (f f':Bool) (τ:Ty) (a:S.D τ) (hc:(!f||f')=true):RW (datG f' τ a) (datG f τ a):=by
 cases f with
 | true=>
  have:f'=true:=by simpa using hc
  subst this
  exact RW.refl _
 | false=>
  unfold datG
  split
  ·rename_i n a
   refine RW.agg (by simp) fun j g' hg'=>?_
   rw[List.getElem?_map] at hg'⊢
   obtain⟨g,hg,rfl⟩:=Option.map_eq_some_iff.1 hg'
   exact⟨_,by rw[hg];rfl,RW.frB _ _ _ (fun e=>by cases e)⟩
  ·exact RW.frB _ _ _ (fun e=>by cases e)
theorem RW.ptrT (f f':Bool) (τ:Ty) (a:S.D τ) (hc:(!f||f')=true):RW (ptrG f' τ a) (ptrG f τ a):=by
 cases f with
 | true=>
  have:f'=true:=by simpa using hc
  subst this
  exact RW.refl _
 | false=>
  cases f' with
  | false=>exact RW.refl _
  | true=>exact RW.unfr (.ptr (encT S τ a))
theorem go_rw {ln:Nat→Nat}{vs vs':List (TV S)}(hl:vs'.length=vs.length) (h:∀(j:Nat) (v':TV S),vs'[j]?=some v'→∃v,vs[j]?=some v∧RW (v.er ln) (v'.er ln)):
  (TV.er.go ln vs').length=(TV.er.go ln vs).length∧∀(j:Nat) (g':G),(TV.er.go ln vs')[j]?=some g'→∃g,(TV.er.go ln vs)[j]?=some g∧RW g g':=by
 rw[er_go,er_go]
 refine⟨by simp[hl],fun j g' hg'=>?_⟩
 rw[List.getElem?_map] at hg'
 obtain⟨v',h1,rfl⟩:=Option.map_eq_some_iff.1 hg'
 obtain⟨v,h2,h3⟩:=h j v' h1
 exact⟨v.er ln,by rw[List.getElem?_map,h2];rfl,h3⟩
mutual
theorem packV_ok (ln:Nat→Nat):∀{sh:Sh}{v:TV S}{xs:List (Leaf S.α)},packV sh v=some xs→∀(r:List (Leaf S.α)),(fillV sh (xs++r)).2=r∧RW (v.er ln) ((fillV sh (xs++r)).1.er ln)
 | .dat f τ,v,xs,h,r=>by
  simp only[packV] at h
  split at h
  ·rename_i f' a ha
   split at h
   ·rename_i hc
    cases h
    exact⟨rfl,(tas_ok ha ln).trans (RW.dat _ _ _ _ hc)⟩
   ·cases h
  ·cases h
 | .ptr f τ,v,xs,h,r=>by
  simp only[packV] at h
  split at h
  ·rename_i f' τ' a
   split at h
   ·rename_i hc
    split at h
    ·rename_i b hb
     cases h
     have:=castT_some hb
     cases this
     exact⟨rfl,RW.ptrT _ _ _ _ hc⟩
    ·cases h
   ·cases h
  ·cases h
 | .own h0 τ,v,xs,h,r=>by
  simp only[packV] at h
  split at h
  ·split at h
   ·rename_i hb
    split at h
    ·rename_i e _
     cases h
     subst e
     have:=Nat.eq_of_beq_eq_true hb
     subst this
     exact⟨rfl,RW.refl _⟩
    ·cases h
   ·cases h
  ·cases h
 | .loc h0 o,v,xs,h,r=>by
  simp only[packV] at h
  split at h
  ·split at h
   ·rename_i hb
    simp only[Bool.and_eq_true] at hb
    cases h
    have e1:=Nat.eq_of_beq_eq_true hb.1
    have e2:=Nat.eq_of_beq_eq_true hb.2
    subst e1;subst e2
    exact⟨rfl,RW.refl _⟩
   ·cases h
  ·cases h
 | .clo f l,v,xs,h,r=>by
  simp only[packV] at h
  split at h
  ·rename_i f' vs
   split at h
   ·rename_i hb
    have e:=Nat.eq_of_beq_eq_true hb
    subst e
    obtain⟨i1,i2,i3⟩:=packC_ok ln h r
    obtain⟨j1,j2⟩:=go_rw i2 i3
    exact⟨i1,RW.clo j1 j2⟩
   ·cases h
  ·cases h
 | .agg l,v,xs,h,r=>by
  simp only[packV] at h
  split at h
  ·rename_i vs
   obtain⟨i1,i2,i3⟩:=packC_ok ln h r
   obtain⟨j1,j2⟩:=go_rw i2 i3
   exact⟨i1,RW.agg j1 j2⟩
  ·cases h
 | .yld h0,v,xs,h,r=>by
  simp only[packV] at h
  split at h
  ·split at h
   ·rename_i hb
    cases h
    have:=Nat.eq_of_beq_eq_true hb
    subst this
    exact⟨rfl,RW.refl _⟩
   ·cases h
  ·cases h
 | .mp h0,v,xs,h,r=>by
  simp only[packV] at h
  split at h
  ·split at h
   ·rename_i hb
    cases h
    have:=Nat.eq_of_beq_eq_true hb
    subst this
    exact⟨rfl,RW.refl _⟩
   ·cases h
  ·cases h
 | .any,v,xs,h,r=>by
  simp only[packV] at h
  cases h
  exact⟨rfl,RW.any _⟩
 | .cloN,v,xs,h,r=>by
  simp only[packV] at h
  split at h
  ·cases h
   exact⟨rfl,RW.refl _⟩
  ·cases h
 | .sub h0 τ,v,xs,h,r=>by
  simp only[packV] at h
  split at h
  ·split at h
   ·rename_i hb
    split at h
    ·rename_i e _
     cases h
     subst e
     have:=Nat.eq_of_beq_eq_true hb
     subst this
     exact⟨rfl,RW.refl _⟩
    ·cases h
   ·cases h
  ·cases h
 | .ks h0 τ,v,xs,h,r=>by
  simp only[packV] at h
  split at h
  ·split at h
   ·rename_i hb
    split at h
    ·rename_i e _
     cases h
     subst e
     have:=Nat.eq_of_beq_eq_true hb
     subst this
     exact⟨rfl,RW.refl _⟩
    ·cases h
   ·cases h
  ·cases h
 | .lpo h0 o,v,xs,h,r=>by
  simp only[packV] at h
  split at h
  ·cases h
   exact⟨rfl,RW.refl _⟩
  ·split at h
   ·rename_i hb
    rw[Bool.and_eq_true] at hb
    cases h
    have e1:=Nat.eq_of_beq_eq_true hb.1
    have e2:=Nat.eq_of_beq_eq_true hb.2
    subst e1;subst e2
    exact⟨rfl,RW.refl _⟩
   ·cases h
  ·split at h
   ·rename_i hb
    rw[Bool.and_eq_true] at hb
    cases h
    have e1:=Nat.eq_of_beq_eq_true hb.1
    have e2:=Nat.eq_of_beq_eq_true hb.2
    subst e1;subst e2
    exact⟨rfl,RW.refl _⟩
   ·cases h
  ·cases h
 | .kpo h0 τ,v,xs,h,r=>by
  simp only[packV] at h
  split at h
  ·cases h
   exact⟨rfl,RW.refl _⟩
  ·split at h
   ·rename_i hb
    split at h
    ·rename_i e _
     cases h
     subst e
     have:=Nat.eq_of_beq_eq_true hb
     subst this
     exact⟨rfl,RW.refl _⟩
    ·cases h
   ·cases h
  ·split at h
   ·rename_i hb
    split at h
    ·rename_i e _
     cases h
     subst e
     have:=Nat.eq_of_beq_eq_true hb
     subst this
     exact⟨rfl,RW.refl _⟩
    ·cases h
   ·cases h
  ·cases h
theorem packC_ok (ln:Nat→Nat):∀{l:List Sh}{vs:List (TV S)}{xs:List (Leaf S.α)},packC l vs=some xs→∀(r:List (Leaf S.α)),(fillC l (xs++r)).2=r∧(fillC l (xs++r)).1.length=vs.length∧
  ∀(j:Nat) (v':TV S),(fillC l (xs++r)).1[j]?=some v'→∃v,vs[j]?=some v∧RW (v.er ln) (v'.er ln)
 | [],[],xs,h,r=>by simp only[packC] at h;cases h;exact⟨rfl,rfl,fun j v' h=>by cases h⟩
 | sh::l,v::vs,xs,h,r=>by
  simp only[packC] at h
  split at h
  ·rename_i x1 h1
   split at h
   ·rename_i ys h2
    cases h
    rw[List.append_assoc]
    obtain⟨e1,e2⟩:=packV_ok ln h1 (ys++r)
    obtain⟨i1,i2,i3⟩:=packC_ok ln h2 r
    simp only[fillC]
    rw[e1]
    refine⟨i1,by simp[i2],fun j v' hj=>?_⟩
    cases j with
    | zero=>cases hj;exact⟨v,rfl,e2⟩
    | succ j=>exact i3 j v' hj
   ·cases h
  ·cases h
 | [],_::_,_,h,_=>by simp[packC] at h
 | _::_,[],_,h,_=>by simp[packC] at h
end
def packF (fr:List (Nat×TV S)):List (Nat×Sh)→Option (List (Leaf S.α))
 | []=>some []
 | (d,sh)::r=>match tget fr d with
  | some v=>match packV sh v with
   | some xs=>match packF fr r with
    | some ys=>some (xs++ys)
    | none=>none
   | none=>none
  | none=>none
def fillF:List (Nat×Sh)→List (Leaf S.α)→List (Nat×TV S)×List (Leaf S.α)
 | [],ls=>([],ls)
 | (d,sh)::r,ls=>((d,(fillV sh ls).1)::(fillF r (fillV sh ls).2).1,(fillF r (fillV sh ls).2).2)
theorem packF_ok {fr:List (Nat×TV S)}(ln:Nat→Nat):∀{l:List (Nat×Sh)}{xs:List (Leaf S.α)},packF fr l=some xs→∀(r:List (Leaf S.α)),(fillF l (xs++r)).2=r∧
  ∀d v',tget (fillF l (xs++r)).1 d=some v'→∃v,tget fr d=some v∧RW (v.er ln) (v'.er ln)
 | [],xs,h,r=>by cases h;exact⟨rfl,fun d v' h=>by cases h⟩
 | (d0,sh)::l,xs,h,r=>by
  simp only[packF] at h
  split at h
  ·rename_i v hv
   split at h
   ·rename_i x1 h1
    split at h
    ·rename_i ys h2
     cases h
     rw[List.append_assoc]
     obtain⟨e1,e2⟩:=packV_ok ln h1 (ys++r)
     obtain⟨i1,i2⟩:=packF_ok ln h2 r
     simp only[fillF]
     rw[e1]
     refine⟨i1,fun d v' hd=>?_⟩
     simp only[tget] at hd
     cases hb:Nat.beq d0 d with
     | true=>
      rw[hb] at hd
      cases hd
      have:=Nat.eq_of_beq_eq_true hb
      subst this
      exact⟨v,hv,e2⟩
     | false=>rw[hb] at hd;exact i2 d v' hd
    ·cases h
   ·cases h
  ·cases h
def famScal:Ty→Bool
 | .list (.list t)=>t.scal
 | .map=>true
 | _=>false
def packB (oh:Oh) (o:TO S):Option (List (Leaf S.α)):=
 match oh with
 | .arr e m f τ=>match o with
  | .arr e' m' f' τ' l=>match Nat.beq e' e&&((!m||m')&&(!f||(f'||τ'.scal))) with
   | true=>match castT (.list τ') (.list τ) l with
    | some l=>some [⟨.list τ,l⟩]
    | none=>none
   | false=>none
  | _=>none
 | .box e m cs=>match o with
  | .box e' m' vs=>match Nat.beq e' e&&(!m||m') with
   | true=>packC cs vs
   | false=>none
  | _=>none
 | .lp key lv cs=>match o with
  | .lp key' n vs=>match Nat.beq key' key with
   | true=>match lv with
    | true=>match packC cs vs with
     | some xs=>some (⟨.int .i64,n⟩::xs)
     | none=>none
    | false=>match decEq n 0 with
     | isTrue _=>packC cs vs
     | isFalse _=>none
   | false=>none
  | _=>none
 | .deep e m f dk τ=>match o with
  | .deep e' m' f' dk' τ' a=>match Nat.beq e' e&&((!m||m')&&(!f||(f'||famScal τ'))) with
   | true=>match decEq dk' dk with
    | isTrue _=>match castT τ' τ a with
     | some a=>some [⟨τ,a⟩]
     | none=>none
    | isFalse _=>none
   | false=>none
  | _=>none
def fillB (oh:Oh) (ls:List (Leaf S.α)):TO S×List (Leaf S.α):=
 match oh with
 | .arr e m f _=>match ls with
  | ⟨.list τ,l⟩::r=>(.arr e m f τ l,r)
  | r=>(.box e m [],r)
 | .box e m cs=>(.box e m (fillC cs ls).1,(fillC cs ls).2)
 | .lp key lv cs=>match lv with
  | true=>match ls with
   | ⟨.int _,n⟩::r=>(.lp key n (fillC cs r).1,(fillC cs r).2)
   | r=>(.box 0 false [],r)
  | false=>(.lp key 0 (fillC cs ls).1,(fillC cs ls).2)
 | .deep e m f dk _=>match ls with
  | x::r=>(.deep e m f dk x.τ x.a,r)
  | r=>(.box e m [],r)
theorem go_RW {st st':List (Nat×Blk)}{vs vs':List (TV S)}(ln ln':Nat→Nat) (hl:vs'.length=vs.length) (h:∀(j:Nat) (v':TV S),vs'[j]?=some v'→∃v,vs[j]?=some v∧CV st st' (v.er ln) (v'.er ln')):CVL st st' (TV.er.go ln vs) (TV.er.go ln' vs'):=by
 rw[er_go,er_go]
 refine⟨by simp[hl],fun j g' hg'=>?_⟩
 rw[List.getElem?_map] at hg'
 obtain⟨v',h1,rfl⟩:=Option.map_eq_some_iff.1 hg'
 obtain⟨v,h2,h3⟩:=h j v' h1
 exact⟨v.er ln,by rw[List.getElem?_map,h2];rfl,h3⟩
theorem flat_vals {τ:Ty}(hs:τ.scal=true):∀(l:List (S.D τ)) (g:G),g∈List.flatMap (encT S τ) l→∃v,g=.val v
 | l,g,hg=>by
  obtain⟨a,_,hg⟩:=List.mem_flatMap.1 hg
  cases τ with
  | int _=>exact⟨_,List.mem_singleton.1 hg⟩
  | bool=>exact⟨_,List.mem_singleton.1 hg⟩
  | str=>exact⟨_,List.mem_singleton.1 hg⟩
  | list _=>cases hs
  | st _=>cases hs
  | map=>cases hs
  | ifc=>cases hs
theorem famScal_any (dk:Dk) (e:TypeId){τ:Ty}(hs:famScal τ=true) (a:S.D τ) (O O':Nat→Prop) (w:World) (b:Nat) (m:Mm) (h:(dk.dp e τ a).φ O w b m):(dk.dp e τ a).φ O' w b m:=by
 cases dk with
 | fam kty=>
  obtain⟨cs,h⟩:=h
  refine⟨cs,{len:=h.len,root:=h.root,inj:=h.inj,heap:=h.heap,size:=h.size,le:=h.le,max:=h.max,row:=fun i n gs hi=>?_}⟩
  obtain⟨u,x,h1,h2,h3⟩:=h.row i n gs hi
  refine⟨u,x,h1,h2,?_⟩
  cases x with
  | none=>exact h3
  | some ck=>
   obtain⟨cap,cs',q1,q2,q3,q4,q5,q6,q7,q8⟩:=h3
   refine⟨cap,cs',q1,q2,q3,q4,q5,q6,q7,fun j g hg=>?_⟩
   obtain⟨v,hv,hr⟩:=q8 j g hg
   refine⟨v,hv,?_⟩
   cases τ with
   | list t=>cases t with
    | list t=>
     have hi:(List.map (fun l=>(List.length l,List.flatMap (encT S t) l)) a)[i]?=some (n,gs):=hi
     rw[List.getElem?_map] at hi
     obtain⟨l,_,e⟩:=Option.map_eq_some_iff.1 hi
     cases e
     obtain⟨u,rfl⟩:=flat_vals (τ:=t) hs l g (List.mem_of_getElem? hg)
     cases hr
     exact .val _
    | _=>cases hs
   | map=>
    have hi:([]:List (Nat×List G))[i]?=some (n,gs):=hi
    simp at hi
   | _=>cases hs
 | rows kty ho=>
  obtain⟨cs,h⟩:=h
  have hno:(rowsT τ a).2.2=[]:=by
   cases τ with
   | list t=>cases t with
    | list t=>rfl
    | _=>cases hs
   | map=>rfl
   | _=>cases hs
  refine⟨cs,{len:=h.len,root:=h.root,inj:=h.inj,heap:=h.heap,size:=h.size,le:=h.le,max:=h.max,row:=fun i n gs hi _=>?_,hole:=h.hole}⟩
  rw[hno] at hi
  cases hi
 | map q kty tty=>
  have h:MapAt q kty tty (mapOf τ a).n ((mapOf τ a).es.map (MEnt.me q)) (pdG q (mapOf τ a).pd) O w b m:=h
  show MapAt q kty tty (mapOf τ a).n ((mapOf τ a).es.map (MEnt.me q)) (pdG q (mapOf τ a).pd) O' w b m
  have val:∀(l:List Int) (j:Nat) (g:G) (v:Value),(intG q l)[j]?=some g→RepI O w g v→RepI O' w g v:=by
   intro l j g v hg hr
   unfold intG at hg
   rw[List.getElem?_map] at hg
   obtain⟨x,_,rfl⟩:=Option.map_eq_some_iff.1 hg
   cases hr
   exact .val _
  refine {len:=h.len,lim:=h.lim,siz:=h.siz,heap:=h.heap,root:=h.root,tch:=fun e he=>?_,inj:=h.inj,pnd:=fun sr x gs hp=>?_}
  ·obtain⟨c,cs,h1,h2,h3,h4⟩:=h.tch e he
   refine⟨c,cs,h1,h2,h3,fun j p hp=>?_⟩
   obtain⟨u,h5,h6⟩:=h4 j p hp
   refine⟨u,h5,?_⟩
   obtain⟨e0,_,rfl⟩:=List.mem_map.1 he
   have hp:(e0.f.map fun p=>(p.1,intG q p.2))[j]?=some p:=hp
   rw[List.getElem?_map] at hp
   obtain⟨p0,_,rfl⟩:=Option.map_eq_some_iff.1 hp
   refine h6.imp id fun ⟨h0,c',k',r1,cap,cs',q1,q2,q3,q4,q5,q6,q7,q8⟩=>⟨h0,c',k',r1,cap,cs',q1,q2,q3,q4,q5,q6,q7,fun j g hg=>?_⟩
   obtain⟨v,hv,hr⟩:=q8 j g hg
   exact⟨v,hv,val _ _ _ _ hg hr⟩
  ·obtain⟨h0,⟨c,k,cs,h1,h2,h3,h4,h5,h6⟩,h7⟩:=h.pnd sr x gs hp
   refine⟨h0,⟨c,k,cs,h1,h2,h3,h4,h5,fun i g hg=>?_⟩,h7⟩
   obtain⟨v,hv,hr⟩:=h6 i g hg
   refine⟨v,hv,?_⟩
   cases hd:(mapOf τ a).pd with
   | none=>rw[hd] at hp;cases hp
   | some p=>
    obtain⟨sr',x',l⟩:=p
    rw[hd] at hp
    cases hp
    exact val _ _ _ _ hg hr
theorem bimp {a b:Bool}(h:(!a||b)=true) (ha:a=true):b=true:=by subst ha;simpa using h
theorem packB_ok {st st':List (Nat×Blk)}{oh:Oh}{o:TO S}{xs:List (Leaf S.α)}(h:packB oh o=some xs) (ln:Nat→Nat) (r:List (Leaf S.α)):(fillB oh (xs++r)).2=r∧(fillB oh (xs++r)).1.len=o.len∧BCV st st' (o.er ln) ((fillB oh (xs++r)).1.er ln):=by
 unfold packB at h
 split at h
 ·split at h
  ·split at h
   ·rename_i hc
    simp only[Bool.and_eq_true] at hc
    obtain⟨c1,c2,c3⟩:=hc
    split at h
    ·rename_i l' hl
     cases h
     obtain⟨e,hl⟩:=castT_list hl
     subst e
     cases hl
     have c1:=Nat.eq_of_beq_eq_true c1
     subst c1
     refine⟨rfl,rfl,rfl,bimp c2,rfl,rfl,rfl,rfl,.inl ⟨rfl,rfl,fun hf=>?_⟩⟩
     have c4:=bimp c3 hf
     rw[Bool.or_eq_true] at c4
     exact c4.imp id fun hs=>.inl ⟨rfl,flat_vals hs _⟩
    ·cases h
   ·cases h
  ·cases h
 ·split at h
  ·split at h
   ·rename_i hc
    simp only[Bool.and_eq_true] at hc
    have c1:=Nat.eq_of_beq_eq_true hc.1
    have c2:=hc.2
    subst c1
    obtain⟨i1,i2,i3⟩:=packC_ok ln h r
    refine⟨i1,rfl,rfl,bimp c2,rfl,rfl,rfl,?_,.inr ⟨rfl,?_⟩⟩
    ·show(TV.er.go ln _).length=(TV.er.go ln _).length
     rw[er_go,er_go,List.length_map,List.length_map,i2]
    ·exact(go_RW ln ln i2 fun j v' hj=>let ⟨v,h1,h2⟩:=i3 j v' hj;⟨v,h1,CV.rw h2⟩).2
   ·cases h
  ·cases h
 ·split at h
  ·split at h
   ·rename_i hc
    have c1:=Nat.eq_of_beq_eq_true hc
    subst c1
    split at h
    ·split at h
     ·rename_i xs' hx
      cases h
      obtain⟨i1,i2,i3⟩:=packC_ok ln hx r
      refine⟨i1,rfl,rfl,id,rfl,rfl,rfl,?_,.inr ⟨rfl,?_⟩⟩
      ·show(TV.er.go ln _).length=(TV.er.go ln _).length
       rw[er_go,er_go,List.length_map,List.length_map]
       exact i2
      ·exact(go_RW ln ln i2 fun j v' hj=>let ⟨v,h1,h2⟩:=i3 j v' hj;⟨v,h1,CV.rw h2⟩).2
     ·cases h
    ·split at h
     ·rename_i hn _
      subst hn
      obtain⟨i1,i2,i3⟩:=packC_ok ln h r
      refine⟨i1,rfl,rfl,id,rfl,rfl,rfl,?_,.inr ⟨rfl,?_⟩⟩
      ·show(TV.er.go ln _).length=(TV.er.go ln _).length
       rw[er_go,er_go,List.length_map,List.length_map,i2]
      ·exact(go_RW ln ln i2 fun j v' hj=>let ⟨v,h1,h2⟩:=i3 j v' hj;⟨v,h1,CV.rw h2⟩).2
     ·cases h
   ·cases h
  ·cases h
 ·split at h
  ·rename_i e' m' f' dk' τ' a
   split at h
   ·rename_i hc
    simp only[Bool.and_eq_true] at hc
    obtain⟨c1,c2,c3⟩:=hc
    split at h
    ·rename_i e1 _
     subst e1
     split at h
     ·rename_i a' ha
      cases h
      cases castT_some ha
      have c1:=Nat.eq_of_beq_eq_true c1
      subst c1
      refine⟨rfl,rfl,rfl,bimp c2,rfl,rfl,rfl,rfl,.inl ⟨rfl,rfl,fun hf=>?_⟩⟩
      have c4:=bimp c3 hf
      rw[Bool.or_eq_true] at c4
      exact c4.imp id fun hs=>.inr ⟨_,rfl,fun O O' w b m=>famScal_any _ _ hs _ O O' w b m⟩
     ·cases h
    ·cases h
   ·cases h
  ·cases h
def packS (st:List (Nat×TO S)):List (Nat×Oh)→Option (List (Leaf S.α))
 | []=>some []
 | (h,oh)::r=>match oget st h with
  | some o=>match packB oh o with
   | some xs=>match packS st r with
    | some ys=>some (xs++ys)
    | none=>none
   | none=>none
  | none=>none
def fillS:List (Nat×Oh)→List (Leaf S.α)→List (Nat×TO S)×List (Leaf S.α)
 | [],ls=>([],ls)
 | (h,oh)::r,ls=>((h,(fillB oh ls).1)::(fillS r (fillB oh ls).2).1,(fillS r (fillB oh ls).2).2)
theorem packS_ok {st:List (Nat×TO S)}(ln:Nat→Nat) (gst gst':List (Nat×Blk)):∀{l:List (Nat×Oh)}{xs:List (Leaf S.α)},packS st l=some xs→∀(r:List (Leaf S.α)),(fillS l (xs++r)).2=r∧
  (∀h,(∃o',oget (fillS l (xs++r)).1 h=some o')∨(oget (fillS l (xs++r)).1 h=none∧h∉l.map (·.1)))∧
  ∀h o',oget (fillS l (xs++r)).1 h=some o'→∃o,oget st h=some o∧o'.len=o.len∧BCV gst gst' (o.er ln) (o'.er ln)
 | [],xs,h,r=>by
  cases h
  refine⟨rfl,fun h=>.inr (And.intro rfl (fun e=>nomatch e)),fun d v' h=>nomatch h⟩
 | (h0,oh)::l,xs,h,r=>by
  simp only[packS] at h
  split at h
  ·rename_i o ho
   split at h
   ·rename_i x1 h1
    split at h
    ·rename_i ys h2
     cases h
     rw[List.append_assoc]
     obtain⟨e1,e2,e3⟩:=packB_ok (st:=gst) (st':=gst') h1 ln (ys++r)
     obtain⟨i1,i2,i3⟩:=packS_ok ln gst gst' h2 r
     simp only[fillS]
     rw[e1]
     refine⟨i1,fun h=>?_,fun h o' hd=>?_⟩
     ·simp only[oget]
      cases hb:Nat.beq h0 h with
      | true=>exact .inl ⟨_,rfl⟩
      | false=>
       rcases i2 h with h3 | ⟨h3,h4⟩
       ·exact .inl h3
       ·refine .inr ⟨h3,?_⟩
        simp only[List.map_cons,List.mem_cons,not_or]
        exact⟨fun e=>(by subst e;rw[Nat.beq_refl] at hb;cases hb),h4⟩
     ·simp only[oget] at hd
      cases hb:Nat.beq h0 h with
      | true=>
       rw[hb] at hd
       cases hd
       have:=Nat.eq_of_beq_eq_true hb
       subst this
       exact⟨o,ho,e2,e3⟩
      | false=>rw[hb] at hd;exact i3 h o' hd
    ·cases h
   ·cases h
  ·cases h
end
end Go.DN
/-
 DN,part P:into a loop or a join,and out of it.
-/
namespace Go.DN
open Go.AM
section
variable {S:Sig}
def TV.bad (ks:List Nat):TV S→Bool
 | .osl h _=>!(memN h ks)
 | .agg l=>go ks l
 | .tup l=>go ks l
 | .clo _ l=>go ks l
 | _=>false
where go (ks:List Nat):List (TV S)→Bool
 | []=>false
 | x::r=>x.bad ks||go ks r
mutual
theorem er_good {ln ln':Nat→Nat}{ks:List Nat}(h:∀k,k∈ks→ln k=ln' k):∀v:TV S,v.bad ks=false→v.er ln=v.er ln'
 | .dat f τ a,_=>rfl
 | .ptr f τ a,_=>rfl
 | .agg l,e=>congrArg G.agg (er_goodL h l e)
 | .tup l,e=>congrArg G.tup (er_goodL h l e)
 | .clo f l,e=>congrArg (G.clo f) (er_goodL h l e)
 | .loc _ _,_=>rfl
 | .elt _ _ _ _,_=>rfl
 | .osl k τ,e=>congrArg (G.osl k (S.sz τ) 0) (h k (memN_iff.1 (by simpa[TV.bad] using e)))
 | .sub _ _ _ _,_=>rfl
 | .yld _,_=>rfl
 | .mp _,_=>rfl
 | .ks _ _ _ _,_=>rfl
 | .kp _ _ _ _,_=>rfl
 | .kpo _ _ _ _ _,_=>rfl
 | .lpo _ _ _,_=>rfl
 | .val _,_=>rfl
 | .any,_=>rfl
theorem er_goodL {ln ln':Nat→Nat}{ks:List Nat}(h:∀k,k∈ks→ln k=ln' k):∀l:List (TV S),TV.bad.go ks l=false→TV.er.go ln l=TV.er.go ln' l
 | [],_=>rfl
 | x::r,e=>by
  simp only[TV.bad.go,Bool.or_eq_false_iff] at e
  simp only[TV.er.go]
  rw[er_good h x e.1,er_goodL h r e.2]
end
def TO.bad (ks:List Nat):TO S→Bool
 | .box _ _ cs=>TV.bad.go ks cs
 | .arr ..=>false
 | .lp _ _ cs=>TV.bad.go ks cs
 | .deep ..=>false
theorem TO.er_good {ln ln':Nat→Nat}{ks:List Nat}(h:∀k,k∈ks→ln k=ln' k) (o:TO S) (e:o.bad ks=false):o.er ln=o.er ln':=by
 cases o with
 | box e' m cs=>simp only[TO.er];rw[er_goodL h cs e]
 | arr e' m f τ l=>rfl
 | lp p n cs=>simp only[TO.er];rw[er_goodL h cs e]
 | deep=>rfl
def dropK {α:Type}(D:List Nat):List (Nat×α)→List (Nat×α)
 | []=>[]
 | x::r=>match memN x.1 D with
  | true=>dropK D r
  | false=>x::dropK D r
theorem tget_dropK {D:List Nat}:∀{fr:List (Nat×TV S)}{d:Nat},tget (dropK D fr) d=match memN d D with | true=>none | false=>tget fr d
 | [],d=>by simp only[dropK,tget];cases memN d D <;> rfl
 | (t,v)::r,d=>by
  simp only[dropK]
  cases hb:Nat.beq t d with
  | true=>
   have:=Nat.eq_of_beq_eq_true hb
   subst this
   cases hm:memN t D with
   | true=>simp only;rw[tget_dropK,hm]
   | false=>simp only[tget,hb,cond_true]
  | false=>
   cases hm:memN t D with
   | true=>simp only;rw[tget_dropK];simp only[tget,hb,cond_false]
   | false=>simp only[tget,hb,cond_false];exact tget_dropK
theorem oget_dropK {D:List Nat}:∀{st:List (Nat×TO S)}{d:Nat},oget (dropK D st) d=match memN d D with | true=>none | false=>oget st d
 | [],d=>by simp only[dropK,oget];cases memN d D <;> rfl
 | (t,v)::r,d=>by
  simp only[dropK]
  cases hb:Nat.beq t d with
  | true=>
   have:=Nat.eq_of_beq_eq_true hb
   subst this
   cases hm:memN t D with
   | true=>simp only;rw[oget_dropK,hm]
   | false=>simp only[oget,hb,cond_true]
  | false=>
   cases hm:memN t D with
   | true=>simp only;rw[oget_dropK];simp only[oget,hb,cond_false]
   | false=>simp only[oget,hb,cond_false];exact oget_dropK
mutual
def Sh.owns:Sh→List Nat
 | .dat _ _=>[]
 | .ptr _ _=>[]
 | .own h _=>[h]
 | .loc _ _=>[]
 | .clo _ l=>shOwns l
 | .agg l=>shOwns l
 | .yld _=>[]
 | .mp _=>[]
 | .any=>[]
 | .cloN=>[]
 | .sub _ _=>[]
 | .kpo _ _=>[]
 | .lpo _ _=>[]
 | .ks _ _=>[]
def shOwns:List Sh→List Nat
 | []=>[]
 | x::r=>x.owns++shOwns r
end
def slotOwns:List (Nat×Sh)→List Nat
 | []=>[]
 | (_,x)::r=>x.owns++slotOwns r
def Oh.owns:Oh→List Nat
 | .arr ..=>[]
 | .box _ _ cs=>shOwns cs
 | .lp _ _ cs=>shOwns cs
 | .deep ..=>[]
def objOwns:List (Nat×Oh)→List Nat
 | []=>[]
 | (_,x)::r=>x.owns++objOwns r
mutual
theorem fillV_good (ks:List Nat):∀(sh:Sh) (ls:List (Leaf S.α)),(∀k,k∈sh.owns→k∈ks)→(fillV sh ls).1.bad ks=false
 | .dat f τ,ls,_=>by cases ls <;> rfl
 | .ptr f τ,ls,_=>by cases ls <;> rfl
 | .own k τ,ls,h=>by
  show(!(memN k ks))=false
  rw[memN_iff.2 (h k (by simp[Sh.owns]))];rfl
 | .loc _ _,ls,_=>rfl
 | .clo f l,ls,h=>fillC_good ks l ls h
 | .agg l,ls,h=>fillC_good ks l ls h
 | .yld _,ls,_=>rfl
 | .mp _,ls,_=>rfl
 | .any,ls,_=>rfl
 | .lpo _ _,ls,_=>by
  simp only[fillV]
  split <;> rfl
 | .cloN,ls,_=>by
  simp only[fillV]
  split <;> rfl
 | .sub _ _,ls,_=>by
  simp only[fillV]
  split <;> rfl
 | .ks _ _,ls,_=>by
  simp only[fillV]
  split <;> rfl
 | .kpo _ _,ls,_=>by
  simp only[fillV]
  split <;> rfl
theorem fillC_good (ks:List Nat):∀(l:List Sh) (ls:List (Leaf S.α)),(∀k,k∈shOwns l→k∈ks)→TV.bad.go ks (fillC l ls).1=false
 | [],_,_=>rfl
 | sh::r,ls,hk=>by
  simp only[fillC,TV.bad.go,fillV_good ks sh ls fun k hk'=>hk k (by simp[shOwns,hk']),fillC_good ks r _ fun k hk'=>hk k (by simp[shOwns,hk']),Bool.or_self]
end
theorem fillF_good (ks:List Nat):∀(l:List (Nat×Sh)) (ls:List (Leaf S.α)),(∀k,k∈slotOwns l→k∈ks)→∀d v,tget (fillF l ls).1 d=some v→v.bad ks=false
 | [],ls,_,d,v,h=>by cases h
 | (d0,sh)::r,ls,hk,d,v,h=>by
  simp only[fillF,tget] at h
  cases hb:Nat.beq d0 d with
  | true=>rw[hb] at h;cases h;exact fillV_good ks sh ls fun k hk'=>hk k (by simp[slotOwns,hk'])
  | false=>rw[hb] at h;exact fillF_good ks r _ (fun k hk'=>hk k (by simp[slotOwns,hk'])) d v h
theorem fillB_good (ks:List Nat) (oh:Oh) (ls:List (Leaf S.α)) (h:∀k,k∈oh.owns→k∈ks):(fillB oh ls).1.bad ks=false:=by
 cases oh with
 | arr e m f τ=>
  unfold fillB
  dsimp only
  split <;> rfl
 | box e m cs=>exact fillC_good ks cs ls h
 | lp key lv cs=>
  unfold fillB
  dsimp only
  split
  ·split
   ·exact fillC_good ks cs _ h
   ·rfl
  ·exact fillC_good ks cs ls h
 | deep e m f dk τ=>
  unfold fillB
  dsimp only
  split <;> rfl
theorem fillS_good (ks:List Nat):∀(l:List (Nat×Oh)) (ls:List (Leaf S.α)),(∀k,k∈objOwns l→k∈ks)→∀h o,oget (fillS l ls).1 h=some o→o.bad ks=false
 | [],ls,_,d,v,h=>by cases h
 | (d0,oh)::r,ls,hk,d,v,h=>by
  simp only[fillS,oget] at h
  cases hb:Nat.beq d0 d with
  | true=>rw[hb] at h;cases h;exact fillB_good ks oh ls fun k hk'=>hk k (by simp[objOwns,hk'])
  | false=>rw[hb] at h;exact fillS_good ks r _ (fun k hk'=>hk k (by simp[objOwns,hk'])) d v h
theorem told {t u:TSt S}{slots:List (Nat×Sh)}{objs:List (Nat×Oh)}{xs ys:List (Leaf S.α)}{F':List (Nat×TV S)}{O':List (Nat×TO S)}{ks:List Nat}
  (hp:packF t.frA slots=some xs) (hq:packS t.stA objs=some ys) (hf:u.frA=(fillF slots (xs++ys)).1++F') (ho:u.stA=(fillS objs ys).1++O')
  (hF:∀d v,tget F' d=some v→tget t.frA d=some v∧v.bad ks=false) (hO:∀h o,oget O' h=some o→oget t.stA h=some o∧o.bad ks=false)
  (hk:∀k,k∈ks→t.ln k=u.ln k) (h1:∀k,k∈slotOwns slots→k∈ks) (h2:∀k,k∈objOwns objs→k∈ks) (hdf:u.df=t.df) (hdg:TV.bad.go ks t.df=false):Gh t.er u.er:=by
 obtain⟨p1,p2⟩:=packF_ok t.ln hp ys
 obtain⟨q1,_,q2⟩:=packS_ok t.ln t.er.st u.er.st hq []
 rw[List.append_nil] at q2
 refine Gh.typed (fun d v' hv'=>?_) (fun h o' ho'=>?_) ?_
 ·rw[hf,tget_app] at hv'
  split at hv'
  ·rename_i v1 e
   cases hv'
   obtain⟨v,e1,e2⟩:=p2 d _ e
   refine⟨v,e1,CV.rw ?_⟩
   rw[←er_good hk _ (fillF_good ks slots _ h1 d _ e)]
   exact e2
  ·obtain⟨e1,e2⟩:=hF d v' hv'
   refine⟨v',e1,?_⟩
   rw[er_good hk v' e2]
   exact CV.refl _ _ _
 ·rw[ho,oget_appA] at ho'
  split at ho'
  ·rename_i v1 e
   cases ho'
   obtain⟨o,e1,e2,e3⟩:=q2 h _ e
   refine⟨o,e1,?_⟩
   rw[←TO.er_good hk _ (fillS_good ks objs _ h2 h _ e)]
   exact e3
  ·obtain⟨e1,e2⟩:=hO h o' ho'
   refine⟨o',e1,?_⟩
   rw[TO.er_good hk o' e2]
   exact BCV.refl _ _ _
 ·rw[hdf]
  exact er_goodL hk _ hdg
def badF (ks:List Nat):List (Nat×TV S)→List Nat
 | []=>[]
 | (t,v)::r=>match v.bad ks with
  | true=>t::badF ks r
  | false=>badF ks r
def badS (ks:List Nat):List (Nat×TO S)→List Nat
 | []=>[]
 | (t,o)::r=>match o.bad ks with
  | true=>t::badS ks r
  | false=>badS ks r
def stay (H:List Nat):List (Nat×TO S)→List Nat
 | []=>[]
 | (t,o)::r=>match o with
  | .arr ..=>match memN t H with
   | true=>stay H r
   | false=>t::stay H r
  | .deep ..=>match memN t H with
   | true=>stay H r
   | false=>t::stay H r
  | _=>stay H r
theorem badF_mem {ks:List Nat}:∀{fr:List (Nat×TV S)}{d:Nat}{v:TV S},tget fr d=some v→memN d (badF ks fr)=false→v.bad ks=false
 | [],_,_,h,_=>by cases h
 | (t,v')::r,d,v,h,hm=>by
  simp only[tget] at h
  simp only[badF] at hm
  cases hb:v'.bad ks with
  | true=>
   rw[hb] at hm
   simp only[memN] at hm
   cases ht:Nat.beq t d with
   | true=>rw[ht] at hm;cases hm
   | false=>rw[ht] at hm h;exact badF_mem h hm
  | false=>
   rw[hb] at hm
   cases ht:Nat.beq t d with
   | true=>rw[ht] at h;cases h;exact hb
   | false=>rw[ht] at h;exact badF_mem h hm
theorem badS_mem {ks:List Nat}:∀{st:List (Nat×TO S)}{d:Nat}{o:TO S},oget st d=some o→memN d (badS ks st)=false→o.bad ks=false
 | [],_,_,h,_=>by cases h
 | (t,v')::r,d,v,h,hm=>by
  simp only[oget] at h
  simp only[badS] at hm
  cases hb:v'.bad ks with
  | true=>
   rw[hb] at hm
   simp only[memN] at hm
   cases ht:Nat.beq t d with
   | true=>rw[ht] at hm;cases hm
   | false=>rw[ht] at hm h;exact badS_mem h hm
  | false=>
   rw[hb] at hm
   cases ht:Nat.beq t d with
   | true=>rw[ht] at h;cases h;exact hb
   | false=>rw[ht] at h;exact badS_mem h hm
end
end Go.DN
/-
 DN,part Q:states taken apart and put together again.
-/
namespace Go.DN
open Go.AM
section
variable {S:Sig}
theorem bad_monoV {ks ks':List Nat}(h:∀k,k∈ks→k∈ks'):∀v:TV S,v.bad ks=false→v.bad ks'=false:=by
 intro v
 exact TV.rec (motive_1:=fun v=>v.bad ks=false→v.bad ks'=false) (motive_2:=fun l=>TV.bad.go ks l=false→TV.bad.go ks' l=false)
  (fun _ _ _ _=>rfl) (fun _ _ _ _=>rfl) (fun l ih e=>ih e) (fun l ih e=>ih e) (fun _ _ _=>rfl) (fun _ _ _ _ _=>rfl)
  (fun k τ e=>by
   have:memN k ks=true:=by simpa[TV.bad] using e
   show(!(memN k ks'))=false
   rw[memN_iff.2 (h k (memN_iff.1 this))];rfl)
  (fun _ _ _ _ _=>rfl) (fun _ l ih e=>ih e) (fun _ _=>rfl) (fun _ _=>rfl) (fun _ _ _ _ _=>rfl) (fun _ _ _ _ _=>rfl) (fun _ _ _ _ _ _=>rfl) (fun _ _ _ _=>rfl) (fun _ _=>rfl) (fun _=>rfl) (fun _=>rfl)
  (fun x r i1 i2 e=>by
   simp only[TV.bad.go,Bool.or_eq_false_iff] at e⊢
   exact⟨i1 e.1,i2 e.2⟩) v
theorem bad_monoL {ks ks':List Nat}(h:∀k,k∈ks→k∈ks'):∀l:List (TV S),TV.bad.go ks l=false→TV.bad.go ks' l=false
 | [],_=>rfl
 | x::r,e=>by
  simp only[TV.bad.go,Bool.or_eq_false_iff] at e⊢
  exact⟨bad_monoV h x e.1,bad_monoL h r e.2⟩
theorem bad_monoO {ks ks':List Nat}(h:∀k,k∈ks→k∈ks') (o:TO S) (e:o.bad ks=false):o.bad ks'=false:=by
 cases o with
 | box e' m cs=>exact bad_monoL h cs e
 | arr=>rfl
 | lp p n cs=>exact bad_monoL h cs e
 | deep=>rfl
def keysOf {α:Type}:List (Nat×α)→List Nat
 | []=>[]
 | x::r=>x.1::keysOf r
def apart (a b:List Nat):Bool:=match a with
 | []=>true
 | x::r=>match memN x b with
  | true=>false
  | false=>apart r b
theorem apart_spec {b:List Nat}:∀{a:List Nat},apart a b=true→∀x,x∈a→x∉b
 | [],_,x,h=>by cases h
 | y::r,h,x,hx=>by
  simp only[apart] at h
  cases hm:memN y b with
  | true=>rw[hm] at h;cases h
  | false=>
   rw[hm] at h
   rcases List.mem_cons.1 hx with e | hx
   ·subst e;intro hb;rw[memN_iff.2 hb] at hm;cases hm
   ·exact apart_spec h x hx
def within (a b:List Nat):Bool:=match a with
 | []=>true
 | x::r=>match memN x b with
  | true=>within r b
  | false=>false
theorem within_spec {b:List Nat}:∀{a:List Nat},within a b=true→∀x,x∈a→x∈b
 | [],_,x,h=>by cases h
 | y::r,h,x,hx=>by
  simp only[within] at h
  cases hm:memN y b with
  | false=>rw[hm] at h;cases h
  | true=>
   rw[hm] at h
   rcases List.mem_cons.1 hx with e | hx
   ·subst e;exact memN_iff.1 hm
   ·exact within_spec h x hx
theorem tget_keys:∀{fr:List (Nat×TV S)}{d:Nat}{v:TV S},tget fr d=some v→d∈keysOf fr
 | [],_,_,h=>by cases h
 | (t,v')::r,d,v,h=>by
  simp only[tget] at h
  cases hb:Nat.beq t d with
  | true=>have:=Nat.eq_of_beq_eq_true hb;subst this;exact List.mem_cons_self
  | false=>rw[hb] at h;exact List.mem_cons_of_mem _ (tget_keys h)
theorem oget_keys:∀{st:List (Nat×TO S)}{d:Nat}{o:TO S},oget st d=some o→d∈keysOf st
 | [],_,_,h=>by cases h
 | (t,v')::r,d,v,h=>by
  simp only[oget] at h
  cases hb:Nat.beq t d with
  | true=>have:=Nat.eq_of_beq_eq_true hb;subst this;exact List.mem_cons_self
  | false=>rw[hb] at h;exact List.mem_cons_of_mem _ (oget_keys h)
theorem tget_none_of {fr:List (Nat×TV S)}{d:Nat}(h:d∉keysOf fr):tget fr d=none:=by
 cases e:tget fr d with
 | none=>rfl
 | some v=>exact absurd (tget_keys e) h
theorem oget_none_of {st:List (Nat×TO S)}{d:Nat}(h:d∉keysOf st):oget st d=none:=by
 cases e:oget st d with
 | none=>rfl
 | some v=>exact absurd (oget_keys e) h
theorem oget_of_keys:∀{st:List (Nat×TO S)}{k:Nat},k∈keysOf st→∃o,oget st k=some o
 | [],_,h=>by cases h
 | (y,g)::r,k,h=>by
  simp only[oget]
  cases hb:Nat.beq y k with
  | true=>exact⟨g,rfl⟩
  | false=>
   rcases List.mem_cons.1 h with e2 | h2
   ·subst e2;rw[Nat.beq_refl] at hb;cases hb
   ·exact oget_of_keys h2
theorem fillS_keys:∀(l:List (Nat×Oh)) (ls:List (Leaf S.α)),keysOf (fillS l ls).1=keysOf l
 | [],_=>rfl
 | (d,sh)::r,ls=>by simp only[fillS,keysOf,fillS_keys r]
structure Cut where
 D:List Nat
 DO:List Nat
 ks:List Nat
def cutOf (s:TSt S) (A H B:List Nat):Cut:=
 {D:=A++(B++badF (stay H s.stA) s.frA),DO:=H++badS (stay H s.stA) s.stA,ks:=stay H s.stA}
def cutOk (s:TSt S) (c:Cut):Bool:=
 apart c.ks c.DO&&(!(TV.bad.go c.ks s.df)&&(apart (keysOf s.lo) c.D&&apart (keysOf s.lst) c.DO))
theorem stay_get {H:List Nat}:∀{st:List (Nat×TO S)}{k:Nat},k∈stay H st→k∉H∧k∈keysOf st
 | [],_,h=>by cases h
 | (t,o)::r,k,h=>by
  have key:k∈stay H r→k∉H∧k∈keysOf ((t,o)::r):=fun h=>let ⟨h1,h2⟩:=stay_get h;⟨h1,List.mem_cons_of_mem _ h2⟩
  cases o with
  | arr e m f τ l=>
   simp only[stay] at h
   cases hm:memN t H with
   | true=>rw[hm] at h;exact key h
   | false=>
    rw[hm] at h
    rcases List.mem_cons.1 h with e | h
    ·subst e
     exact⟨fun hh=>(by rw[memN_iff.2 hh] at hm;cases hm),List.mem_cons_self⟩
    ·exact key h
  | deep e m f dk τ l=>
   simp only[stay] at h
   cases hm:memN t H with
   | true=>rw[hm] at h;exact key h
   | false=>
    rw[hm] at h
    rcases List.mem_cons.1 h with e | h
    ·subst e
     exact⟨fun hh=>(by rw[memN_iff.2 hh] at hm;cases hm),List.mem_cons_self⟩
    ·exact key h
  | _=>exact key h
def onlyK {α:Type}(D:List Nat):List (Nat×α)→List (Nat×α)
 | []=>[]
 | x::r=>match memN x.1 D with
  | true=>x::onlyK D r
  | false=>onlyK D r
theorem tget_onlyK {D:List Nat}:∀{fr:List (Nat×TV S)}{d:Nat},tget (onlyK D fr) d=match memN d D with | true=>tget fr d | false=>none
 | [],d=>by simp only[onlyK,tget];cases memN d D <;> rfl
 | (t,v)::r,d=>by
  simp only[onlyK]
  cases hb:Nat.beq t d with
  | true=>
   have:=Nat.eq_of_beq_eq_true hb
   subst this
   cases hm:memN t D with
   | true=>simp only[tget,hb,cond_true]
   | false=>simp only;rw[tget_onlyK,hm]
  | false=>
   cases hm:memN t D with
   | true=>simp only[tget,hb,cond_false];exact tget_onlyK
   | false=>simp only;rw[tget_onlyK];simp only[tget,hb,cond_false]
theorem oget_onlyK {D:List Nat}:∀{fr:List (Nat×TO S)}{d:Nat},oget (onlyK D fr) d=match memN d D with | true=>oget fr d | false=>none
 | [],d=>by simp only[onlyK,oget];cases memN d D <;> rfl
 | (t,v)::r,d=>by
  simp only[onlyK]
  cases hb:Nat.beq t d with
  | true=>
   have:=Nat.eq_of_beq_eq_true hb
   subst this
   cases hm:memN t D with
   | true=>simp only[oget,hb,cond_true]
   | false=>simp only;rw[oget_onlyK,hm]
  | false=>
   cases hm:memN t D with
   | true=>simp only[oget,hb,cond_false];exact oget_onlyK
   | false=>simp only;rw[oget_onlyK];simp only[oget,hb,cond_false]
def cutIn (s:TSt S) (c:Cut):TSt S:={fr:=onlyK c.D s.frA,lo:=dropK c.D s.frA,st:=onlyK c.DO s.stA,lst:=dropK c.DO s.stA,df:=s.df,nx:=s.nx,last:=s.last}
theorem same_er {s t:TSt S}(h1:∀d,tget t.frA d=tget s.frA d) (h2:∀d,oget t.stA d=oget s.stA d) (h3:t.df=s.df):Gh s.er t.er:=by
 have hln:t.ln=s.ln:=by
  funext k
  show lnO t.stA k=lnO s.stA k
  unfold lnO
  rw[h2]
 refine Gh.typed (fun d v' hv'=>⟨v',by rw[←h1];exact hv',?_⟩) (fun h o' ho'=>⟨o',by rw[←h2];exact ho',?_⟩) (by rw[h3,hln])
 ·rw[hln];exact CV.refl _ _ _
 ·rw[hln];exact BCV.refl _ _ _
theorem same_LInv {s t:TSt S}(h1:∀d,tget t.frA d=tget s.frA d) (h2:∀d,oget t.stA d=oget s.stA d) (h3:t.last=s.last) (hl:LInv s):LInv t:=by
 intro d h x hm
 rw[h3] at hm
 obtain⟨i,ety,m,f,τ,l,a,e1,e2,e3⟩:=hl d h x hm
 exact⟨i,ety,m,f,τ,l,a,by rw[h1];exact e1,by rw[h2];exact e2,e3⟩
theorem cutIn_fr (s:TSt S) (c:Cut):∀d,tget (cutIn s c).frA d=tget s.frA d:=by
 intro d
 show tget (onlyK c.D s.frA++dropK c.D s.frA) d=_
 rw[tget_app,tget_onlyK,tget_dropK]
 cases memN d c.D with
 | true=>dsimp only;cases tget s.frA d <;> rfl
 | false=>rfl
theorem cutIn_st (s:TSt S) (c:Cut):∀d,oget (cutIn s c).stA d=oget s.stA d:=by
 intro d
 show oget (onlyK c.DO s.stA++dropK c.DO s.stA) d=_
 rw[oget_appA,oget_onlyK,oget_dropK]
 cases memN d c.DO with
 | true=>dsimp only;cases oget s.stA d <;> rfl
 | false=>rfl
theorem cutIn_ok (s:TSt S) (c:Cut) (hl:LInv s):Gh s.er (cutIn s c).er∧LInv (cutIn s c):=
 ⟨same_er (cutIn_fr s c) (cutIn_st s c) rfl,same_LInv (cutIn_fr s c) (cutIn_st s c) rfl hl⟩
def flat (s:TSt S) (c:Cut) (t:TSt S):TSt S:={fr:=t.fr++dropK c.D s.fr,lo:=s.lo,st:=t.st++dropK c.DO s.st,lst:=s.lst,df:=s.df,nx:=t.nx,last:=t.last}
theorem dropK_id {α:Type}{D:List Nat}:∀{l:List (Nat×α)},apart (keysOf l) D=true→dropK D l=l
 | [],_=>rfl
 | x::r,h=>by
  simp only[keysOf,apart] at h
  simp only[dropK]
  cases hm:memN x.1 D with
  | true=>rw[hm] at h;cases h
  | false=>rw[hm] at h;dsimp only;rw[dropK_id h]
theorem dropK_app {α:Type}{D:List Nat}:∀(l l':List (Nat×α)),dropK D (l++l')=dropK D l++dropK D l'
 | [],_=>rfl
 | x::r,l'=>by
  simp only[List.cons_append,dropK]
  cases memN x.1 D <;> simp[dropK_app r l']
structure CutOk (s:TSt S) (c:Cut):Prop where
 ks:∀k,k∈c.ks→k∉c.DO
 df:TV.bad.go c.ks s.df=false
 lo:dropK c.D s.frA=dropK c.D s.fr++s.lo
 lst:dropK c.DO s.stA=dropK c.DO s.st++s.lst
theorem cutOk_spec {s:TSt S}{c:Cut}(h:cutOk s c=true):CutOk s c:=by
 unfold cutOk at h
 simp only[Bool.and_eq_true,Bool.not_eq_true'] at h
 obtain⟨h1,h2,h3,h4⟩:=h
 exact⟨apart_spec h1,h2,by unfold TSt.frA;rw[dropK_app,dropK_id h3],by unfold TSt.stA;rw[dropK_app,dropK_id h4]⟩
theorem flat_ok {s t:TSt S}{c:Cut}(hc:CutOk s c) (h1:t.lo=dropK c.D s.frA) (h2:t.lst=dropK c.DO s.stA) (h3:t.df=s.df) (hl:LInv t):Gh t.er (flat s c t).er∧LInv (flat s c t)∧Keep s (flat s c t):=by
 have e1:(flat s c t).frA=t.frA:=by
  show(t.fr++dropK c.D s.fr)++s.lo=t.fr++t.lo
  rw[h1,hc.lo,List.append_assoc]
 have e2:(flat s c t).stA=t.stA:=by
  show(t.st++dropK c.DO s.st)++s.lst=t.st++t.lst
  rw[h2,hc.lst,List.append_assoc]
 exact⟨same_er (fun d=>by rw[e1]) (fun d=>by rw[e2]) h3.symm,same_LInv (s:=t) (t:=flat s c t) (fun d=>by rw[e1]) (fun d=>by rw[e2]) rfl hl,⟨rfl,rfl,rfl⟩⟩
def packJ (s:TSt S) (j:JH):Option (List (Leaf S.α)):=
 match packF s.frA j.slots with
 | some xs=>match packS s.stA j.objs with
  | some ys=>some (xs++ys)
  | none=>none
 | none=>none
def hmax:List Nat→Nat→Nat
 | [],n=>n
 | x::r,n=>hmax r (bif Nat.ble n x&&Nat.blt x 500 then x+1 else n)
def headT (s:TSt S) (c:Cut) (j:JH) (ls:List (Leaf S.α)):TSt S:=
 {fr:=(fillF j.slots ls).1,lo:=dropK c.D s.frA,st:=(fillS j.objs (fillF j.slots ls).2).1,lst:=dropK c.DO s.stA,df:=s.df,nx:=hmax (keysOf j.objs) s.nx,last:=[]}
def outT (s:TSt S) (c:Cut) (j:JH) (ls:List (Leaf S.α)):TSt S:=
 {fr:=(fillF j.slots ls).1++dropK c.D s.fr,lo:=s.lo,st:=(fillS j.objs (fillF j.slots ls).2).1++dropK c.DO s.st,lst:=s.lst,df:=s.df,nx:=hmax (keysOf j.objs) s.nx,last:=[]}
def jOk (c:Cut) (j:JH):Bool:=within (slotOwns j.slots++objOwns j.objs) (c.ks++keysOf j.objs)&&apart c.ks (keysOf j.objs)
def apartT (t:TSt S):Bool:=apart (keysOf t.fr) (keysOf t.lo)&&apart (keysOf t.st) (keysOf t.lst)
theorem outT_fr {s:TSt S}{c:Cut}(hc:CutOk s c) (j:JH) (ls:List (Leaf S.α)):(outT s c j ls).frA=(headT s c j ls).frA:=by
 show((fillF j.slots ls).1++dropK c.D s.fr)++s.lo=(fillF j.slots ls).1++dropK c.D s.frA
 rw[hc.lo,List.append_assoc]
theorem outT_st {s:TSt S}{c:Cut}(hc:CutOk s c) (j:JH) (ls:List (Leaf S.α)):(outT s c j ls).stA=(headT s c j ls).stA:=by
 show((fillS j.objs (fillF j.slots ls).2).1++dropK c.DO s.st)++s.lst=(fillS j.objs (fillF j.slots ls).2).1++dropK c.DO s.stA
 rw[hc.lst,List.append_assoc]
theorem packS_len {st:List (Nat×TO S)}{l:List (Nat×Oh)}{ys:List (Leaf S.α)}(h:packS st l=some ys) (k:Nat) (hk:k∈keysOf l):∃o o',oget (fillS l ys).1 k=some o'∧oget st k=some o∧o'.len=o.len:=by
 obtain⟨_,_,q⟩:=packS_ok (fun _=>0) [] [] h []
 rw[List.append_nil] at q
 obtain⟨o',e⟩:=oget_of_keys (st:=(fillS l ys).1) (k:=k) (by rw[fillS_keys];exact hk)
 obtain⟨o,h1,h2,_⟩:=q k o' e
 exact⟨o,o',e,h1,h2⟩
theorem head_in {s:TSt S}{c:Cut}{A H B:List Nat}{j:JH}{ls:List (Leaf S.α)}(hcc:c=cutOf s A H B) (hc:CutOk s c) (hj:jOk c j=true) (hp:packJ s j=some ls):Gh s.er (headT s c j ls).er:=by
 unfold packJ at hp
 split at hp
 ·rename_i xs hx
  split at hp
  ·rename_i ys hy
   cases hp
   obtain⟨p1,_⟩:=packF_ok s.ln hx ys
   unfold jOk at hj
   simp only[Bool.and_eq_true] at hj
   obtain⟨j1,j2⟩:=hj
   have j1:=within_spec j1
   have j2:=apart_spec j2
   have hks:∀k,k∈c.ks++keysOf j.objs→s.ln k=(headT s c j (xs++ys)).ln k:=by
    intro k hk
    show lnO s.stA k=lnO (headT s c j (xs++ys)).stA k
    have est:(headT s c j (xs++ys)).stA=(fillS j.objs ys).1++dropK c.DO s.stA:=by
     show(fillS j.objs (fillF j.slots (xs++ys)).2).1++dropK c.DO s.stA=_
     rw[p1]
    rw[est]
    unfold lnO
    rw[oget_appA]
    rcases List.mem_append.1 hk with hk | hk
    ·have:oget (fillS j.objs ys).1 k=none:=oget_none_of (by rw[fillS_keys];exact j2 k hk)
     rw[this]
     dsimp only
     rw[oget_dropK]
     have:memN k c.DO=false:=by
      cases hm:memN k c.DO with
      | false=>rfl
      | true=>exact absurd (memN_iff.1 hm) (hc.ks k hk)
     rw[this]
    ·obtain⟨o,o',e1,e2,e3⟩:=packS_len hy k hk
     rw[e1,e2]
     exact e3.symm
   refine told (u:=headT s c j (xs++ys)) (F':=dropK c.D s.frA) (O':=dropK c.DO s.stA) hx hy rfl ?_ (fun d v hv=>?_) (fun h o ho=>?_) hks (fun k hk=>j1 k (List.mem_append_left _ hk)) (fun k hk=>j1 k (List.mem_append_right _ hk)) rfl (bad_monoL (fun k hk=>List.mem_append_left _ hk) _ hc.df)
   ·show(fillS j.objs (fillF j.slots (xs++ys)).2).1++dropK c.DO s.stA=_
    rw[p1]
   ·rw[tget_dropK] at hv
    cases hm:memN d c.D with
    | true=>rw[hm] at hv;cases hv
    | false=>
     rw[hm] at hv
     refine⟨hv,bad_monoV (fun k hk=>List.mem_append_left _ hk) v (badF_mem hv ?_)⟩
     subst hcc
     cases hq:memN d (badF (cutOf s A H B).ks s.frA) with
     | false=>rfl
     | true=>
      rw[memN_iff.2 (show d∈(cutOf s A H B).D from List.mem_append_right _ (List.mem_append_right _ (memN_iff.1 hq)))] at hm
      cases hm
   ·rw[oget_dropK] at ho
    cases hm:memN h c.DO with
    | true=>rw[hm] at ho;cases ho
    | false=>
     rw[hm] at ho
     refine⟨ho,bad_monoO (fun k hk=>List.mem_append_left _ hk) o (badS_mem ho ?_)⟩
     subst hcc
     cases hq:memN h (badS (cutOf s A H B).ks s.stA) with
     | false=>rfl
     | true=>
      rw[memN_iff.2 (show h∈(cutOf s A H B).DO from List.mem_append_right _ (memN_iff.1 hq))] at hm
      cases hm
  ·cases hp
 ·cases hp
theorem head_from {s t:TSt S}{c:Cut}{A H B:List Nat}{j:JH}{ls:List (Leaf S.α)}(hcc:c=cutOf s A H B) (hc:CutOk s c) (hj:jOk c j=true) (h1:t.lo=dropK c.D s.frA) (h2:t.lst=dropK c.DO s.stA) (h3:t.df=s.df)
  (ha:apartT t=true) (hp:packJ t j=some ls):Gh t.er (headT s c j ls).er:=by
 unfold packJ at hp
 split at hp
 ·rename_i xs hx
  split at hp
  ·rename_i ys hy
   cases hp
   obtain⟨p1,_⟩:=packF_ok t.ln hx ys
   unfold jOk at hj
   simp only[Bool.and_eq_true] at hj
   obtain⟨j1,j2⟩:=hj
   have j1:=within_spec j1
   have j2:=apart_spec j2
   unfold apartT at ha
   simp only[Bool.and_eq_true] at ha
   have a1:=apart_spec ha.1
   have a2:=apart_spec ha.2
   have tf:∀{d v},tget t.lo d=some v→tget t.frA d=some v:=by
    intro d v hv
    show tget (t.fr++t.lo) d=_
    rw[tget_app,tget_none_of fun hd=>a1 d hd (tget_keys hv)]
    exact hv
   have of:∀{d o},oget t.lst d=some o→oget t.stA d=some o:=by
    intro d v hv
    show oget (t.st++t.lst) d=_
    rw[oget_appA,oget_none_of fun hd=>a2 d hd (oget_keys hv)]
    exact hv
   have hgood:∀{d v},tget (dropK c.D s.frA) d=some v→v.bad c.ks=false:=by
    intro d v hv
    rw[tget_dropK] at hv
    cases hm:memN d c.D with
    | true=>rw[hm] at hv;cases hv
    | false=>
     rw[hm] at hv
     refine badF_mem hv ?_
     subst hcc
     cases hq:memN d (badF (cutOf s A H B).ks s.frA) with
     | false=>rfl
     | true=>
      rw[memN_iff.2 (show d∈(cutOf s A H B).D from List.mem_append_right _ (List.mem_append_right _ (memN_iff.1 hq)))] at hm
      cases hm
   have hgoodO:∀{d o},oget (dropK c.DO s.stA) d=some o→o.bad c.ks=false:=by
    intro h o ho
    rw[oget_dropK] at ho
    cases hm:memN h c.DO with
    | true=>rw[hm] at ho;cases ho
    | false=>
     rw[hm] at ho
     refine badS_mem ho ?_
     subst hcc
     cases hq:memN h (badS (cutOf s A H B).ks s.stA) with
     | false=>rfl
     | true=>
      rw[memN_iff.2 (show h∈(cutOf s A H B).DO from List.mem_append_right _ (memN_iff.1 hq))] at hm
      cases hm
   have hkst:∀k,k∈c.ks→∃o,oget (dropK c.DO s.stA) k=some o:=by
    intro k hk
    rw[oget_dropK]
    have:memN k c.DO=false:=by
     cases hm:memN k c.DO with
     | false=>rfl
     | true=>exact absurd (memN_iff.1 hm) (hc.ks k hk)
    rw[this]
    have hk2:k∈keysOf s.stA:=by subst hcc;exact(stay_get hk).2
    exact oget_of_keys hk2
   have hks:∀k,k∈c.ks++keysOf j.objs→t.ln k=(headT s c j (xs++ys)).ln k:=by
    intro k hk
    show lnO t.stA k=lnO (headT s c j (xs++ys)).stA k
    have est:(headT s c j (xs++ys)).stA=(fillS j.objs ys).1++dropK c.DO s.stA:=by
     show(fillS j.objs (fillF j.slots (xs++ys)).2).1++dropK c.DO s.stA=_
     rw[p1]
    rw[est]
    unfold lnO
    rw[oget_appA]
    rcases List.mem_append.1 hk with hk | hk
    ·have:oget (fillS j.objs ys).1 k=none:=oget_none_of (by rw[fillS_keys];exact j2 k hk)
     rw[this]
     dsimp only
     obtain⟨o,ho⟩:=hkst k hk
     rw[ho]
     rw[of (by rw[h2];exact ho)]
    ·obtain⟨o,o',e1,e2,e3⟩:=packS_len hy k hk
     rw[e1,e2]
     exact e3.symm
   refine told (u:=headT s c j (xs++ys)) (F':=dropK c.D s.frA) (O':=dropK c.DO s.stA) hx hy rfl ?_ (fun d v hv=>⟨tf (by rw[h1];exact hv),bad_monoV (fun k hk=>List.mem_append_left _ hk) v (hgood hv)⟩)
    (fun h o ho=>⟨of (by rw[h2];exact ho),bad_monoO (fun k hk=>List.mem_append_left _ hk) o (hgoodO ho)⟩) hks (fun k hk=>j1 k (List.mem_append_left _ hk)) (fun k hk=>j1 k (List.mem_append_right _ hk)) h3.symm (by rw[h3];exact bad_monoL (fun k hk=>List.mem_append_left _ hk) _ hc.df)
   show(fillS j.objs (fillF j.slots (xs++ys)).2).1++dropK c.DO s.stA=_
   rw[p1]
  ·cases hp
 ·cases hp
end
end Go.DN
/-
 DN,part R:code.
-/
namespace Go.DN
open Go.AM
section
variable {S:Sig}
mutual
def needV:Sh→TV S→List Nat
 | .dat _ _,v=>v.osls
 | .clo _ l,v=>match v with
  | .clo _ vs=>needC l vs
  | _=>[]
 | .agg l,v=>match v with
  | .agg vs=>needC l vs
  | _=>[]
 | _,_=>[]
def needC:List Sh→List (TV S)→List Nat
 | sh::r,v::vs=>needV sh v++needC r vs
 | _,_=>[]
end
def needF (fr:List (Nat×TV S)):List (Nat×Sh)→List Nat
 | []=>[]
 | (d,sh)::r=>match tget fr d with
  | some v=>needV sh v++needF fr r
  | none=>needF fr r
def needS (st:List (Nat×TO S)):List (Nat×Oh)→List Nat
 | []=>[]
 | (h,.box _ _ cs)::r=>match oget st h with
  | some (.box _ _ vs)=>needC cs vs++needS st r
  | _=>needS st r
 | _::r=>needS st r
def etyOf (h:Nat):List (Nat×Oh)→Option TypeId
 | []=>none
 | (k,.arr e _ _ _)::r=>bif Nat.beq k h then some e else etyOf h r
 | (k,.deep e _ _ _ _)::r=>bif Nat.beq k h then some e else etyOf h r
 | _::r=>etyOf h r
def dkOf (h:Nat):List (Nat×Oh)→Option TypeId
 | []=>none
 | (k,.deep _ _ _ (.fam kty) _)::r=>bif Nat.beq k h then some kty else dkOf h r
 | _::r=>dkOf h r
def freeH (s:TSt S) (h:Nat):TSt S:=match s.free h with
 | true=>s
 | false=>match freezeT s h with
  | some s'=>s'
  | none=>s
theorem freeH_ok {s:TSt S}{h:Nat}(hl:LInv s):Gh s.er (freeH s h).er∧LInv (freeH s h)∧Keep s (freeH s h):=by
 unfold freeH
 split
 ·exact⟨Gh.refl _,hl,Keep.refl s⟩
 ·split
  ·rename_i s' hs
   exact freezeT_ok hl hs
  ·exact⟨Gh.refl _,hl,Keep.refl s⟩
def subO (s:TSt S) (d h:Nat):TSt S:=match tget s.frA d with
 | some (.osl h' τ)=>match Nat.beq h' h with
  | true=>match oget s.stA h' with
   | some (.arr _ _ _ τ' l)=>s.put d (.sub h' τ 0 (List.length l))
   | _=>s
  | false=>s
 | _=>s
theorem subO_ok {s:TSt S}(d h:Nat) (hl:LInv s):Gh s.er (subO s d h).er∧LInv (subO s d h)∧Keep s (subO s d h):=by
 unfold subO
 split
 ·rename_i h' τ hx
  split
  ·split
   ·rename_i τ' l ho
    refine⟨?_,hl.put _ _,⟨rfl,rfl,rfl⟩⟩
    rw[put_er]
    have e1:get s.er.fr d=some (.osl h' (S.sz τ) 0 (List.length l)):=by
     rw[show get s.er.fr d=_ from get_erF hx]
     show some (G.osl _ _ 0 (s.ln h'))=_
     rw[ln_arr ho]
    have e2:(TV.sub h' τ 0 (List.length l):TV S).er s.ln=.osl h' (S.sz τ) 0 (List.length l):=by
     show G.osl _ _ (0*_) _=_
     rw[Nat.zero_mul]
    rw[e2]
    refine Gh.gen (s:=s.er) (t:=s.er.put d (.osl h' (S.sz τ) 0 (List.length l))) (fun x g' hg=>?_) (fun x k' hk=>⟨k',hk,BCV.refl _ _ _⟩) rfl
    simp only[St.put,get_cons] at hg
    cases hb:Nat.beq d x with
    | true=>
     rw[hb] at hg
     cases hg
     have:=Nat.eq_of_beq_eq_true hb
     subst this
     exact⟨_,e1,CV.refl _ _ _⟩
    | false=>
     rw[hb] at hg
     exact⟨g',hg,CV.refl _ _ _⟩
   ·exact⟨Gh.refl _,hl,Keep.refl s⟩
  ·exact⟨Gh.refl _,hl,Keep.refl s⟩
 ·exact⟨Gh.refl _,hl,Keep.refl s⟩
def adoptAll (objs:List (Nat×Oh)):List (Nat×Sh)→TSt S→Option (TSt S)
 | [],s=>some s
 | (d,.own h τ)::r,s=>match tget s.frA d with
  | some (.val (.slice none 0 0))=>match etyOf h objs with
   | some e=>match tget (freeH s h).frA d with
    | some (.val (.slice none 0 0))=>match (freeH s h).free h with
     | true=>match dkOf h objs with
      | none=>adoptAll objs r ((freeH s h).adopt h d e τ)
      | some kty=>thawT ((freeH s h).adopt h d e τ) h kty fun s=>adoptAll objs r s
     | false=>none
    | _=>none
   | none=>none
  | _=>adoptAll objs r s
 | (d,.sub h _)::r,s=>adoptAll objs r (subO s d h)
 | _::r,s=>adoptAll objs r s
theorem adoptAll_ok {objs:List (Nat×Oh)}:∀{l:List (Nat×Sh)}{s t:TSt S},LInv s→adoptAll objs l s=some t→Gh s.er t.er∧LInv t∧Keep s t
 | [],s,t,hl,h=>by cases h;exact⟨Gh.refl _,hl,Keep.refl s⟩
 | (d,.dat _ _)::r,s,t,hl,h=>adoptAll_ok (l:=r) hl h
 | (d,.ptr _ _)::r,s,t,hl,h=>adoptAll_ok (l:=r) hl h
 | (d,.loc _ _)::r,s,t,hl,h=>adoptAll_ok (l:=r) hl h
 | (d,.clo _ _)::r,s,t,hl,h=>adoptAll_ok (l:=r) hl h
 | (d,.agg _)::r,s,t,hl,h=>adoptAll_ok (l:=r) hl h
 | (d,.yld _)::r,s,t,hl,h=>adoptAll_ok (l:=r) hl h
 | (d,.lpo _ _)::r,s,t,hl,h=>adoptAll_ok (l:=r) hl h
 | (d,.mp _)::r,s,t,hl,h=>adoptAll_ok (l:=r) hl h
 | (d,.any)::r,s,t,hl,h=>adoptAll_ok (l:=r) hl h
 | (d,.cloN)::r,s,t,hl,h=>adoptAll_ok (l:=r) hl h
 | (d,.sub hh _)::r,s,t,hl,h=>by
  obtain⟨a1,a2,a3⟩:=subO_ok d hh hl
  obtain⟨b1,b2,b3⟩:=adoptAll_ok (l:=r) a2 h
  exact⟨a1.trans b1,b2,a3.trans b3⟩
 | (d,.kpo _ _)::r,s,t,hl,h=>adoptAll_ok (l:=r) hl h
 | (d,.ks _ _)::r,s,t,hl,h=>adoptAll_ok (l:=r) hl h
 | (d,.own hh τ)::r,s,t,hl,h=>by
  simp only[adoptAll] at h
  split at h
  ·rename_i hx
   split at h
   ·rename_i e _
    split at h
    ·rename_i hx2
     split at h
     ·rename_i hf
      obtain⟨z1,z2,z3⟩:=freeH_ok (h:=hh) hl
      obtain⟨a1,a2⟩:=adopt_ok (e:=e) (τ:=τ) z2 hx2 hf
      split at h
      ·obtain⟨b1,b2,b3⟩:=adoptAll_ok (l:=r) a2 h
       exact⟨z1.trans (Gh.trans a1 b1),b2,z3.trans ⟨b3.lo,b3.lst,b3.df⟩⟩
      ·obtain⟨t0,c1,c2,c3,h⟩:=thawT_ok a2 h
       obtain⟨b1,b2,b3⟩:=adoptAll_ok (l:=r) c2 h
       exact⟨z1.trans (Gh.trans a1 (Gh.trans c1 b1)),b2,z3.trans ⟨b3.lo.trans c3.lo,b3.lst.trans c3.lst,b3.df.trans c3.df⟩⟩
     ·cases h
    ·cases h
   ·cases h
  ·exact adoptAll_ok hl h
def subC (s:TSt S) (h j hd:Nat):TSt S:=match oget s.st h with
 | some (.box e m cs)=>match cs[j]? with
  | some (.osl h' τ)=>match Nat.beq h' hd with
   | true=>match oget s.stA h' with
    | some (.arr _ _ _ τ' l)=>s.set h (.box e m (cs.set j (.sub h' τ 0 (List.length l))))
    | _=>s
   | false=>s
  | _=>s
 | _=>s
theorem subC_ok {s:TSt S}(h j hd:Nat) (hl:LInv s):Gh s.er (subC s h j hd).er∧LInv (subC s h j hd)∧Keep s (subC s h j hd):=by
 unfold subC
 split
 ·rename_i e m cs ho
  split
  ·rename_i h' τ hj
   split
   ·split
    ·rename_i τ' l ho2
     refine⟨?_,hl.set ho _,⟨rfl,rfl,rfl⟩⟩
     obtain⟨e1,_⟩:=set_er (o':=.box e m (cs.set j (.sub h' τ 0 (List.length l)))) ho rfl
     rw[e1]
     have e2:(TV.sub h' τ 0 (List.length l):TV S).er s.ln=(TV.osl h' τ:TV S).er s.ln:=by
      show G.osl _ _ (0*_) _=G.osl _ _ 0 (s.ln h')
      rw[Nat.zero_mul,ln_arr ho2]
     have e3:TV.er.go s.ln (cs.set j (.sub h' τ 0 (List.length l)))=TV.er.go s.ln cs:=by
      rw[er_go,List.map_set,er_go,e2]
      apply List.ext_getElem?
      intro q
      rw[List.getElem?_set]
      split
      ·rename_i hq
       subst hq
       rw[List.getElem?_map,hj]
       split
       ·rfl
       ·rename_i hlt
        have:=(List.getElem?_eq_some_iff.1 hj).1
        rw[List.length_map] at hlt
        exact absurd this hlt
      ·rfl
     have e4:(TO.box e m (cs.set j (.sub h' τ 0 (List.length l))):TO S).er s.ln=(TO.box e m cs:TO S).er s.ln:=by
      show Blk.mk _ _ _ _ _ _ _=Blk.mk _ _ _ _ _ _ _
      rw[e3]
     rw[e4,sset_self (sget_st (stA_of ho))]
     exact Gh.refl _
    ·exact⟨Gh.refl _,hl,Keep.refl s⟩
   ·exact⟨Gh.refl _,hl,Keep.refl s⟩
  ·exact⟨Gh.refl _,hl,Keep.refl s⟩
 ·exact⟨Gh.refl _,hl,Keep.refl s⟩
def adoptC1 (objs:List (Nat×Oh)) (h:Nat):Nat→List Sh→TSt S→Option (TSt S)
 | _,[],s=>some s
 | j,.own hd τ::r,s=>match oget s.st h with
  | some (.box e' m cs)=>match cs[j]? with
   | some (.val (.slice none 0 0))=>match etyOf hd objs with
    | some e=>match oget (freeO s hd).st h with
     | some (.box e' m cs)=>match cs[j]? with
      | some (.val (.slice none 0 0))=>match (freeO s hd).free hd with
       | true=>adoptC1 objs h (j+1) r (((freeO s hd).add hd (.arr e true true τ [])).set h (.box e' m (cs.set j (.osl hd τ))))
       | false=>none
      | _=>none
     | _=>none
    | none=>none
   | _=>adoptC1 objs h (j+1) r s
  | _=>adoptC1 objs h (j+1) r s
 | j,.sub hd _::r,s=>adoptC1 objs h (j+1) r (subC s h j hd)
 | j,_::r,s=>adoptC1 objs h (j+1) r s
theorem adoptC1_ok {objs:List (Nat×Oh)}{h:Nat}:∀{l:List Sh}{j:Nat}{s t:TSt S},LInv s→adoptC1 objs h j l s=some t→Gh s.er t.er∧LInv t∧Keep s t
 | [],_,s,t,hl,h=>by cases h;exact⟨Gh.refl _,hl,Keep.refl s⟩
 | .dat _ _::r,_,s,t,hl,h=>adoptC1_ok (l:=r) hl h
 | .ptr _ _::r,_,s,t,hl,h=>adoptC1_ok (l:=r) hl h
 | .loc _ _::r,_,s,t,hl,h=>adoptC1_ok (l:=r) hl h
 | .clo _ _::r,_,s,t,hl,h=>adoptC1_ok (l:=r) hl h
 | .agg _::r,_,s,t,hl,h=>adoptC1_ok (l:=r) hl h
 | .yld _::r,_,s,t,hl,h=>adoptC1_ok (l:=r) hl h
 | .lpo _ _::r,_,s,t,hl,h=>adoptC1_ok (l:=r) hl h
 | .mp _::r,_,s,t,hl,h=>adoptC1_ok (l:=r) hl h
 | .any::r,_,s,t,hl,h=>adoptC1_ok (l:=r) hl h
 | .cloN::r,_,s,t,hl,h=>adoptC1_ok (l:=r) hl h
 | .sub hd _::r,j,s,t,hl,hh=>by
  obtain⟨a1,a2,a3⟩:=subC_ok h j hd hl
  obtain⟨b1,b2,b3⟩:=adoptC1_ok (l:=r) a2 hh
  exact⟨a1.trans b1,b2,a3.trans b3⟩
 | .kpo _ _::r,_,s,t,hl,h=>adoptC1_ok (l:=r) hl h
 | .ks _ _::r,_,s,t,hl,h=>adoptC1_ok (l:=r) hl h
 | .own hd τ::r,j,s,t,hl,h=>by
  simp only[adoptC1] at h
  split at h
  ·rename_i e' m cs ho
   split at h
   ·rename_i hj
    split at h
    ·rename_i e _
     obtain⟨z1,z2,z3⟩:=freeO_ok hd hl
     split at h
     ·rename_i ho2
      split at h
      ·rename_i hj2
       split at h
       ·rename_i hf
        obtain⟨a1,a2⟩:=adoptC_ok (e:=e) (τ:=τ) z2 ho2 hj2 hf
        obtain⟨b1,b2,b3⟩:=adoptC1_ok (l:=r) a2 h
        exact⟨z1.trans (Gh.trans a1 b1),b2,z3.trans ⟨b3.lo,b3.lst,b3.df⟩⟩
       ·cases h
      ·cases h
     ·cases h
    ·cases h
   ·exact adoptC1_ok (l:=r) hl h
  ·exact adoptC1_ok (l:=r) hl h
def adoptCs (objs:List (Nat×Oh)):List (Nat×Oh)→TSt S→Option (TSt S)
 | [],s=>some s
 | (h,.box _ _ cs)::r,s=>match adoptC1 objs h 0 cs s with
  | some s'=>adoptCs objs r s'
  | none=>none
 | _::r,s=>adoptCs objs r s
theorem adoptCs_ok {objs:List (Nat×Oh)}:∀{l:List (Nat×Oh)}{s t:TSt S},LInv s→adoptCs objs l s=some t→Gh s.er t.er∧LInv t∧Keep s t
 | [],s,t,hl,h=>by cases h;exact⟨Gh.refl _,hl,Keep.refl s⟩
 | (_,.arr _ _ _ _)::r,s,t,hl,h=>adoptCs_ok (l:=r) hl h
 | (_,.deep _ _ _ _ _)::r,s,t,hl,h=>adoptCs_ok (l:=r) hl h
 | (_,.lp _ _ _)::r,s,t,hl,h=>adoptCs_ok (l:=r) hl h
 | (_,.box _ _ cs)::r,s,t,hl,h=>by
  simp only[adoptCs] at h
  split at h
  ·rename_i s' hs
   obtain⟨a1,a2,a3⟩:=adoptC1_ok hl hs
   obtain⟨b1,b2,b3⟩:=adoptCs_ok (l:=r) a2 h
   exact⟨a1.trans b1,b2,a3.trans b3⟩
  ·cases h
def adoptJ (slots:List (Nat×Sh)) (objs:List (Nat×Oh)) (s:TSt S):Option (TSt S):=match adoptAll objs slots s with
 | some s'=>adoptCs objs objs s'
 | none=>none
theorem adoptJ_ok {slots:List (Nat×Sh)}{objs:List (Nat×Oh)}{s t:TSt S}(hl:LInv s) (h:adoptJ slots objs s=some t):Gh s.er t.er∧LInv t∧Keep s t:=by
 unfold adoptJ at h
 split at h
 ·rename_i s' hs
  obtain⟨a1,a2,a3⟩:=adoptAll_ok hl hs
  obtain⟨b1,b2,b3⟩:=adoptCs_ok a2 h
  exact⟨a1.trans b1,b2,a3.trans b3⟩
 ·cases h
def prepJ (s:TSt S) (j:JH):Option (TSt S):=match adoptJ j.slots j.objs s with
 | some s'=>fzAll (needF s'.frA j.slots++needS s'.stA j.objs) s'
 | none=>none
theorem prepJ_ok {s t:TSt S}{j:JH}(hl:LInv s) (h:prepJ s j=some t):Gh s.er t.er∧LInv t∧Keep s t:=by
 unfold prepJ at h
 split at h
 ·rename_i s' hs
  obtain⟨a1,a2,a3⟩:=adoptJ_ok hl hs
  obtain⟨b1,b2,b3⟩:=fzAll_ok a2 h
  exact⟨a1.trans b1,b2,a3.trans b3⟩
 ·cases h
def carry (t:TSt S) (j:JH):Option (tup S.α j.tys):=
 match prepJ t j with
 | some t'=>match apartT t' with
  | true=>match packJ t' j with
   | some ls=>tupOf j.tys ls
   | none=>none
  | false=>none
 | none=>none
theorem carry_head {s t:TSt S}{c:Cut}{A H B:List Nat}{j:JH}{q:tup S.α j.tys}(hcc:c=cutOf s A H B) (hc:CutOk s c) (hj:jOk c j=true) (h1:t.lo=dropK c.D s.frA) (h2:t.lst=dropK c.DO s.stA) (h3:t.df=s.df) (hl:LInv t)
  (h:carry t j=some q):Gh t.er (headT s c j (leaves j.tys q)).er:=by
 unfold carry at h
 split at h
 ·rename_i t' hp
  obtain⟨a1,a2,a3⟩:=prepJ_ok hl hp
  split at h
  ·rename_i ha
   split at h
   ·rename_i ls hls
    rw[leaves_tupOf h]
    exact a1.trans (head_from hcc hc hj (a3.lo.trans h1) (a3.lst.trans h2) (a3.df.trans h3) ha hls)
   ·cases h
  ·cases h
 ·cases h
theorem carry_out {s t:TSt S}{c:Cut}{A H B:List Nat}{j:JH}{q:tup S.α j.tys}(hcc:c=cutOf s A H B) (hc:CutOk s c) (hj:jOk c j=true) (h1:t.lo=dropK c.D s.frA) (h2:t.lst=dropK c.DO s.stA) (h3:t.df=s.df) (hl:LInv t)
  (h:carry t j=some q):Gh t.er (outT s c j (leaves j.tys q)).er:=
 (carry_head hcc hc hj h1 h2 h3 hl h).trans (same_er (fun d=>by rw[outT_fr hc]) (fun d=>by rw[outT_st hc]) rfl)
inductive Hint where
 | join (j:JH)
 | joinE (j:JH)
 | loop (j:JH) (id:Nat) (x:JH)
 | loopE (j:JH) (id:Nat) (x:JH)
 | reg (W:List Nat)
 | regJ (W:List Nat) (j:JH)
 | fz (l:List Nat)
 | tr (d:Nat)
 | th (h kty:Nat)
 | rng (key hd:Nat)
def hget:List (Nat×Hint)→Nat→Option Hint
 | [],_=>none
 | (k,h)::r,p=>bif Nat.beq k p then some h else hget r p
def asgL:List Oper→List Nat
 | []=>[]
 | o::r=>match o.dst with
  | some d=>d::asgL r
  | none=>asgL r
def asgC:Code→List Nat
 | .region _ ops _=>asgL ops.toList
 | .seq a b=>asgC a++asgC b
 | .cond _ a b=>asgC a++asgC b
 | .block _ c=>asgC c
 | .loop c=>asgC c
 | .scope c=>asgC c
 | .rangeFunc _ ps a b=>ps.toList++(asgC a++asgC b)
 | _=>[]
def csize:Code→Nat
 | .seq x y=>csize x+csize y+1
 | .cond _ x y=>csize x+csize y+1
 | .block _ c=>csize c+1
 | .loop c=>csize c+1
 | .scope c=>csize c+1
 | _=>1
abbrev Run (S:Sig):=TSt S→(B:Type)→(Exit→TSt S→Option B)→Option B
def fitJ (s:TSt S) (c:Cut) (j:JH):Bool:=cutOk s c&&jOk c j
def isPanic:Exit→Bool
 | .panic _=>true
 | _=>false
def meetC (s:TSt S) (c:Cut) (j:JH) (at_:Exit→Bool) (run:Run S){A:Type}(K:Exit→TSt S→Option A):Option A:=
 match fitJ s c j with
 | true=>Option.bind (run (cutIn s c) (tup S.α j.tys) fun e t=>match at_ e with
   | true=>carry t j
   | false=>none) fun q=>K .normal (outT s c j (leaves j.tys q))
 | false=>none
def meetE (s:TSt S) (c:Cut) (j:JH) (at_:Exit→Bool) (run:Run S){A:Type}(K:Exit→TSt S→Option A):Option A:=
 match fitJ s c j with
 | true=>bindE (fun r=>r) (run (cutIn s c) (Ex (tup S.α j.tys) A) fun e t=>match at_ e with
   | true=>match carry t j with
    | some q=>some (.brk q)
    | none=>none
   | false=>match K e (flat s c t) with
     | some r=>some (.ret r)
     | none=>none) fun q=>K .normal (outT s c j (leaves j.tys q))
 | false=>none
def isNormal:Exit→Bool
 | .normal=>true
 | _=>false
def isEnd (id:Nat):Exit→Bool
 | .normal=>true
 | .exit id'=>Nat.beq id' id
 | _=>false
def loopC (fu:Nat) (s:TSt S) (c:Cut) (j:JH) (id:Nat) (x:JH) (run:Run S){A:Type}(K:Exit→TSt S→Option A):Option A:=
 match fitJ s c j&&jOk c x with
 | true=>match packJ s j with
   | some ls=>match tupOf j.tys ls with
    | some q0=>Option.bind (loopF (fun q=>run (headT s c j (leaves j.tys q)) (tup S.α j.tys⊕tup S.α x.tys) fun e t=>match e with
      | .normal=>match carry t j with
       | some q=>some (.inl q)
       | none=>none
      | .exit id'=>match Nat.beq id' id with
       | true=>match carry t x with
        | some q=>some (.inr q)
        | none=>none
       | false=>none
      | _=>none) fu q0) fun q=>K (.exit id) (outT s c x (leaves x.tys q))
    | none=>none
   | none=>none
 | false=>none
def loopE (fu:Nat) (s:TSt S) (c:Cut) (j:JH) (id:Nat) (x:JH) (run:Run S){A:Type}(K:Exit→TSt S→Option A):Option A:=
 match fitJ s c j&&jOk c x with
 | true=>match packJ s j with
   | some ls=>match tupOf j.tys ls with
    | some q0=>bindE (fun r=>r) (loopF (fun q=>run (headT s c j (leaves j.tys q)) (tup S.α j.tys⊕Ex (tup S.α x.tys) A) fun e t=>match e with
      | .normal=>match carry t j with
       | some q=>some (.inl q)
       | none=>none
      | .exit id'=>match Nat.beq id' id with
       | true=>match carry t x with
        | some q=>some (.inr (.brk q))
        | none=>none
       | false=>match K (.exit id') (flat s c t) with
        | some r=>some (.inr (.ret r))
        | none=>none
      | e=>match K e (flat s c t) with
        | some r=>some (.inr (.ret r))
        | none=>none) fu q0) fun q=>K (.exit id) (outT s c x (leaves x.tys q))
    | none=>none
   | none=>none
 | false=>none
def preS (h:Option Hint) (s:TSt S){A:Type}(k:TSt S→Option A):Option A:=
 match h with
 | some (.fz l)=>match fzAll l s with
  | some s'=>k s'
  | none=>none
 | some (.tr d)=>truncC s (.tmp d) k
 | some (.th h kty)=>thawT s h kty k
 | _=>k s
theorem preS_ok {h:Option Hint}{s:TSt S}{A:Type}{k:TSt S→Option A}{r:A}(hl:LInv s) (e:preS h s k=some r):∃t,Gh s.er t.er∧LInv t∧Keep s t∧k t=some r:=by
 unfold preS at e
 split at e
 ·split at e
  ·rename_i s' hz
   obtain⟨a1,a2,a3⟩:=fzAll_ok hl hz
   exact⟨s',a1,a2,a3,e⟩
  ·cases e
 ·exact truncC_ok hl e
 ·exact thawT_ok hl e
 ·exact⟨s,Gh.refl _,hl,Keep.refl s,e⟩
def rngs:Code→Nat→List (Nat×Array Tmp×Code×Code)
 | .seq x y,p=>rngs x (p+1)++rngs y (p+1+csize x)
 | .cond _ x y,p=>rngs x (p+1)++rngs y (p+1+csize x)
 | .block _ c,p=>rngs c (p+1)
 | .loop c,p=>rngs c (p+1)
 | .rangeFunc _ ps a b,p=>[(p,ps,a,b)]
 | _,_=>[]
def RngOk (S:Sig) (N:Nat) (H:List (Nat×Hint)):List (Nat×Array Tmp×Code×Code)→Prop
 | []=>True
 | (p,ps,a,b)::r=>(match hget H p with
  | some (.rng key _)=>(S.lpc key).N=N∧(S.lpc key).ps=ps∧(S.lpc key).asg=a∧(S.lpc key).body=b
  | _=>True)∧RngOk S N H r
theorem RngOk.app {N:Nat}{H:List (Nat×Hint)}:∀{a b:List (Nat×Array Tmp×Code×Code)},RngOk S N H (a++b)→RngOk S N H a∧RngOk S N H b
 | [],b,h=>⟨trivial,h⟩
 | x::r,b,h=>⟨⟨h.1,(RngOk.app h.2).1⟩,(RngOk.app h.2).2⟩
structure Cl (S:Sig) where
 call:(Nat→Bool)→(A:Type)→(List PanicEntry→TSt S→Option A)→TSt S→Option Nat→Call→(TSt S→Option A)→Option A
 rf:(key hd:Nat)→TSt S→Operand→(A:Type)→(Exit→TSt S→Option A)→Option A
def noKeys (ds:List Nat):List (Nat×TV S)→Bool
 | []=>true
 | (d,_)::r=>!(memN d ds)&&noKeys ds r
def forget (ds:List Nat) (s:TSt S):TSt S:={s with fr:=dropK ds s.fr,last:=[]}
def kpD (ops:Array Oper){A:Type}(K:Exit→TSt S→Option A) (ch:List PanicEntry) (t:TSt S):Option A:=
 match noKeys (asgL ops.toList) t.lo with
 | true=>K (.panic ch) (forget (asgL ops.toList) t)
 | false=>none
noncomputable def denC (P:Program) (N fu:Nat) (H:List (Nat×Hint)) (cl:Cl S):Code→Nat→TSt S→(A:Type)→(Exit→TSt S→Option A)→Option A
 | .skip,_,s,_,K=>K .normal s
 | .region _ ops draw,p,s,A,K=>match hget H p with
  | some (.regJ W j)=>meetC s (cutOf s (asgL ops.toList) (keysOf j.objs) (keysOf j.slots)) j isNormal (fun s' B K'=>match draw with
   | true=>drawC P N (fun h=>memN h W) W ops (cl.call (fun h=>memN h W) B (kpD ops K')) s' (K' .normal)
   | false=>regL P N (fun h=>Nat.blt h 1100) ops.toList (cl.call (fun h=>Nat.blt h 1100) B fun ch=>K' (.panic ch)) ops.toList s' (K' .normal)) K
  | some (.reg W)=>match draw with
   | true=>drawC P N (fun h=>memN h W) W ops (cl.call (fun h=>memN h W) A (kpD ops K)) s (K .normal)
   | false=>regL P N (fun h=>Nat.blt h 1100) ops.toList (cl.call (fun h=>Nat.blt h 1100) A fun ch=>K (.panic ch)) ops.toList s (K .normal)
  | _=>preS (hget H p) s fun s=>match draw with
   | true=>drawC P N (fun h=>Nat.blt h 1100) (List.range 1100) ops (cl.call (fun h=>Nat.blt h 1100) A (kpD ops K)) s (K .normal)
   | false=>regL P N (fun h=>Nat.blt h 1100) ops.toList (cl.call (fun h=>Nat.blt h 1100) A fun ch=>K (.panic ch)) ops.toList s (K .normal)
 | .seq x y,p,s,A,K=>preS (hget H p) s fun s=>denC P N fu H cl x (p+1) s A fun e s'=>match e with
  | .normal=>denC P N fu H cl y (p+1+csize x) s' A K
  | e=>K e s'
 | .cond o x y,p,s,A,K=>match o with
  | .tmp t=>match tget s.frA t with
   | some (.dat _ .bool b)=>match hget H p with
    | some (.join j)=>meetC s (cutOf s (asgC x++asgC y) (keysOf j.objs) (keysOf j.slots)) j isNormal (fun s' B K'=>cond b (denC P N fu H cl x (p+1) s' B K') (denC P N fu H cl y (p+1+csize x) s' B K')) K
    | some (.joinE j)=>meetE s (cutOf s (asgC x++asgC y) (keysOf j.objs) (keysOf j.slots)) j isNormal (fun s' B K'=>cond b (denC P N fu H cl x (p+1) s' B K') (denC P N fu H cl y (p+1+csize x) s' B K')) K
    | _=>cond b (denC P N fu H cl x (p+1) s A K) (denC P N fu H cl y (p+1+csize x) s A K)
   | _=>none
  | _=>none
 | .block id c,p,s,A,K=>match hget H p with
  | some (.join j)=>meetC s (cutOf s (asgC c) (keysOf j.objs) (keysOf j.slots)) j (isEnd id) (fun s' B K'=>denC P N fu H cl c (p+1) s' B K') K
  | some (.joinE j)=>meetE s (cutOf s (asgC c) (keysOf j.objs) (keysOf j.slots)) j (isEnd id) (fun s' B K'=>denC P N fu H cl c (p+1) s' B K') K
  | _=>denC P N fu H cl c (p+1) s A fun e s'=>match e with
   | .exit id'=>match Nat.beq id' id with
    | true=>K .normal s'
    | false=>K (.exit id') s'
   | e=>K e s'
 | .loop c,p,s,A,K=>match hget H p with
  | some (.loop j id x)=>match prepJ s j with
   | some s'=>loopC fu s' (cutOf s' (asgC c) (keysOf j.objs) (keysOf j.slots)) j id x (fun s' B K'=>denC P N fu H cl c (p+1) s' B K') K
   | none=>none
  | some (.loopE j id x)=>match prepJ s j with
   | some s'=>loopE fu s' (cutOf s' (asgC c) (keysOf j.objs) (keysOf j.slots)) j id x (fun s' B K'=>denC P N fu H cl c (p+1) s' B K') K
   | none=>none
  | _=>none
 | .exit id,_,s,_,K=>K (.exit id) s
 | .ret,_,s,_,K=>K .ret s
 | .rangeFunc g _ _ _,p,s,A,K=>match hget H p with
  | some (.rng key hd)=>cl.rf key hd s g A K
  | _=>none
 | _,_,_,_,_=>none
section
variable {P:Program}{N:Nat}{cx:Cx}
def DOk (P:Program) (N:Nat) (cx:Cx) (c:Code) (run:Run S):Prop:=
 ∀(s:TSt S) (B:Type) (K:Exit→TSt S→Option B) (r:B),LInv s→run s B K=some r→∀Q:Exit→St→Prop,(∀e t,LInv t→Keep s t→K e t=some r→Q e t.er)→GW P N cx c Q s.er
theorem GW.loopG {σ ρ:Type}{c:Code}{Q:Exit→St→Prop}(E:σ→St) (R:ρ→Exit→St→Prop){body:σ→Option (σ⊕ρ)}{n:Nat}{x0:σ}{e:ρ}(hl:AM.loopF body n x0=some e)
  (hr:∀x o,body x=some o→GW P N cx c (fun ex s=>match o with | .inl x'=>ex=.normal∧Gh s (E x') | .inr r=>ex≠.normal∧R r ex s) (E x)) (hq:∀ex s,ex≠.normal→R e ex s→Q ex s):GW P N cx (.loop c) Q (E x0):=by
 intro μ a w hrel
 refine wpIn_ghost (fun k a w=>∃x μ,AM.loopF body k x=some e∧Rel N cx μ (E x) a w) n ⟨x0,μ,hl,hrel⟩ ?_
 rintro k a w ⟨x,μ,hI,hrel⟩
 cases k with
 | zero=>exact absurd hI (by simp[AM.loopF])
 | succ k=>
  simp only[AM.loopF] at hI
  cases hb:body x with
  | none=>rw[hb] at hI;cases hI
  | some o=>
   rw[hb] at hI
   refine wpIn_mono (hr x o hb μ a w hrel) fun ex a' w' hl=>?_
   cases o with
   | inl x'=>
    cases ex with
    | normal=>
     obtain⟨μ',s',hr',_,hg⟩:=hl
     obtain⟨μ2,h1,_⟩:=hg N cx μ' a' w' hr'
     exact⟨k,Nat.lt_succ_self k,x',μ2,hI,h1⟩
    | outgrown=>exact hl.elim
    | _=>obtain⟨μ',s',hr',hq',_⟩:=hl;cases hq'
   | inr r=>
    cases hI
    cases ex with
    | normal=>obtain⟨μ',s',hr',hq',_⟩:=hl;exact absurd rfl hq'
    | outgrown=>exact hl.elim
    | _=>obtain⟨μ',s',hr',hn,hq'⟩:=hl;exact⟨μ',s',hr',hq _ _ hn hq'⟩
theorem fitJ_spec {s:TSt S}{c:Cut}{j:JH}(h:fitJ s c j=true):CutOk s c∧jOk c j=true:=by
 unfold fitJ at h
 simp only[Bool.and_eq_true] at h
 exact⟨cutOk_spec h.1,h.2⟩
theorem GW.retell {c:Code}{Q Q':Exit→St→Prop}{s:St}(h:GW P N cx c Q' s) (hq:∀e s,Q' e s→∃t,Gh s t∧Q e t):GW P N cx c Q s:=fun μ a w hr=>
 wpIn_mono (h μ a w hr) fun e a' w' hl=>by
  cases e with
  | outgrown=>exact hl.elim
  | _=>
   obtain⟨μ',s',hr',h4⟩:=hl
   obtain⟨t,h5,h6⟩:=hq _ _ h4
   obtain⟨μ2,h7,_⟩:=h5 N cx μ' a' w' hr'
   exact⟨μ2,t,h7,h6⟩
theorem cutIn_keep {s t:TSt S}{c:Cut}(h:Keep (cutIn s c) t):t.lo=dropK c.D s.frA∧t.lst=dropK c.DO s.stA∧t.df=s.df:=⟨h.lo,h.lst,h.df⟩
theorem meetC_ok {code:Code}{s:TSt S}{A H B:List Nat}{j:JH}{at_:Exit→Bool}{run:Run S}{X:Type}{K:Exit→TSt S→Option X}{r:X}(hat:∀e,at_ e=true→isPanic e=false) (hrun:DOk P N cx code run) (hl:LInv s)
  (h:meetC s (cutOf s A H B) j at_ run K=some r){Q:Exit→St→Prop}(hQ:∀e t,LInv t→Keep s t→K e t=some r→Q e t.er):
  GW P N cx code (fun e s'=>at_ e=true∧∃t,Gh s' t∧Q .normal t) s.er:=by
 unfold meetC at h
 split at h
 ·rename_i hf
  obtain⟨hc,hj⟩:=fitJ_spec hf
  obtain⟨q,h1,h2⟩:=bind_some h
  obtain⟨g1,g2⟩:=cutIn_ok s (cutOf s A H B) hl
  refine GW.gh g1 (hrun _ _ _ q g2 h1 _ fun e t hlt hk hK=>?_)
  split at hK
  ·rename_i he
   obtain⟨k1,k2,k3⟩:=cutIn_keep hk
   exact⟨he,_,carry_out rfl hc hj k1 k2 k3 hlt hK,hQ _ _ (LInv_nil rfl) ⟨rfl,rfl,rfl⟩ h2⟩
  ·cases hK
 ·cases h
theorem meetE_ok {code:Code}{s:TSt S}{A H B:List Nat}{j:JH}{at_:Exit→Bool}{run:Run S}{X:Type}{K:Exit→TSt S→Option X}{r:X}(hat:∀e,at_ e=true→isPanic e=false) (hrun:DOk P N cx code run) (hl:LInv s)
  (h:meetE s (cutOf s A H B) j at_ run K=some r){Q:Exit→St→Prop}(hQ:∀e t,LInv t→Keep s t→K e t=some r→Q e t.er):
  GW P N cx code (fun e s'=>(at_ e=true∧∃t,Gh s' t∧Q .normal t)∨(at_ e=false∧∃t,Gh s' t∧Q e t)) s.er:=by
 unfold meetE at h
 split at h
 ·rename_i hf
  obtain⟨hc,hj⟩:=fitJ_spec hf
  obtain⟨ex,h1,h2,h3⟩:=bindE_some h
  obtain⟨g1,g2⟩:=cutIn_ok s (cutOf s A H B) hl
  refine GW.gh g1 (hrun _ _ _ ex g2 h1 _ fun e t hlt hk hK=>?_)
  obtain⟨k1,k2,k3⟩:=cutIn_keep hk
  split at hK
  ·rename_i he
   split at hK
   ·rename_i q hq
    cases hK
    exact .inl ⟨he,_,carry_out rfl hc hj k1 k2 k3 hlt hq,hQ _ _ (LInv_nil rfl) ⟨rfl,rfl,rfl⟩ (h2 q rfl)⟩
   ·cases hK
  ·rename_i he
   split at hK
   ·rename_i r' hr'
    cases hK
    obtain⟨f1,f2,f3⟩:=flat_ok hc k1 k2 k3 hlt
    refine .inr ⟨he,_,f1,hQ e _ f2 f3 ?_⟩
    rw[hr',←h3 r' rfl]
   ·cases hK
 ·cases h
theorem loopC_ok {body:Code}{fu:Nat}{s:TSt S}{A H B:List Nat}{j x:JH}{id:Nat}{run:Run S}{X:Type}{K:Exit→TSt S→Option X}{r:X}(hrun:DOk P N cx body run) (hl:LInv s)
  (h:loopC fu s (cutOf s A H B) j id x run K=some r){Q:Exit→St→Prop}(hQ:∀e t,LInv t→Keep s t→K e t=some r→Q e t.er):
  GW P N cx (.loop body) Q s.er:=by
 unfold loopC at h
 split at h
 ·rename_i hf
  simp only[Bool.and_eq_true] at hf
  obtain⟨hc,hj⟩:=fitJ_spec hf.1
  have hx:=hf.2
  split at h
  ·rename_i ls hls
   split at h
   ·rename_i q0 hq0
    obtain⟨q,h1,h2⟩:=bind_some h
    refine GW.gh (head_in rfl hc hj hls) ?_
    rw[←leaves_tupOf hq0]
    refine GW.retell (GW.loopG (fun q=>(headT s (cutOf s A H B) j (leaves j.tys q)).er) (fun (b:tup S.α x.tys) e s'=>e=.exit id∧∃t,Gh s' t∧t=(outT s (cutOf s A H B) x (leaves x.tys b)).er) h1 (Q:=fun e s'=>e=.exit id∧∃t,Gh s' t∧t=(outT s (cutOf s A H B) x (leaves x.tys q)).er) (fun q' o ho=>?_) (fun e s' hne hR=>hR)) (fun e s' hR=>?_)
    ·refine hrun _ _ _ o (LInv_nil rfl) ho _ fun e t hlt hk hK=>?_
     have k1:t.lo=dropK (cutOf s A H B).D s.frA:=hk.lo
     have k2:t.lst=dropK (cutOf s A H B).DO s.stA:=hk.lst
     have k3:t.df=s.df:=hk.df
     split at hK
     ·split at hK
      ·rename_i q2 hq2
       cases hK
       exact⟨rfl,carry_head rfl hc hj k1 k2 k3 hlt hq2⟩
      ·cases hK
     ·split at hK
      ·rename_i hid
       split at hK
       ·rename_i q2 hq2
        cases hK
        have:=Nat.eq_of_beq_eq_true hid
        subst this
        exact⟨fun e=>(by cases e),rfl,_,carry_out rfl hc hx k1 k2 k3 hlt hq2,rfl⟩
       ·cases hK
      ·cases hK
     ·cases hK
    ·obtain⟨e1,t,e2,e3⟩:=hR
     subst e1;subst e3
     exact⟨_,e2,hQ _ _ (LInv_nil (t:=outT s (cutOf s A H B) x (leaves x.tys q)) rfl) ⟨rfl,rfl,rfl⟩ h2⟩
   ·cases h
  ·cases h
 ·cases h
def LR {β X:Type}(s:TSt S) (K:Exit→TSt S→Option X) (id:Nat) (out:β→St) (b:Ex β X) (e:Exit) (s':St):Prop:=
 match b with
 | .brk b=>e=.exit id∧∃t,Gh s' t∧t=out b
 | .ret r'=>∃t:TSt S,Gh s' t.er∧LInv t∧Keep s t∧K e t=some r'
theorem loopE_ok {body:Code}{fu:Nat}{s:TSt S}{A H B:List Nat}{j x:JH}{id:Nat}{run:Run S}{X:Type}{K:Exit→TSt S→Option X}{r:X}(hrun:DOk P N cx body run) (hl:LInv s)
  (h:loopE fu s (cutOf s A H B) j id x run K=some r){Q:Exit→St→Prop}(hQ:∀e t,LInv t→Keep s t→K e t=some r→Q e t.er):
  GW P N cx (.loop body) Q s.er:=by
 unfold loopE at h
 split at h
 ·rename_i hf
  simp only[Bool.and_eq_true] at hf
  obtain⟨hc,hj⟩:=fitJ_spec hf.1
  have hx:=hf.2
  split at h
  ·rename_i ls hls
   split at h
   ·rename_i q0 hq0
    obtain⟨ex,h1,h2,h3⟩:=bindE_some h
    refine GW.gh (head_in rfl hc hj hls) ?_
    rw[←leaves_tupOf hq0]
    refine GW.retell (GW.loopG (fun q=>(headT s (cutOf s A H B) j (leaves j.tys q)).er)
     (LR s K id fun b=>(outT s (cutOf s A H B) x (leaves x.tys b)).er) h1
     (Q:=LR s K id (fun b=>(outT s (cutOf s A H B) x (leaves x.tys b)).er) ex) (fun q' o ho=>?_) (fun e s' hne hR=>hR)) (fun e s' hR=>?_)
    ·refine hrun _ _ _ o (LInv_nil rfl) ho _ fun e t hlt hk hK=>?_
     have k1:t.lo=dropK (cutOf s A H B).D s.frA:=hk.lo
     have k2:t.lst=dropK (cutOf s A H B).DO s.stA:=hk.lst
     have k3:t.df=s.df:=hk.df
     obtain⟨f1,f2,f3⟩:=flat_ok hc k1 k2 k3 hlt
     split at hK
     ·split at hK
      ·rename_i q2 hq2
       cases hK
       exact⟨rfl,carry_head rfl hc hj k1 k2 k3 hlt hq2⟩
      ·cases hK
     ·split at hK
      ·rename_i hid
       split at hK
       ·rename_i q2 hq2
        cases hK
        have:=Nat.eq_of_beq_eq_true hid
        subst this
        exact⟨fun e=>(by cases e),rfl,_,carry_out rfl hc hx k1 k2 k3 hlt hq2,rfl⟩
       ·cases hK
      ·split at hK
       ·rename_i r' hr'
        cases hK
        exact⟨fun e=>(by cases e),_,f1,f2,f3,hr'⟩
       ·cases hK
     ·rename_i hn1 hn2
      split at hK
      ·rename_i r' hr'
       cases hK
       exact⟨fun e=>hn1 e,_,f1,f2,f3,hr'⟩
      ·cases hK
    ·cases ex with
     | brk b=>
      obtain⟨e1,t,e2,e3⟩:=hR
      subst e1;subst e3
      exact⟨_,e2,hQ _ _ (LInv_nil (t:=outT s (cutOf s A H B) x (leaves x.tys b)) rfl) ⟨rfl,rfl,rfl⟩ (h2 b rfl)⟩
     | ret r'=>
      obtain⟨t,e2,e3,e4,e5⟩:=hR
      refine⟨_,e2,hQ _ _ e3 e4 ?_⟩
      rw[e5,←h3 r' rfl]
   ·cases h
  ·cases h
 ·cases h
end
end
end Go.DN
/-
 DN,part S:what the code does is what 'denC' says.
-/
namespace Go.DN
open Go.AM
section
variable {S:Sig}{P:Program}{N:Nat}{cx:Cx}{fu:Nat}{H:List (Nat×Hint)}{cl:Cl S}
structure ClsOk (P:Program) (N:Nat) (cl:Cl S):Prop where
 call:∀(ok:Nat→Bool) (W:List Nat),(∀h,ok h=true→W.contains h=true)→∀(A:Type) (kp:List PanicEntry→TSt S→Option A) (r:A),ClOk P N W (cl.call ok A kp) kp r
 yld:∀(ok:Nat→Bool) (A:Type) (kp:List PanicEntry→TSt S→Option A) (r:A),YlOk P N (cl.call ok A kp) r
 rf:∀(cx:Cx),cx.ro=none→∀(key hd:Nat) (g:Operand),(S.lpc key).N=N→∀(s:TSt S) (B:Type) (K:Exit→TSt S→Option B) (r:B),LInv s→cl.rf key hd s g B K=some r→∀Q:Exit→St→Prop,(∀e t,LInv t→Keep s t→K e t=some r→Q e t.er)→
  GW P N cx (.rangeFunc g (S.lpc key).ps (S.lpc key).asg (S.lpc key).body) Q s.er
theorem range_ok:∀h,Nat.blt h 1100=true→(List.range 1100).contains h=true:=fun h hh=>List.contains_iff_mem.2 (List.mem_range.2 (by simpa[Nat.blt_eq] using hh))
theorem memN_ok (W:List Nat):∀h,memN h W=true→W.contains h=true:=fun h hh=>List.contains_iff_mem.2 (memN_iff.1 hh)
theorem Gh.lift {c:Code}{Q:Exit→St→Prop}{s:St}(h:GW P N cx c (fun e s'=>∃t,Gh s' t∧Q e t) s):GW P N cx c Q s:=
 GW.retell h fun e s' hq=>hq
theorem asgL_mem:∀{l:List Oper}{d:Nat},d∈l.filterMap (·.dst)→d∈asgL l
 | [],d,h=>by cases h
 | o::r,d,h=>by
  simp only[asgL]
  cases ho:o.dst with
  | none=>
   rw[List.filterMap_cons_none ho] at h
   exact asgL_mem h
  | some x=>
   rw[List.filterMap_cons_some ho] at h
   rcases List.mem_cons.1 h with e | h
   ·subst e;exact List.mem_cons_self
   ·exact List.mem_cons_of_mem _ (asgL_mem h)
theorem noKeys_get {ds:List Nat}:∀{l:List (Nat×TV S)}{d:Nat},noKeys ds l=true→d∈ds→tget l d=none
 | [],_,_,_=>rfl
 | (k,v)::r,d,h,hm=>by
  simp only[noKeys,Bool.and_eq_true,Bool.not_eq_true'] at h
  simp only[tget]
  cases hb:Nat.beq k d with
  | true=>
   have:=Nat.eq_of_beq_eq_true hb
   subst this
   rw[memN_iff.2 hm] at h;cases h.1
  | false=>exact noKeys_get h.2 hm
theorem get_erF_none {ln:Nat→Nat}:∀{fr:List (Nat×TV S)}{t:Nat},tget fr t=none→get (erF ln fr) t=none
 | [],_,_=>rfl
 | (k,g)::r,t,h=>by
  simp only[tget] at h
  simp only[erF,AM.get]
  cases hk:Nat.beq k t with
  | true=>rw[hk] at h;cases h
  | false=>rw[hk] at h;exact get_erF_none h
theorem forget_get (ds:List Nat) (s:TSt S) (hn:noKeys ds s.lo=true) (d:Nat):tget (forget ds s).frA d=if memN d ds=true then none else tget s.frA d:=by
 show tget (dropK ds s.fr++s.lo) d=if memN d ds=true then none else tget (s.fr++s.lo) d
 rw[tget_app,tget_app,tget_dropK]
 cases h:memN d ds with
 | true=>rw[noKeys_get hn (memN_iff.1 h)];rfl
 | false=>rfl
theorem Gh.frw {s t:St}(h1:∀d g,get t.fr d=some g→get s.fr d=some g) (h2:t.st=s.st) (h3:t.df=s.df):Gh s t:=by
 obtain⟨fr,st,df⟩:=s
 obtain⟨fr',st',df'⟩:=t
 dsimp only at h1 h2 h3
 subst h2;subst h3
 exact fun N cx μ a w hr=>⟨μ,{st:=hr.st,nd:=hr.nd,sz:=hr.sz,fr:=fun d g hg=>hr.fr d g (h1 d g hg)},Gh.same fun h k b m h4 h5=>⟨k,h4,h5⟩⟩
theorem get_erF_map {ln:Nat→Nat}(fr:List (Nat×TV S)) (t:Nat):get (erF ln fr) t=(tget fr t).map (TV.er ln):=by
 cases h:tget fr t with
 | none=>exact get_erF_none h
 | some v=>exact get_erF h
theorem forget_ok {ops:Array Oper}{s:TSt S}(hn:noKeys (asgL ops.toList) s.lo=true):Gh s.er (forget (asgL ops.toList) s).er∧∀d,d∈dsts ops→get (forget (asgL ops.toList) s).er.fr d=none:=by
 have key:∀d,get (forget (asgL ops.toList) s).er.fr d=if memN d (asgL ops.toList)=true then none else get s.er.fr d:=by
  intro d
  show get (erF s.ln (forget (asgL ops.toList) s).frA) d=if memN d (asgL ops.toList)=true then none else get (erF s.ln s.frA) d
  rw[get_erF_map,get_erF_map,forget_get _ _ hn]
  split <;> rfl
 refine⟨Gh.frw (fun d g hg=>?_) rfl rfl,fun d hd=>?_⟩
 ·rw[key] at hg
  split at hg
  ·cases hg
  ·exact hg
 ·rw[key,if_pos (memN_iff.2 (asgL_mem hd))]
theorem region_ok (hm:P.follows .mixedOrders=true) (hcl:ClsOk P N cl) (id:Nat) (ops:Array Oper) (draw:Bool) (W:Option (List Nat)):DOk P N cx (.region id ops draw) (fun s B K=>match draw with
  | true=>match W with
   | some W=>drawC P N (fun h=>memN h W) W ops (cl.call (fun h=>memN h W) B (kpD ops K)) s (K .normal)
   | none=>drawC P N (fun h=>Nat.blt h 1100) (List.range 1100) ops (cl.call (fun h=>Nat.blt h 1100) B (kpD ops K)) s (K .normal)
  | false=>regL P N (fun h=>Nat.blt h 1100) ops.toList (cl.call (fun h=>Nat.blt h 1100) B fun ch=>K (.panic ch)) ops.toList s (K .normal)):=by
 intro s B K r hl h Q hQ
 have hp:∀ch (t:TSt S),LInv t→Keep s t→kpD ops K ch t=some r→∃u,Gh t.er u∧Q (.panic ch) u∧∀d,d∈dsts ops→get u.fr d=none:=by
  intro ch t a b c
  unfold kpD at c
  split at c
  ·rename_i hn
   obtain⟨f1,f2⟩:=forget_ok hn
   exact⟨_,f1,hQ (.panic ch) _ (LInv_nil rfl) ⟨b.lo,b.lst,b.df⟩ c,f2⟩
  ·cases c
 cases draw with
 | true=>
  cases W with
  | some W=>exact drawC_ok hm (memN_ok W) (hcl.call _ _ (memN_ok W) B (kpD ops K) r) hl h (fun t a b c=>hQ .normal t a b c) hp
  | none=>exact drawC_ok hm range_ok (hcl.call _ _ range_ok B (kpD ops K) r) hl h (fun t a b c=>hQ .normal t a b c) hp
 | false=>
  have:ops=ops.toList.toArray:=by simp
  rw[this]
  exact GW.region (regL_ok range_ok (hcl.call _ _ range_ok B _ r) (hcl.yld _ B _ r) hl h (fun t a b c=>hQ .normal t a b c) fun ch t a b c=>⟨_,Gh.refl _,hQ (.panic ch) t a b c⟩)
theorem isNormal_p:∀e,isNormal e=true→isPanic e=false:=fun e h=>by cases e <;> first | rfl | cases h
theorem isEnd_p (id:Nat):∀e,isEnd id e=true→isPanic e=false:=fun e h=>by cases e <;> first | rfl | cases h
theorem meet_normal {c:Code}{Q:Exit→St→Prop}{s:St}(h:GW P N cx c (fun e s'=>isNormal e=true∧∃t,Gh s' t∧Q .normal t) s):GW P N cx c Q s:=
 Gh.lift (h.mono fun e s' ⟨h1,t,h2,h3⟩=>by
  cases e with
  | normal=>exact⟨t,h2,h3⟩
  | _=>cases h1)
theorem meet_normalE {c:Code}{Q:Exit→St→Prop}{s:St}(h:GW P N cx c (fun e s'=>(isNormal e=true∧∃t,Gh s' t∧Q .normal t)∨(isNormal e=false∧∃t,Gh s' t∧Q e t)) s):GW P N cx c Q s:=
 Gh.lift (h.mono fun e s' hq=>by
  rcases hq with ⟨h1,t,h2,h3⟩ | ⟨h0,t,h2,h3⟩
  ·cases e with
   | normal=>exact⟨t,h2,h3⟩
   | _=>cases h1
  ·exact⟨t,h2,h3⟩)
theorem meet_end {id:Nat}{c:Code}{Q:Exit→St→Prop}{s:St}(h:GW P N cx c (fun e s'=>isEnd id e=true∧∃t,Gh s' t∧Q .normal t) s):GW P N cx (.block id c) Q s:=
 GW.block (Gh.lift (h.mono fun e s' ⟨h1,t,h2,h3⟩=>by
  refine⟨t,h2,?_⟩
  cases e with
  | normal=>exact h3
  | exit id'=>
   have:=Nat.eq_of_beq_eq_true h1
   subst this
   simp only[Eblock,if_true]
   exact h3
  | _=>cases h1))
theorem meet_endE {id:Nat}{c:Code}{Q:Exit→St→Prop}{s:St}(h:GW P N cx c (fun e s'=>(isEnd id e=true∧∃t,Gh s' t∧Q .normal t)∨(isEnd id e=false∧∃t,Gh s' t∧Q e t)) s):GW P N cx (.block id c) Q s:=
 GW.block (Gh.lift (h.mono fun e s' hq=>by
  rcases hq with ⟨h1,t,h2,h3⟩ | ⟨h0,t,h2,h3⟩
  ·refine⟨t,h2,?_⟩
   cases e with
   | normal=>exact h3
   | exit id'=>
    have:=Nat.eq_of_beq_eq_true h1
    subst this
    simp only[Eblock,if_true]
    exact h3
   | _=>cases h1
  ·refine⟨t,h2,?_⟩
   cases e with
   | normal=>exact h3
   | exit id'=>
    simp only[isEnd] at h0
    simp only[Eblock]
    rw[if_neg (fun e=>by subst e;rw[Nat.beq_refl] at h0;cases h0)]
    exact h3
   | _=>exact h3))
theorem noL {a b:List (Nat×Array Tmp×Code×Code)}(h:a++b=[]∨cx.ro=none):a=[]∨cx.ro=none:=h.imp (fun h=>(List.append_eq_nil_iff.1 h).1) id
theorem noR {a b:List (Nat×Array Tmp×Code×Code)}(h:a++b=[]∨cx.ro=none):b=[]∨cx.ro=none:=h.imp (fun h=>(List.append_eq_nil_iff.1 h).2) id
theorem denC_ok (hm:P.follows .mixedOrders=true) (hcl:ClsOk P N cl):∀(c:Code) (p:Nat),RngOk S N H (rngs c p)→(rngs c p=[]∨cx.ro=none)→DOk P N cx c (fun s B K=>denC P N fu H cl c p s B K)
 | .skip,p,_,_=>fun s B K r hl h Q hQ=>GW.skip (hQ _ s hl (Keep.refl s) h)
 | .region id ops draw,p,_,_=>fun s B K r hl h Q hQ=>by
  simp only[denC] at h
  split at h
  ·rename_i W j _
   refine meet_normal (meetC_ok isNormal_p (run:=fun s B K=>match draw with
    | true=>drawC P N (fun h=>memN h W) W ops (cl.call (fun h=>memN h W) B (kpD ops K)) s (K .normal)
    | false=>regL P N (fun h=>Nat.blt h 1100) ops.toList (cl.call (fun h=>Nat.blt h 1100) B fun ch=>K (.panic ch)) ops.toList s (K .normal)) ?_ hl h hQ)
   intro s B K r hl h Q hQ
   refine region_ok hm hcl id ops draw (some W) s B K r hl ?_ Q hQ
   cases draw <;> exact h
  ·rename_i W _
   refine region_ok hm hcl id ops draw (some W) s B K r hl ?_ Q hQ
   cases draw <;> exact h
  ·obtain⟨s1,g1,g2,g3,h⟩:=preS_ok hl h
   refine GW.gh g1 (region_ok hm hcl id ops draw none s1 B K r g2 ?_ Q fun e t a b c=>hQ e t a (g3.trans b) c)
   cases draw <;> exact h
 | .seq x y,p,hr,ho=>fun s B K r hl h Q hQ=>by
  simp only[denC] at h
  obtain⟨s1,g1,g2,g3,h⟩:=preS_ok hl h
  refine GW.gh g1 (GW.seq (denC_ok hm hcl x _ hr.app.1 (noL ho) s1 B _ r g2 h _ fun e t hlt hk hK=>?_))
  cases e with
  | normal=>exact denC_ok hm hcl y _ hr.app.2 (noR ho) t B K r hlt hK Q fun e' t' a b c=>hQ e' t' a (g3.trans (hk.trans b)) c
  | _=>exact hQ _ t hlt (g3.trans hk) hK
 | .cond o x y,p,hr,ho=>fun s B K r hl h Q hQ=>by
  simp only[denC] at h
  split at h
  ·rename_i t
   split at h
   ·rename_i f b hb
    have hg:get s.er.fr t=some (.val (.bool b)):=by rw[show get s.er.fr t=_ from get_erF hb];exact congrArg some (datG_bool f b)
    have sub:∀(s:TSt S),(∀d,tget s.frA d=tget s.frA d)→True:=fun _ _=>trivial
    have hrun:DOk P N cx (.cond (.tmp t) x y) (fun s' B' K'=>match tget s'.frA t with
     | some (.dat _ .bool b')=>cond b' (denC P N fu H cl x (p+1) s' B' K') (denC P N fu H cl y (p+1+csize x) s' B' K')
     | _=>none):=by
     intro s' B' K' r' hl' h' Q' hQ'
     dsimp only at h'
     split at h'
     ·rename_i f' b' hb'
      have hg':get s'.er.fr t=some (.val (.bool b')):=by rw[show get s'.er.fr t=_ from get_erF hb'];exact congrArg some (datG_bool f' b')
      refine GW.cond hg' (fun e=>?_) (fun e=>?_)
      ·subst e;exact denC_ok hm hcl x _ hr.app.1 (noL ho) s' B' K' r' hl' h' Q' hQ'
      ·subst e;exact denC_ok hm hcl y _ hr.app.2 (noR ho) s' B' K' r' hl' h' Q' hQ'
     ·cases h'
    split at h
    ·rename_i j _
     have h2:meetC s (cutOf s (asgC x++asgC y) (keysOf j.objs) (keysOf j.slots)) j isNormal (fun s' B' K'=>match tget s'.frA t with
      | some (.dat _ .bool b')=>cond b' (denC P N fu H cl x (p+1) s' B' K') (denC P N fu H cl y (p+1+csize x) s' B' K')
      | _=>none) K=some r:=by
      rw[←h]
      unfold meetC
      split
      ·congr 1
       dsimp only
       rw[cutIn_fr,hb]
      ·rfl
     exact meet_normal (meetC_ok isNormal_p hrun hl h2 hQ)
    ·rename_i j _
     have h2:meetE s (cutOf s (asgC x++asgC y) (keysOf j.objs) (keysOf j.slots)) j isNormal (fun s' B' K'=>match tget s'.frA t with
      | some (.dat _ .bool b')=>cond b' (denC P N fu H cl x (p+1) s' B' K') (denC P N fu H cl y (p+1+csize x) s' B' K')
      | _=>none) K=some r:=by
      rw[←h]
      unfold meetE
      split
      ·congr 1
       dsimp only
       rw[cutIn_fr,hb]
      ·rfl
     exact meet_normalE (meetE_ok isNormal_p hrun hl h2 hQ)
    ·refine GW.cond hg (fun e=>?_) (fun e=>?_)
     ·subst e;exact denC_ok hm hcl x _ hr.app.1 (noL ho) s B K r hl h Q hQ
     ·subst e;exact denC_ok hm hcl y _ hr.app.2 (noR ho) s B K r hl h Q hQ
   ·cases h
  ·cases h
 | .block id c,p,hr,ho=>fun s B K r hl h Q hQ=>by
  simp only[denC] at h
  split at h
  ·exact meet_end (meetC_ok (isEnd_p id) (denC_ok hm hcl c _ hr ho) hl h hQ)
  ·exact meet_endE (meetE_ok (isEnd_p id) (denC_ok hm hcl c _ hr ho) hl h hQ)
  ·refine GW.block (denC_ok hm hcl c _ hr ho s B _ r hl h _ fun e t hlt hk hK=>?_)
   cases e with
   | exit id'=>
    dsimp only at hK
    simp only[Eblock]
    split at hK
    ·rename_i he
     rw[if_pos (Nat.eq_of_beq_eq_true he)]
     exact hQ _ t hlt hk hK
    ·rename_i he
     rw[if_neg (fun e=>by subst e;rw[Nat.beq_refl] at he;cases he)]
     exact hQ _ t hlt hk hK
   | _=>exact hQ _ t hlt hk hK
 | .loop c,p,hr,ho=>fun s B K r hl h Q hQ=>by
  simp only[denC] at h
  split at h
  ·split at h
   ·rename_i s' hp
    obtain⟨a1,a2,a3⟩:=prepJ_ok hl hp
    exact GW.gh a1 (loopC_ok (denC_ok hm hcl c _ hr ho) a2 h fun e t x y z=>hQ e t x (a3.trans y) z)
   ·cases h
  ·split at h
   ·rename_i s' hp
    obtain⟨a1,a2,a3⟩:=prepJ_ok hl hp
    exact GW.gh a1 (loopE_ok (denC_ok hm hcl c _ hr ho) a2 h fun e t x y z=>hQ e t x (a3.trans y) z)
   ·cases h
  ·cases h
 | .exit id,p,_,_=>fun s B K r hl h Q hQ=>GW.exit (hQ _ s hl (Keep.refl s) h)
 | .ret,p,_,_=>fun s B K r hl h Q hQ=>GW.ret (hQ _ s hl (Keep.refl s) h)
 | .rangeFunc g ps a b,p,hr,ho=>fun s B K r hl h Q hQ=>by
  simp only[denC] at h
  split at h
  ·rename_i key hd hh
   have h1:=hr.1
   rw[hh] at h1
   obtain⟨e1,e2,e3,e4⟩:=h1
   subst e2;subst e3;subst e4
   exact hcl.rf cx (ho.resolve_left fun h=>by cases h) key hd g e1 s B K r hl h Q hQ
  ·cases h
 | .scope _,p,_,_=>fun s B K r hl h Q hQ=>by simp[denC] at h
 | .label _,p,_,_=>fun s B K r hl h Q hQ=>by simp[denC] at h
 | .goto _,p,_,_=>fun s B K r hl h Q hQ=>by simp[denC] at h
 | .refuse _,p,_,_=>fun s B K r hl h Q hQ=>by simp[denC] at h
end
end Go.DN
/-
 DN,part Sb:a lent slice under a number of the call's own.
-/
namespace Go.DN
open Go.AM
mutual
theorem mvG_no {h h':Nat}:∀g:G,g.hasH h=false→mvG h h' g=g
 | .loc x off,e=>by
  show G.loc (mv h h' x) off=_
  rw[mv_other fun e'=>by subst e';simp[G.hasH,Nat.beq_refl] at e]
 | .osl x sz off n,e=>by
  show G.osl (mv h h' x) sz off n=_
  rw[mv_other fun e'=>by subst e';simp[G.hasH,Nat.beq_refl] at e]
 | .yld x,e=>by
  show G.yld (mv h h' x)=_
  rw[mv_other fun e'=>by subst e';simp[G.hasH,Nat.beq_refl] at e]
 | .mref x,e=>by
  show G.mref (mv h h' x)=_
  rw[mv_other fun e'=>by subst e';simp[G.hasH,Nat.beq_refl] at e]
 | .ks x i sz n,e=>by
  show G.ks (mv h h' x) i sz n=_
  rw[mv_other fun e'=>by subst e';simp[G.hasH,Nat.beq_refl] at e]
 | .kp x i off,e=>by
  show G.kp (mv h h' x) i off=_
  rw[mv_other fun e'=>by subst e';simp[G.hasH,Nat.beq_refl] at e]
 | .agg gs,e=>congrArg G.agg (mvG_noL gs e)
 | .tup gs,e=>congrArg G.tup (mvG_noL gs e)
 | .clo f gs,e=>congrArg (G.clo f) (mvG_noL gs e)
 | .any,_=>rfl
 | .val _,_=>rfl
 | .ifc _,_=>rfl
 | .sl _ _,_=>rfl
 | .ptr _,_=>rfl
 | .fr _,_=>rfl
theorem mvG_noL {h h':Nat}:∀gs:List G,G.hasH.go h gs=false→mvG.go h h' gs=gs
 | [],_=>rfl
 | x::r,e=>by
  simp only[G.hasH.go,Bool.or_eq_false_iff] at e
  simp only[mvG.go,mvG_no x e.1,mvG_noL r e.2]
end
section
variable {S:Sig}
def mvV (h h':Nat):TV S→TV S
 | .loc x o=>.loc (mv h h' x) o
 | .elt x τ i j=>.elt (mv h h' x) τ i j
 | .osl x τ=>.osl (mv h h' x) τ
 | .sub x τ o n=>.sub (mv h h' x) τ o n
 | .yld x=>.yld (mv h h' x)
 | .mp x=>.mp (mv h h' x)
 | .ks x τ i n=>.ks (mv h h' x) τ i n
 | .kp x τ i j=>.kp (mv h h' x) τ i j
 | .kpo b x τ i j=>.kpo b (mv h h' x) τ i j
 | .lpo b x o=>.lpo b (mv h h' x) o
 | .agg l=>.agg (go l)
 | .tup l=>.tup (go l)
 | .clo f l=>.clo f (go l)
 | v=>v
where go:List (TV S)→List (TV S)
 | []=>[]
 | x::r=>mvV h h' x::go r
mutual
theorem mvV_er {h h':Nat}{ln ln':Nat→Nat}(hln:∀x,x≠h'→ln' (mv h h' x)=ln x):∀v:TV S,v.has h'=false→(mvV h h' v).er ln'=mvG h h' (v.er ln)
 | .dat f τ a,_=>(mvG_no _ (datG_noH h f τ a)).symm
 | .ptr f τ a,_=>by cases f <;> rfl
 | .loc _ _,_=>rfl
 | .elt _ _ _ _,_=>rfl
 | .osl x τ,e=>by
  show G.osl _ _ _ (ln' (mv h h' x))=G.osl _ _ _ (ln x)
  rw[hln x fun e'=>by subst e';simp[TV.has,Nat.beq_refl] at e]
 | .sub _ _ _ _,_=>rfl
 | .yld _,_=>rfl
 | .mp _,_=>rfl
 | .ks _ _ _ _,_=>rfl
 | .kp _ _ _ _,_=>rfl
 | .kpo b _ _ _ _,_=>by cases b <;> rfl
 | .lpo b _ _,_=>by cases b <;> rfl
 | .val _,_=>rfl
 | .any,_=>rfl
 | .agg l,e=>congrArg G.agg (mvV_erL hln l e)
 | .tup l,e=>congrArg G.tup (mvV_erL hln l e)
 | .clo f l,e=>congrArg (G.clo f) (mvV_erL hln l e)
theorem mvV_erL {h h':Nat}{ln ln':Nat→Nat}(hln:∀x,x≠h'→ln' (mv h h' x)=ln x):∀l:List (TV S),TV.has.go h' l=false→TV.er.go ln' (mvV.go h h' l)=mvG.go h h' (TV.er.go ln l)
 | [],_=>rfl
 | x::r,e=>by
  simp only[TV.has.go,Bool.or_eq_false_iff] at e
  simp only[mvV.go,TV.er.go,mvG.go,mvV_er hln x e.1,mvV_erL hln r e.2]
end
def mvO (h h':Nat):TO S→TO S
 | .box e m cs=>.box e m (mvV.go h h' cs)
 | .lp l n cs=>.lp l n (mvV.go h h' cs)
 | o=>o
def mvF (h h':Nat):List (Nat×TV S)→List (Nat×TV S)
 | []=>[]
 | (t,v)::r=>(t,mvV h h' v)::mvF h h' r
def mvS (h h':Nat):List (Nat×TO S)→List (Nat×TO S)
 | []=>[]
 | (k,o)::r=>(mv h h' k,mvO h h' o)::mvS h h' r
def TSt.move (s:TSt S) (h h':Nat):TSt S:={fr:=mvF h h' s.frA,lo:=[],st:=mvS h h' s.stA,lst:=[],df:=mvV.go h h' s.df,nx:=s.nx,last:=[]}
theorem mv_inj {h h' x y:Nat}(hx:x≠h') (hy:y≠h'):Nat.beq (mv h h' x) (mv h h' y)=Nat.beq x y:=by
 cases hb:Nat.beq x y with
 | true=>have:=Nat.eq_of_beq_eq_true hb;subst this;exact Nat.beq_refl _
 | false=>
  cases hc:Nat.beq (mv h h' x) (mv h h' y) with
  | false=>rfl
  | true=>
   have e:=Nat.eq_of_beq_eq_true hc
   have hne:x≠y:=fun e=>by subst e;rw[Nat.beq_refl] at hb;cases hb
   by_cases h1:x=h
   ·subst h1
    by_cases h2:y=x
    ·exact absurd h2.symm hne
    ·rw[mv_same,mv_other h2] at e;exact absurd e.symm hy
   ·by_cases h2:y=h
    ·subst h2;rw[mv_same,mv_other h1] at e;exact absurd e hx
    ·rw[mv_other h1,mv_other h2] at e;exact absurd e hne
theorem oget_mvS {h h':Nat}:∀{st:List (Nat×TO S)}{x:Nat},oget st h'=none→x≠h'→oget (mvS h h' st) (mv h h' x)=(oget st x).map (mvO h h')
 | [],_,_,_=>rfl
 | (k,o)::r,x,hn,hx=>by
  simp only[oget] at hn
  cases hb:Nat.beq k h' with
  | true=>rw[hb] at hn;cases hn
  | false=>
   rw[hb] at hn
   have hk:k≠h':=fun e=>by subst e;rw[Nat.beq_refl] at hb;cases hb
   simp only[mvS,oget,mv_inj hk hx]
   cases Nat.beq k x with
   | true=>rfl
   | false=>exact oget_mvS hn hx
theorem mvO_len (h h':Nat) (o:TO S):(mvO h h' o).len=o.len:=by cases o <;> rfl
theorem move_er {s:TSt S}{h h':Nat}(hf:s.free h'=true):(s.move h h').er={fr:=mvFr h h' s.er.fr,st:=mvSt h h' s.er.st,df:=mvG.go h h' s.er.df}:=by
 obtain⟨f1,f2,f3,f4,_⟩:=free_spec hf
 have hln:∀x,x≠h'→(s.move h h').ln (mv h h' x)=s.ln x:=by
  intro x hx
  show lnO (mvS h h' s.stA++[]) (mv h h' x)=lnO s.stA x
  rw[List.append_nil]
  unfold lnO
  rw[oget_mvS f1 hx]
  cases oget s.stA x with
  | none=>rfl
  | some o=>exact mvO_len h h' o
 have e1:∀fr:List (Nat×TV S),frHas h' fr=false→erF (s.move h h').ln (mvF h h' fr)=mvFr h h' (erF s.ln fr):=by
  intro fr
  induction fr with
  | nil=>intro _;rfl
  | cons x r ih=>
   obtain⟨t,v⟩:=x
   intro e
   simp only[frHas,Bool.or_eq_false_iff] at e
   simp only[mvF,erF,mvFr,ih e.2,mvV_er hln v e.1]
 have e2:∀st:List (Nat×TO S),stHas h' st=false→erS (s.move h h').ln (mvS h h' st)=mvSt h h' (erS s.ln st):=by
  intro st
  induction st with
  | nil=>intro _;rfl
  | cons x r ih=>
   obtain⟨t,o⟩:=x
   intro e
   simp only[stHas,Bool.or_eq_false_iff] at e
   simp only[mvS,erS,mvSt,ih e.2]
   congr 2
   cases o with
   | arr e m f τ l=>rfl
   | deep e m f dk τ a=>rfl
   | box e' m cs=>
    show Blk.mk _ _ _ _ _ (TV.er.go _ (mvV.go h h' cs)) _=Blk.mk _ _ _ _ _ (mvG.go h h' (TV.er.go s.ln cs)) _
    rw[mvV_erL hln cs e.1];rfl
   | lp l n cs=>
    show Blk.mk _ _ _ _ _ (TV.er.go _ (mvV.go h h' cs)) _=Blk.mk _ _ _ _ _ (mvG.go h h' (TV.er.go s.ln cs)) _
    rw[mvV_erL hln cs e.1];rfl
 show St.mk (erF _ (mvF h h' s.frA++[])) (erS _ (mvS h h' s.stA++[])) (TV.er.go _ (mvV.go h h' s.df))=_
 rw[List.append_nil,List.append_nil,e1 _ f2,e2 _ f3,mvV_erL hln s.df f4]
 rfl
def moveT:List Nat→TSt S→Option (TSt S)
 | [],s=>some s
 | r::rs,s=>match s.free (r-520)&&!(Nat.beq (r-520) r) with
  | true=>moveT rs (s.move r (r-520))
  | false=>none
theorem moveT_ok {P:Program}{N:Nat}{cx:Cx}{c:Code}{Q:Exit→St→Prop}:∀{l:List Nat}{s t:TSt S},LInv s→moveT l s=some t→(LInv t→GW P N cx c Q t.er)→GW P N cx c Q s.er
 | [],s,t,hl,h,hk=>by cases h;exact hk hl
 | r::rs,s,t,hl,h,hk=>by
  simp only[moveT] at h
  split at h
  ·rename_i hc
   simp only[Bool.and_eq_true,Bool.not_eq_true'] at hc
   refine GW.move r (r-520) (free_fresh hc.1) hc.2 ?_
   rw[←move_er hc.1]
   exact moveT_ok (LInv_nil rfl) h hk
  ·cases h
end
end Go.DN
/-
 DN,part T:functions:what they hand back;contracts;calls that lend nothing.
-/
namespace Go.DN
open Go.AM
section
variable {S:Sig}
def isNil {α:Type}:List α→Bool
 | []=>true
 | _=>false
def resV1 (P:Program) (t:TSt S):ResultVar→Option (TV S)
 | .tmp d=>tget t.frA d
 | .cell c ty=>match tget t.frA c with
  | some (.loc h 0)=>match oget t.stA h with
   | some (.box _ _ vs)=>match aggP P ty with
    | some true=>match decEq (sizP P ty) (some vs.length) with
     | isTrue _=>some (.agg vs)
     | isFalse _=>none
    | some false=>match vs with
     | [v]=>some v
     | _=>none
    | none=>none
   | _=>none
  | _=>none
def okR (D DO:List Nat) (t:TSt S):ResultVar→Bool
 | .tmp d=>!(memN d D)
 | .cell c _=>!(memN c D)&&match tget t.frA c with
  | some (.loc h _)=>!(memN h DO)
  | _=>false
def needR (P:Program) (t:TSt S):List ResultVar→List (Nat×Sh)→List Nat
 | rv::r,(_,sh)::l=>(match resV1 P t rv with | some v=>needV sh v | none=>[])++needR P t r l
 | _,_=>[]
def packR (P:Program) (D DO:List Nat) (t:TSt S):List ResultVar→List (Nat×Sh)→Option (List (Leaf S.α))
 | [],[]=>some []
 | rv::r,(_,sh)::l=>match okR D DO t rv with
  | true=>match resV1 P t rv with
   | some v=>match packV sh v with
    | some xs=>match packR P D DO t r l with
     | some ys=>some (xs++ys)
     | none=>none
    | none=>none
   | none=>none
  | false=>none
 | _,_=>none
def cellShs:Sh→List Sh
 | .agg l=>l
 | x=>[x]
def adoptRs (objs:List (Nat×Oh)):List ResultVar→List (Nat×Sh)→TSt S→Option (TSt S)
 | .cell c _::r,(_,sh)::l,s=>match tget s.frA c with
  | some (.loc h 0)=>match adoptC1 objs h 0 (cellShs sh) s with
   | some s'=>adoptRs objs r l s'
   | none=>none
  | _=>adoptRs objs r l s
 | .tmp _::r,_::l,s=>adoptRs objs r l s
 | _,_,s=>some s
theorem adoptRs_ok {objs:List (Nat×Oh)}:∀{rvs:List ResultVar}{l:List (Nat×Sh)}{s t:TSt S},LInv s→adoptRs objs rvs l s=some t→Gh s.er t.er∧LInv t∧Keep s t
 | .cell c _::r,(_,sh)::l,s,t,hl,h=>by
  simp only[adoptRs] at h
  split at h
  ·split at h
   ·rename_i s' hs
    obtain⟨a1,a2,a3⟩:=adoptC1_ok hl hs
    obtain⟨b1,b2,b3⟩:=adoptRs_ok (rvs:=r) a2 h
    exact⟨a1.trans b1,b2,a3.trans b3⟩
   ·cases h
  ·exact adoptRs_ok (rvs:=r) hl h
 | .tmp _::r,_::l,s,t,hl,h=>adoptRs_ok (rvs:=r) (l:=l) hl h
 | [],_,s,t,hl,h=>by cases h;exact⟨Gh.refl _,hl,Keep.refl s⟩
 | .cell _ _::_,[],s,t,hl,h=>by cases h;exact⟨Gh.refl _,hl,Keep.refl s⟩
 | .tmp _::_,[],s,t,hl,h=>by cases h;exact⟨Gh.refl _,hl,Keep.refl s⟩
def adoptE (rvs:List ResultVar) (slots:List (Nat×Sh)) (objs:List (Nat×Oh)) (s:TSt S):Option (TSt S):=match adoptRs objs rvs slots s with
 | some s'=>adoptJ slots objs s'
 | none=>none
theorem adoptE_ok {rvs:List ResultVar}{slots:List (Nat×Sh)}{objs:List (Nat×Oh)}{s t:TSt S}(hl:LInv s) (h:adoptE rvs slots objs s=some t):Gh s.er t.er∧LInv t∧Keep s t:=by
 unfold adoptE at h
 split at h
 ·rename_i s' hs
  obtain⟨a1,a2,a3⟩:=adoptRs_ok hl hs
  obtain⟨b1,b2,b3⟩:=adoptJ_ok a2 h
  exact⟨a1.trans b1,b2,a3.trans b3⟩
 ·cases h
def endR (P:Program) (t:TSt S) (rvs:List ResultVar) (slots:List (Nat×Sh)) (outs:List (Nat×Oh)):Option (tup S.α (JH.tys ⟨slots,outs⟩)):=
 match adoptE rvs slots outs t with
 | some t1=>match fzAll (needR P t1 rvs slots++needS t1.stA outs) t1 with
  | some t2=>match isNil t2.df&&within (slotOwns slots++objOwns outs) (keysOf outs) with
   | true=>match packR P (badF (keysOf outs) t2.frA) (keysOf outs++badS (keysOf outs) t2.stA) t2 rvs slots with
    | some xs=>match packS t2.stA outs with
     | some ys=>tupOf (JH.tys ⟨slots,outs⟩) (xs++ys)
     | none=>none
    | none=>none
   | false=>none
  | none=>none
 | none=>none
theorem Res.rw {P:Program}{s:St}{rv:ResultVar}{g g':G}(h:Res P s rv g) (hw:RW g g'):Res P s rv g':=fun N cx μ a w hr=>by
 obtain⟨v,h1,h2⟩:=h N cx μ a w hr
 exact⟨v,hw _ _ _ _ _ h1,h2⟩
theorem notbadF {ks:List Nat}:∀{fr:List (Nat×TV S)}{d:Nat}{v:TV S},tget fr d=some v→memN d (badF ks fr)=false→v.bad ks=false
 | [],_,_,h,_=>by cases h
 | (t,w)::r,d,v,h,hm=>by
  simp only[tget] at h
  simp only[badF] at hm
  cases hb:Nat.beq t d with
  | true=>
   rw[hb] at h;cases h
   have e:=Nat.eq_of_beq_eq_true hb
   subst e
   cases hv:w.bad ks with
   | false=>rfl
   | true=>rw[hv] at hm;rw[memN_iff.2 List.mem_cons_self] at hm;cases hm
  | false=>
   rw[hb] at h
   refine notbadF h ?_
   cases hw:w.bad ks with
   | false=>rw[hw] at hm;exact hm
   | true=>
    rw[hw] at hm
    cases hx:memN d (badF ks r) with
    | false=>rfl
    | true=>rw[memN_iff.2 (List.mem_cons_of_mem _ (memN_iff.1 hx))] at hm;cases hm
theorem notbadS {ks:List Nat}:∀{st:List (Nat×TO S)}{d:Nat}{o:TO S},oget st d=some o→memN d (badS ks st)=false→o.bad ks=false
 | [],_,_,h,_=>by cases h
 | (t,w)::r,d,v,h,hm=>by
  simp only[oget] at h
  simp only[badS] at hm
  cases hb:Nat.beq t d with
  | true=>
   rw[hb] at h;cases h
   have e:=Nat.eq_of_beq_eq_true hb
   subst e
   cases hv:w.bad ks with
   | false=>rfl
   | true=>rw[hv] at hm;rw[memN_iff.2 List.mem_cons_self] at hm;cases hm
  | false=>
   rw[hb] at h
   refine notbadS h ?_
   cases hw:w.bad ks with
   | false=>rw[hw] at hm;exact hm
   | true=>
    rw[hw] at hm
    cases hx:memN d (badS ks r) with
    | false=>rfl
    | true=>rw[memN_iff.2 (List.mem_cons_of_mem _ (memN_iff.1 hx))] at hm;cases hm
theorem memN_app {x:Nat}{a b:List Nat}(h:memN x (a++b)=false):memN x a=false∧memN x b=false:=by
 constructor
 ·cases h1:memN x a with
  | false=>rfl
  | true=>rw[memN_iff.2 (List.mem_append_left _ (memN_iff.1 h1))] at h;cases h
 ·cases h1:memN x b with
  | false=>rfl
  | true=>rw[memN_iff.2 (List.mem_append_right _ (memN_iff.1 h1))] at h;cases h
theorem packR_ok {P:Program}{D DO:List Nat}{t u:TSt S}(hu:∀d v,memN d D=false→tget t.frA d=some v→AM.get u.er.fr d=some (v.er t.ln)) (ho:∀h e m cs,memN h DO=false→oget t.stA h=some (.box e m cs)→sget u.er.st h=some ((TO.box e m cs).er t.ln)):
  ∀{rvs:List ResultVar}{slots:List (Nat×Sh)}{xs:List (Leaf S.α)},packR P D DO t rvs slots=some xs→∀(r:List (Leaf S.α)),(fillF slots (xs++r)).2=r∧Ress P u.er rvs (((fillF slots (xs++r)).1.map (·.2)).map (TV.er t.ln))
 | [],[],xs,h,r=>by cases h;exact⟨rfl,trivial⟩
 | rv::rvs,(d,sh)::l,xs,h,r=>by
  simp only[packR] at h
  split at h
  ·rename_i hok
   split at h
   ·rename_i v hv
    split at h
    ·rename_i xs1 hx
     split at h
     ·rename_i ys hy
      cases h
      obtain⟨i1,i2⟩:=packR_ok hu ho hy r
      obtain⟨p1,p2⟩:=packV_ok t.ln hx (ys++r)
      rw[List.append_assoc]
      simp only[fillF]
      rw[p1]
      refine⟨i1,Res.rw ?_ p2,i2⟩
      cases rv with
      | tmp d'=>
       simp only[okR,Bool.not_eq_true'] at hok
       exact Res.tmp (hu d' v hok hv)
      | cell c ty=>
       simp only[okR,Bool.and_eq_true,Bool.not_eq_true'] at hok
       simp only[resV1] at hv
       split at hv
       ·rename_i h' hc
        rw[hc] at hok
        have hc':AM.get u.er.fr c=some (.loc h' 0):=hu c _ hok.1 hc
        split at hv
        ·rename_i e m vs hb
         have hb':=ho h' e m vs (by simpa using hok.2) hb
         split at hv
         ·rename_i ha
          split at hv
          ·rename_i hs _
           cases hv
           have hl:(TV.er.go t.ln vs).length=vs.length:=by rw[er_go,List.length_map]
           have:=Res.cellAgg (P:=P) (t:=ty) hc' hb' rfl (aggP_ok ha) (sizP_ok hs) (by show 0+vs.length≤(TV.er.go t.ln vs).length;omega)
           have e3:(((TO.box e m vs:TO S).er t.ln).cells.drop 0).take vs.length=TV.er.go t.ln vs:=by
            show((TV.er.go t.ln vs).drop 0).take vs.length=_
            rw[List.drop_zero,List.take_of_length_le (by omega)]
           rw[e3] at this
           exact this
          ·cases hv
         ·rename_i ha
          split at hv
          ·cases hv
           exact Res.cell (P:=P) (t:=ty) hc' hb' rfl (aggP_ok ha) (by cases hq:v.er t.ln <;> simp[Blk.out,TO.er,hq])
          ·cases hv
         ·cases hv
        ·cases hv
       ·cases hv
     ·cases h
    ·cases h
   ·cases h
  ·cases h
 | [],_::_,_,h,_=>by cases h
 | _::_,[],_,h,_=>by cases h
theorem fillF_goodL (ks:List Nat):∀(l:List (Nat×Sh)) (ls:List (Leaf S.α)),(∀k,k∈slotOwns l→k∈ks)→∀d v,(d,v)∈(fillF l ls).1→v.bad ks=false
 | [],ls,_,d,v,h=>by cases h
 | (d0,sh)::r,ls,hk,d,v,h=>by
  simp only[fillF] at h
  rcases List.mem_cons.1 h with e | h
  ·cases e;exact fillV_good ks sh ls fun k hk'=>hk k (List.mem_append_left _ hk')
  ·exact fillF_goodL ks r _ (fun k hk'=>hk k (List.mem_append_right _ hk')) d v h
theorem endR_ok {P:Program}{t:TSt S}{rvs:List ResultVar}{slots:List (Nat×Sh)}{outs:List (Nat×Oh)}{q:tup S.α (JH.tys ⟨slots,outs⟩)}(hl:LInv t) (h:endR P t rvs slots outs=some q):
  ∃u:TSt S,Gh t.er u.er∧u.er.df=[]∧Ress P u.er rvs (((fillF slots (leaves _ q)).1.map (·.2)).map (TV.er (lnO (fillS outs (fillF slots (leaves _ q)).2).1)))∧
   ∃O',u.stA=(fillS outs (fillF slots (leaves _ q)).2).1++O'∧(∀k,k∈keysOf outs→u.ln k=lnO (fillS outs (fillF slots (leaves _ q)).2).1 k)∧∀k,k∈objOwns outs→k∈keysOf outs:=by
 unfold endR at h
 split at h
 ·rename_i t1 hp1
  obtain⟨a1,a2,a3⟩:=adoptE_ok hl hp1
  split at h
  ·rename_i t2 hp2
   obtain⟨b1,b2,b3⟩:=fzAll_ok a2 hp2
   split at h
   ·rename_i hc
    simp only[Bool.and_eq_true] at hc
    obtain⟨c1,c2⟩:=hc
    have c2:=within_spec c2
    split at h
    ·rename_i xs hx
     split at h
     ·rename_i ys hy
      have hq:=leaves_tupOf h
      have hdf:t2.df=[]:=by
       cases hd:t2.df with
       | nil=>rfl
       | cons x r=>rw[hd] at c1;cases c1
      let O':=dropK (keysOf outs++badS (keysOf outs) t2.stA) t2.stA
      let F':=dropK (badF (keysOf outs) t2.frA) t2.frA
      let u:TSt S:={fr:=F',lo:=[],st:=(fillS outs ys).1++O',lst:=[],df:=[],nx:=0,last:=[]}
      have eu:u.stA=(fillS outs ys).1++O':=List.append_nil _
      have ef:u.frA=F':=List.append_nil _
      have hks:∀k,k∈keysOf outs→t2.ln k=u.ln k∧u.ln k=lnO (fillS outs ys).1 k:=by
       intro k hk
       obtain⟨o,o',e1,e2,e3⟩:=packS_len hy k hk
       have e4:u.ln k=lnO (fillS outs ys).1 k:=by
        show lnO u.stA k=_
        rw[eu];unfold lnO;rw[oget_appA,e1]
       refine⟨?_,e4⟩
       rw[e4]
       show lnO t2.stA k=_
       unfold lnO;rw[e1,e2];exact e3.symm
      have hg:Gh t2.er u.er:=told (slots:=[]) (xs:=[]) (ks:=keysOf outs) (O':=O') (F':=F') rfl hy ef eu
       (fun d v hv=>by
        have hv:tget (dropK (badF (keysOf outs) t2.frA) t2.frA) d=some v:=hv
        rw[tget_dropK] at hv
        split at hv
        ·cases hv
        ·rename_i hm;exact⟨hv,notbadF hv hm⟩)
       (fun d o ho=>by
        have ho:oget (dropK (keysOf outs++badS (keysOf outs) t2.stA) t2.stA) d=some o:=ho
        rw[oget_dropK] at ho
        split at ho
        ·cases ho
        ·rename_i hm;exact⟨ho,notbadS ho (memN_app hm).2⟩)
       (fun k hk=>(hks k hk).1) (fun k hk=>by cases hk) (fun k hk=>c2 k (List.mem_append_right _ hk)) hdf.symm (by rw[hdf];rfl)
      obtain⟨r1,r2⟩:=packR_ok (P:=P) (u:=u) (t:=t2) (fun d v hm hv=>by
        have e:tget u.frA d=some v:=by rw[ef];show tget (dropK _ t2.frA) d=_;rw[tget_dropK,hm];exact hv
        rw[show AM.get u.er.fr d=_ from get_erF e]
        rw[er_good (fun k hk=>(hks k hk).1) v (notbadF hv hm)])
       (fun k e m cs hm ho=>by
        obtain⟨m1,m2⟩:=memN_app hm
        have hout:oget (fillS outs ys).1 k=none:=by
         cases hh:oget (fillS outs ys).1 k with
         | none=>rfl
         | some o=>
          have:k∈keysOf (fillS outs ys).1:=oget_keys hh
          rw[fillS_keys] at this
          rw[memN_iff.2 this] at m1;cases m1
        have e2:oget u.stA k=some (.box e m cs):=by
         rw[eu,oget_appA,hout]
         show oget (dropK _ t2.stA) k=_
         rw[oget_dropK,hm];exact ho
        rw[show sget u.er.st k=_ from sget_erS e2]
        exact congrArg some (TO.er_good (fun k hk=>(hks k hk).1) _ (notbadS ho m2)).symm) hx ys
      refine⟨u,a1.trans (b1.trans hg),rfl,?_,O',?_,?_⟩
      ·rw[hq,r1]
       have:∀(l:List (Nat×TV S)),(∀d v,(d,v)∈l→v.bad (keysOf outs)=false)→(l.map (·.2)).map (TV.er (lnO (fillS outs ys).1))=(l.map (·.2)).map (TV.er t2.ln):=by
        intro l hl
        induction l with
        | nil=>rfl
        | cons x r ih=>
         simp only[List.map_cons]
         rw[ih fun d v hm=>hl d v (List.mem_cons_of_mem _ hm),er_good (fun k hk=>((hks k hk).1.trans (hks k hk).2).symm) x.2 (hl x.1 x.2 List.mem_cons_self)]
       rw[this _ (fillF_goodL (keysOf outs) slots _ fun k hk=>c2 k (List.mem_append_left _ hk))]
       exact r2
      ·rw[hq,r1];exact eu
      ·rw[hq,r1];exact⟨fun k hk=>(hks k hk).2,fun k hk=>c2 k (List.mem_append_right _ hk)⟩
     ·cases h
    ·cases h
   ·cases h
  ·cases h
 ·cases h
def zipN {α:Type}:List α→Nat→List (Nat×α)
 | [],_=>[]
 | x::r,j=>(j,x)::zipN r (j+1)
def beginT (args:List Sh) (objs:List Oh) (ls:List (Leaf S.α)):TSt S:={fr:=zipN (fillC args ls).1 0,lo:=[],st:=(fillS (zipN objs 1000) (fillC args ls).2).1,lst:=[],df:=[],nx:=300,last:=[]}
def begTys (args:List Sh) (objs:List Oh):List Ty:=shTys args++objTys (zipN objs 1000)
theorem frameOf_er (ln:Nat→Nat):∀(args:List (TV S)) (j:Nat),erF ln (zipN args j)=frameOf (TV.er.go ln args) j
 | [],_=>rfl
 | x::r,j=>by simp only[zipN,erF,TV.er.go,frameOf,frameOf_er ln r (j+1)]
def resV (slots:List (Nat×Sh)) (ls:List (Leaf S.α)):TV S:=match (fillF slots ls).1 with
 | [(_,v)]=>v
 | l=>.tup (l.map (·.2))
def renR (P:Program):List ResultVar→List (Nat×Sh)→TSt S→TSt S
 | rv::r,(_,.own h _)::l,s=>match resV1 P s rv with
  | some (.osl h' _)=>match Nat.beq h h' with
   | true=>renR P r l s
   | false=>match (freeO s h).free h with
    | true=>renR P r l ((freeO s h).move h' h)
    | false=>renR P r l s
  | _=>renR P r l s
 | _::r,_::l,s=>renR P r l s
 | _,_,s=>s
def Gw (s t:St):Prop:=∀(N:Nat) (cx:Cx) (μ:Mu) (a:Act) (w:World),Rel N cx μ s a w→∃μ',Rel N cx μ' t a w
theorem Gh.w {s t:St}(h:Gh s t):Gw s t:=fun N cx μ a w hr=>let ⟨μ',h1,_⟩:=h N cx μ a w hr;⟨μ',h1⟩
theorem Gw.trans {a b c:St}(h:Gw a b) (h':Gw b c):Gw a c:=fun N cx μ ac w hr=>let ⟨μ1,h1⟩:=h N cx μ ac w hr;h' N cx μ1 ac w h1
theorem renR_ok {P:Program}:∀{rvs:List ResultVar}{l:List (Nat×Sh)}{s:TSt S},LInv s→Gw s.er (renR P rvs l s).er∧LInv (renR P rvs l s)
 | rv::r,(_,.own h _)::l,s,hl=>by
  simp only[renR]
  split
  ·rename_i h' _ _
   cases hb:Nat.beq h h' with
   | true=>exact renR_ok hl
   | false=>
    dsimp only
    split
    ·rename_i hf
     obtain⟨a1,a2,_⟩:=freeO_ok h hl
     obtain⟨b1,b2⟩:=renR_ok (P:=P) (rvs:=r) (l:=l) (s:=(freeO s h).move h' h) (LInv_nil rfl)
     refine⟨a1.w.trans (Gw.trans (fun N cx μ a w hr=>?_) b1),b2⟩
     rw[move_er hf]
     exact⟨_,hr.move h' h (free_fresh hf) hb⟩
    ·exact renR_ok hl
  ·exact renR_ok hl
 | [],_,s,hl=>by simp only[renR];exact⟨(Gh.refl _).w,hl⟩
 | _::_,[],s,hl=>by simp only[renR];exact⟨(Gh.refl _).w,hl⟩
 | _::r,(_,.dat _ _)::l,s,hl=>renR_ok (rvs:=r) (l:=l) hl
 | _::r,(_,.ptr _ _)::l,s,hl=>renR_ok (rvs:=r) (l:=l) hl
 | _::r,(_,.loc _ _)::l,s,hl=>renR_ok (rvs:=r) (l:=l) hl
 | _::r,(_,.clo _ _)::l,s,hl=>renR_ok (rvs:=r) (l:=l) hl
 | _::r,(_,.agg _)::l,s,hl=>renR_ok (rvs:=r) (l:=l) hl
 | _::r,(_,.yld _)::l,s,hl=>renR_ok (rvs:=r) (l:=l) hl
 | _::r,(_,.lpo _ _)::l,s,hl=>renR_ok (rvs:=r) (l:=l) hl
 | _::r,(_,.mp _)::l,s,hl=>renR_ok (rvs:=r) (l:=l) hl
 | _::r,(_,.kpo _ _)::l,s,hl=>renR_ok (rvs:=r) (l:=l) hl
 | _::r,(_,.ks _ _)::l,s,hl=>renR_ok (rvs:=r) (l:=l) hl
 | _::r,(_,.any)::l,s,hl=>renR_ok (rvs:=r) (l:=l) hl
 | _::r,(_,.cloN)::l,s,hl=>renR_ok (rvs:=r) (l:=l) hl
 | _::r,(_,.sub _ _)::l,s,hl=>renR_ok (rvs:=r) (l:=l) hl
theorem GW.retellW {P:Program}{N:Nat}{cx:Cx}{c:Code}{Q Q':Exit→St→Prop}{s:St}(h:GW P N cx c Q' s) (hq:∀e s,Q' e s→∃t,Gw s t∧Q e t):GW P N cx c Q s:=fun μ a w hr=>
 wpIn_mono (h μ a w hr) fun e a' w' hl=>by
  cases e with
  | outgrown=>exact hl.elim
  | _=>
   obtain⟨μ',s',hr',h4⟩:=hl
   obtain⟨t,h5,h6⟩:=hq _ _ h4
   obtain⟨μ2,h7⟩:=h5 N cx μ' a' w' hr'
   exact⟨μ2,t,h7,h6⟩
noncomputable def denF (P:Program) (N fu:Nat) (H:List (Nat×Hint)) (cl:Cl S) (c:Code) (mvs:List Nat) (rvs:List ResultVar) (args:List Sh) (objs:List Oh) (slots:List (Nat×Sh)) (outs:List (Nat×Oh)) (q:tup S.α (begTys args objs)):Option (tup S.α (JH.tys ⟨slots,outs⟩)):=
 match moveT mvs (beginT args objs (leaves _ q)) with
 | some s=>denC P N fu H cl c 0 s _ fun e t=>match e with
  | .ret=>endR P (renR P rvs slots t) rvs slots outs
  | .normal=>endR P (renR P rvs slots t) rvs slots outs
  | _=>none
 | none=>none
theorem fz_cell (st st':List (Nat×Blk)) (f:Bool){τ:Ty}(h:τ.isSt=false) (a:S.D τ):fzG st st' (frB f (cellG S τ a))=some (frB f (cellG S τ a)):=by
 cases τ with
 | st n=>cases h
 | _=>cases f <;> rfl
theorem fz_dat (st st':List (Nat×Blk)) (f:Bool) (τ:Ty) (a:S.D τ):fzG st st' (datG f τ a)=some (datG f τ a):=by
 cases τ with
 | st n=>
  show(fzG.go st st' ((encT S (.st n) a).map (frB f))).map G.agg=_
  have:fzG.go st st' ((encT S (.st n) a).map (frB f))=some ((encT S (.st n) a).map (frB f)):=by
   rw[enc_st]
   have h:=cells_one n a
   generalize S.cells n a=l at h
   induction l with
   | nil=>rfl
   | cons x r ih=>
    simp only[List.map_cons,fzG.go]
    rw[fz_cell st st' f (h x List.mem_cons_self) x.a,ih fun y hy=>h y (List.mem_cons_of_mem _ hy)]
  rw[this];rfl
 | _=>exact fz_cell st st' f rfl a
theorem subSt_of {ln:Nat→Nat}{st:List (Nat×Blk)}:∀{l:List (Nat×TO S)},(∀j o,(j,o)∈l→sget st j=some (o.er ln))→SubSt st (erS ln l)
 | [],_=>trivial
 | (j,o)::r,h=>⟨h j o List.mem_cons_self,subSt_of fun j o hm=>h j o (List.mem_cons_of_mem _ hm)⟩
def TV.still (ks:List Nat):TV S→Bool
 | .dat _ _ _=>true
 | .ptr _ _ _=>true
 | .loc h _=>memN h ks
 | .osl h _=>memN h ks
 | .sub h _ _ _=>memN h ks
 | .agg l=>go ks l
 | .tup l=>go ks l
 | .clo _ l=>go ks l
 | .val (.slice none 0 0)=>false
 | .val _=>true
 | .any=>true
 | .kpo _ h _ _ _=>memN h ks
 | .lpo _ h _=>memN h ks
 | .ks h _ _ _=>memN h ks
 | .mp h=>memN h ks
 | _=>false
where go (ks:List Nat):List (TV S)→Bool
 | []=>true
 | x::r=>x.still ks&&go ks r
theorem sget_keys {ln:Nat→Nat}{l:List (Nat×TO S)}{h:Nat}(hk:h∈keysOf l):∃k,sget (erS ln l) h=some k:=by
 obtain⟨o,ho⟩:=oget_of_keys hk
 exact⟨_,sget_erS ho⟩
mutual
theorem still_ok {ln lo:Nat→Nat}{st:List (Nat×Blk)}{l:List (Nat×TO S)}:∀v:TV S,v.still (keysOf l)=true→fzG st (erS lo l) (v.er ln)=some (v.er ln)
 | .dat f τ a,_=>fz_dat st _ f τ a
 | .ptr f τ a,_=>by cases f <;> rfl
 | .loc h o,e=>by
  obtain⟨k,hk⟩:=sget_keys (ln:=lo) (memN_iff.1 e)
  simp only[TV.er,fzG,hk]
 | .osl h τ,e=>by
  obtain⟨k,hk⟩:=sget_keys (ln:=lo) (memN_iff.1 e)
  simp only[TV.er,fzG,hk]
 | .agg vs,e=>by
  show(fzG.go st (erS lo l) (TV.er.go ln vs)).map G.agg=_
  rw[still_okL vs e];rfl
 | .tup vs,e=>by
  show(fzG.go st (erS lo l) (TV.er.go ln vs)).map G.tup=_
  rw[still_okL vs e];rfl
 | .clo f vs,e=>by
  show(fzG.go st (erS lo l) (TV.er.go ln vs)).map (G.clo f)=_
  rw[still_okL vs e];rfl
 | .val u,e=>by
  have key:normV u=.val u:=by
   unfold TV.still at e
   unfold normV
   split
   ·cases e
   ·rfl
  show some (normV u)=some (.val u)
  rw[key]
 | .any,_=>rfl
 | .sub h τ o n,e=>by
  obtain⟨k,hk⟩:=sget_keys (ln:=lo) (memN_iff.1 e)
  simp only[TV.er,fzG,hk]
 | .elt _ _ _ _,e=>by cases e
 | .yld _,e=>by cases e
 | .mp _,_=>rfl
 | .ks _ _ _ _,_=>rfl
 | .kp _ _ _ _,e=>by cases e
 | .kpo b _ _ _ _,e=>by cases b <;> rfl
 | .lpo b h o,e=>by
  cases b with
  | true=>rfl
  | false=>
   obtain⟨k,hk⟩:=sget_keys (ln:=lo) (memN_iff.1 e)
   show fzG st (erS lo l) (.loc h o)=_
   simp only[fzG,hk]
   rfl
theorem still_okL {ln lo:Nat→Nat}{st:List (Nat×Blk)}{l:List (Nat×TO S)}:∀vs:List (TV S),TV.still.go (keysOf l) vs=true→fzG.go st (erS lo l) (TV.er.go ln vs)=some (TV.er.go ln vs)
 | [],_=>rfl
 | x::r,e=>by
  simp only[TV.still.go,Bool.and_eq_true] at e
  simp only[TV.er.go,fzG.go,still_ok x e.1,still_okL r e.2]
end
mutual
def Sh.still (ks:List Nat):Sh→Bool
 | .dat _ _=>true
 | .ptr _ _=>true
 | .own h _=>memN h ks
 | .loc h _=>memN h ks
 | .clo _ l=>shStill ks l
 | .agg l=>shStill ks l
 | .yld _=>false
 | .mp h=>memN h ks
 | .kpo h _=>memN h ks
 | .lpo h _=>memN h ks
 | .ks h _=>memN h ks
 | .any=>true
 | .cloN=>true
 | .sub h _=>memN h ks
def shStill (ks:List Nat):List Sh→Bool
 | []=>true
 | x::r=>x.still ks&&shStill ks r
end
def slotStill (ks:List Nat):List (Nat×Sh)→Bool
 | []=>true
 | (_,x)::r=>x.still ks&&slotStill ks r
mutual
theorem fillV_still (ks:List Nat):∀(sh:Sh) (ls:List (Leaf S.α)),sh.still ks=true→(fillV sh ls).1.still ks=true
 | .dat f τ,ls,_=>by cases ls <;> rfl
 | .ptr f τ,ls,_=>by cases ls <;> rfl
 | .own k τ,ls,h=>h
 | .loc _ _,ls,h=>h
 | .clo f l,ls,h=>fillC_still ks l ls h
 | .agg l,ls,h=>fillC_still ks l ls h
 | .yld _,ls,h=>by cases h
 | .mp _,ls,h=>h
 | .ks _ _,ls,h=>by
  simp only[fillV]
  split
  ·exact h
  ·rfl
 | .kpo _ _,ls,h=>by
  simp only[fillV]
  split
  ·exact h
  ·rfl
 | .lpo _ _,ls,h=>by
  simp only[fillV]
  split
  ·exact h
  ·rfl
 | .any,ls,_=>rfl
 | .cloN,ls,_=>by
  simp only[fillV]
  split <;> rfl
 | .sub _ _,ls,h=>by
  simp only[fillV]
  split
  ·exact h
  ·rfl
theorem fillC_still (ks:List Nat):∀(l:List Sh) (ls:List (Leaf S.α)),shStill ks l=true→TV.still.go ks (fillC l ls).1=true
 | [],_,_=>rfl
 | sh::r,ls,h=>by
  simp only[shStill,Bool.and_eq_true] at h
  simp only[fillC,TV.still.go,fillV_still ks sh ls h.1,fillC_still ks r _ h.2,Bool.and_self]
end
theorem fillF_still (ks:List Nat):∀(l:List (Nat×Sh)) (ls:List (Leaf S.α)),slotStill ks l=true→TV.still.go ks ((fillF l ls).1.map (·.2))=true
 | [],_,_=>rfl
 | (d,sh)::r,ls,h=>by
  simp only[slotStill,Bool.and_eq_true] at h
  simp only[fillF,List.map_cons,TV.still.go,fillV_still ks sh ls h.1,fillF_still ks r _ h.2,Bool.and_self]
theorem pack_still {ks:List Nat}{slots:List (Nat×Sh)}(ls:List (Leaf S.α)) (h:slotStill ks slots=true):(resV slots ls).still ks=true:=by
 have:=fillF_still ks slots ls h
 unfold resV
 generalize (fillF slots ls).1=l at this
 match l with
 | []=>rfl
 | [(_,v)]=>simpa[TV.still.go] using this
 | (_,v)::(_,v')::r=>exact this
def ndK:List Nat→Bool
 | []=>true
 | x::r=>!(memN x r)&&ndK r
theorem ndK_get:∀{l:List (Nat×TO S)},ndK (keysOf l)=true→∀j o,(j,o)∈l→oget l j=some o
 | [],_,_,_,h=>by cases h
 | (k,x)::r,hn,j,o,hm=>by
  simp only[keysOf,ndK,Bool.and_eq_true,Bool.not_eq_true'] at hn
  rcases List.mem_cons.1 hm with e | hm
  ·cases e;simp only[oget,Nat.beq_refl,cond_true]
  ·have ih:=ndK_get hn.2 j o hm
   rw[oget_cons_other _ _ fun e=>?_]
   ·exact ih
   ·subst e
    have:=memN_iff.2 (oget_keys ih)
    rw[hn.1] at this;cases this
theorem leaves_len:∀(ts:List Ty) (q:tup S.α ts),(leaves ts q).length=ts.length
 | [],_=>rfl
 | [_],_=>rfl
 | _::u::r,q=>by simp only[leaves,List.length_cons,leaves_len (u::r) q.2]
theorem pack_er (ln:Nat→Nat) (slots:List (Nat×Sh)) (ls:List (Leaf S.α)):pack (((fillF slots ls).1.map (·.2)).map (TV.er ln))=(resV slots ls).er ln:=by
 unfold resV
 generalize (fillF slots ls).1=l
 match l with
 | []=>rfl
 | [(_,v)]=>rfl
 | (_,v)::(_,v')::r=>
  simp only[List.map_cons,pack,TV.er,er_go]
def shapesOk (N:Nat) (args:List Sh) (slots:List (Nat×Sh)) (outs:List (Nat×Oh)):Bool:=
 Nat.ble args.length N&&(slotStill (keysOf outs) slots&&ndK (keysOf outs))
theorem fillC_len:∀(l:List Sh) (ls:List (Leaf S.α)),(fillC l ls).1.length=l.length
 | [],_=>rfl
 | x::r,ls=>by simp only[fillC,List.length_cons,fillC_len r]
def Ans (slots:List (Nat×Sh)) (outs:List (Nat×Oh)) (r:tup S.α (JH.tys ⟨slots,outs⟩)) (g:G) (st:List (Nat×Blk)):Prop:=
 g=(resV slots (leaves _ r)).er (lnO (fillS outs (fillF slots (leaves _ r)).2).1)∧st=erS (lnO (fillS outs (fillF slots (leaves _ r)).2).1) (fillS outs (fillF slots (leaves _ r)).2).1
theorem denF_gw {P : Program} {N fu : Nat} {H : List (Nat × Hint)} {cl : Cl S} (hm : P.follows .mixedOrders = true) (hcl : ClsOk P N cl)
    {f : FuncId} {fn : Func} {c : Code} {args : List Sh} {objs : List Oh} {slots : List (Nat × Sh)} {outs : List (Nat × Oh)} {q : tup S.α (begTys args objs)} {r : tup S.α (JH.tys ⟨slots, outs⟩)} (hf : P.funcs[f]? = some fn) (hb : fn.body = some c) (hN : fn.ntmps = N)
    (hr : shapesOk N args slots outs = true) (hrg : RngOk S N H (rngs c 0)) {mvs : List Nat} (h : denF P N fu H cl c mvs fn.results.toList args objs slots outs q = some r) {cx : Cx} (hro : cx.ro = none) :
    GW P N cx c (RetQ P fn (Ans slots outs r)) { fr := frameOf (TV.er.go (beginT args objs (leaves _ q)).ln (fillC args (leaves _ q)).1) 0, st := (beginT args objs (leaves _ q)).er.st, df := [] } := by
  simp only [shapesOk, Bool.and_eq_true] at hr
  obtain ⟨hle, hr3, hr4⟩ := hr
  have e0 : (⟨frameOf (TV.er.go (beginT args objs (leaves _ q)).ln (fillC args (leaves _ q)).1) 0, (beginT args objs (leaves _ q)).er.st, []⟩ : St) = (beginT args objs (leaves _ q)).er := by
    rw [← frameOf_er]
    show St.mk _ _ _ = St.mk (erF _ (zipN (fillC args (leaves _ q)).1 0 ++ [])) _ _
    rw [List.append_nil]; rfl
  rw [e0]
  unfold denF at h
  split at h
  rotate_left
  · cases h
  rename_i s0 hmv
  refine moveT_ok (LInv_nil rfl) hmv fun hl0 => ?_
  refine GW.retellW (Q' := fun e s' => (e = .ret ∨ e = .normal) ∧ ∃ t : TSt S, Gw s' t.er ∧ LInv t ∧ endR P t fn.results.toList slots outs = some r) (denC_ok hm hcl c 0 hrg (.inr hro) _ _ _ r hl0 h _ fun e t hlt hk hK => ?_) fun e s' hq => ?_
  · split at hK
    · obtain ⟨g1, g2⟩ := renR_ok (P := P) (rvs := fn.results.toList) (l := slots) hlt
      exact ⟨.inl rfl, _, g1, g2, hK⟩
    · obtain ⟨g1, g2⟩ := renR_ok (P := P) (rvs := fn.results.toList) (l := slots) hlt
      exact ⟨.inr rfl, _, g1, g2, hK⟩
    · cases hK
  · obtain ⟨he, t, hg0, hlt, hE⟩ := hq
    obtain ⟨u, hg, hdf, r1, O', eu, hln, hown⟩ := endR_ok hlt hE
    refine ⟨_, hg0.trans hg.w, ?_⟩
    have hk : keysOf (fillS outs (fillF slots (leaves (JH.tys ⟨slots, outs⟩) r)).2).1 = keysOf outs := fillS_keys _ _
    refine RetQ.mk he _ ((resV slots (leaves _ r)).er (lnO (fillS outs (fillF slots (leaves _ r)).2).1)) _ r1 (subSt_of (ln := lnO (fillS outs (fillF slots (leaves _ r)).2).1) (l := (fillS outs (fillF slots (leaves _ r)).2).1) fun j o hm => ?_) ?_ ⟨rfl, rfl⟩ hdf
    · have e1 : oget (fillS outs (fillF slots (leaves _ r)).2).1 j = some o := ndK_get (by rw [hk]; exact hr4) j o hm
      have e2 : oget u.stA j = some o := by rw [eu, oget_appA, e1]
      rw [show sget u.er.st j = _ from sget_erS e2]
      have hj : o.er u.ln = o.er (lnO (fillS outs (fillF slots (leaves _ r)).2).1) := TO.er_good hln o (fillS_good (keysOf outs) outs _ hown j o e1)
      rw [hj]
    · rw [pack_er]
      refine still_ok _ ?_
      rw [hk]
      exact pack_still _ hr3
theorem denF_ok {P : Program} {N fu : Nat} {H : List (Nat × Hint)} {cl : Cl S} (hm : P.follows .mixedOrders = true) (hcl : ClsOk P N cl)
  {f : FuncId} {fn : Func} {c : Code} {args : List Sh} {objs : List Oh} {slots : List (Nat × Sh)} {outs : List (Nat × Oh)} {q : tup S.α (begTys args objs)} {r : tup S.α (JH.tys ⟨slots, outs⟩)} (hf : P.funcs[f]? = some fn) (hb : fn.body = some c) (hN : fn.ntmps = N)
  (hr : shapesOk N args slots outs = true) (hrg : RngOk S N H (rngs c 0)) {mvs : List Nat} (h : denF P N fu H cl c mvs fn.results.toList args objs slots outs q = some r) :
  GM P f (TV.er.go (beginT args objs (leaves _ q)).ln (fillC args (leaves _ q)).1) (beginT args objs (leaves _ q)).er.st (Ans slots outs r) := by
 have hr0 := hr
 simp only [shapesOk, Bool.and_eq_true] at hr0
 exact GM.of hf hb hN (by rw [er_go, List.length_map, fillC_len]; exact hr0.1) fun cx hro => denF_gw hm hcl hf hb hN hr hrg h hro
end
end Go.DN
/-
 DN,part U:calls that lend nothing.
-/
namespace Go.DN
open Go.AM
section
variable {S:Sig}
def view1 (s:TSt S) (τ:Ty):TV S→Option (S.D τ)
 | .dat _ τ' a=>match τ'.isSt with
  | true=>none
  | false=>castT τ' τ a
 | .val (.slice none 0 0)=>match τ with
  | .list _=>some []
  | _=>none
 | .osl h τ2=>match oget s.stA h with
  | some (.arr _ _ _ τ' l)=>match decEq τ' τ2 with
   | isTrue _=>castT (.list τ') τ l
   | isFalse _=>none
  | _=>none
 | _=>none
def viewL (s:TSt S):List Ty→List (TV S)→Option (List (Leaf S.α))
 | [],[]=>some []
 | τ::ts,v::vs=>match view1 s τ v with
  | some a=>match viewL s ts vs with
   | some l=>some (⟨τ,a⟩::l)
   | none=>none
  | none=>none
 | _,_=>none
def viewD (s:TSt S) (τ:Ty) (v:TV S):Option (S.D τ):=
 match v with
 | .dat _ τ' a=>castT τ' τ a
 | .agg vs=>match τ with
  | .st n=>match viewL s (S.tys n) vs with
   | some l=>S.put n l
   | none=>none
  | _=>none
 | v=>view1 s τ v
def viewP (s:TSt S) (τ:Ty) (v:TV S):Option (S.D τ):=
 match v with
 | .ptr _ τ' a=>castT τ' τ a
 | .loc h 0=>match oget s.stA h with
  | some (.box _ _ vs)=>match τ with
   | .st n=>match viewL s (S.tys n) vs with
    | some l=>S.put n l
    | none=>none
   | τ=>match vs with
    | [v]=>view1 s τ v
    | _=>none
  | _=>none
 | _=>none
mutual
def viewT (s:TSt S):Sh→TV S→Option (List (Leaf S.α))
 | .dat false τ,v=>match viewD s τ v with
  | some a=>some [⟨τ,a⟩]
  | none=>none
 | .ptr false τ,v=>match viewP s τ v with
  | some a=>some [⟨τ,a⟩]
  | none=>none
 | .clo f l,v=>match v with
  | .clo f' vs=>match Nat.beq f' f with
   | true=>viewTL s l vs
   | false=>none
  | _=>none
 | _,_=>none
def viewTL (s:TSt S):List Sh→List (TV S)→Option (List (Leaf S.α))
 | [],[]=>some []
 | x::r,v::vs=>match viewT s x v with
  | some a=>match viewTL s r vs with
   | some l=>some (a++l)
   | none=>none
  | none=>none
 | _,_=>none
end
theorem view_cell (n:Nat) (st:List (Nat×Blk)) (f:Bool){τ:Ty}(h:τ.isSt=false) (a:S.D τ):view (n+1) st (frB f (cellG S τ a))=some (cellG S τ a):=by
 cases τ with
 | st n=>cases h
 | _=>cases f <;> rfl
theorem view1_ok {s:TSt S}{τ:Ty}{v:TV S}{a:S.D τ}(n:Nat) (h:view1 s τ v=some a):view (n+1) s.er.st (v.er s.ln)=some (cellG S τ a)∧τ.isSt=false:=by
 unfold view1 at h
 split at h
 ·split at h
  ·cases h
  ·rename_i hs
   have:=castT_some h
   cases this
   refine⟨?_,hs⟩
   rw[er_dat1 hs]
   exact view_cell n _ _ hs _
 ·split at h
  ·cases h;exact⟨rfl,rfl⟩
  ·cases h
 ·rename_i hh τ2
  split at h
  ·rename_i e m f τ' l ho
   split at h
   ·rename_i e1 _
    subst e1
    have:=castT_some h
    cases this
    refine⟨?_,rfl⟩
    show view (n+1) s.er.st (.osl hh (S.sz τ') 0 (s.ln hh))=_
    simp only[view,sget_st ho,TO.er]
    rw[ln_arr ho,List.drop_zero,List.take_of_length_le (by rw[encs_lengthT];exact Nat.le_refl _)]
    rfl
   ·cases h
  ·cases h
 ·cases h
theorem viewL_ok {s:TSt S}(n:Nat):∀{ts:List Ty}{vs:List (TV S)}{l:List (Leaf S.α)},viewL s ts vs=some l→mapO (view (n+1) s.er.st) (TV.er.go s.ln vs)=some (l.map fun x=>cellG S x.τ x.a)
 | [],[],_,h=>by cases h;rfl
 | τ::ts,v::vs,l,h=>by
  simp only[viewL] at h
  split at h
  ·rename_i a ha
   split at h
   ·rename_i l' hl
    cases h
    simp only[TV.er.go,mapO,(view1_ok n ha).1,viewL_ok n hl,List.map_cons]
   ·cases h
  ·cases h
 | [],_::_,_,h=>by cases h
 | _::_,[],_,h=>by cases h
theorem view_agg {n:Nat}{st:List (Nat×Blk)}{gs gs':List G}(h:mapO (view n st) gs=some gs'):view (n+1) st (.agg gs)=some (.agg gs'):=by
 show(match mapO (view n st) gs with | some gs'=>some (G.agg gs') | none=>none)=_
 rw[h]
theorem view_loc {n:Nat}{st:List (Nat×Blk)}{h:Nat}{k:Blk}{gs':List G}(hk:sget st h=some k) (hlp:k.lp=none) (hp:k.pure=false) (hm:mapO (view n st) k.cells=some gs'):view (n+1) st (.loc h 0)=some (.ptr gs'):=by
 show(match sget st h with
  | some k=>match k.lp with
   | some _=>none
   | none=>match k.pure with
    | true=>some (G.ptr (k.cells.drop 0))
    | false=>match mapO (view n st) (k.cells.drop 0) with
     | some cs=>some (.ptr cs)
     | none=>none
  | none=>none)=_
 rw[hk]
 dsimp only
 rw[hlp]
 dsimp only
 rw[hp,List.drop_zero]
 dsimp only
 rw[hm]
theorem viewD_ok {s:TSt S}{τ:Ty}{v:TV S}{a:S.D τ}(n:Nat) (h:viewD s τ v=some a) (ln:Nat→Nat):view (n+2) s.er.st (v.er s.ln)=some ((TV.dat false τ a:TV S).er ln):=by
 have one:view1 s τ v=some a→view (n+2) s.er.st (v.er s.ln)=some ((TV.dat false τ a:TV S).er ln):=by
  intro h
  obtain⟨h1,h2⟩:=view1_ok (n+1) h
  rw[h1,er_dat1 h2];rfl
 unfold viewD at h
 split at h
 ·rename_i f τ' a'
  have:=castT_some h
  cases this
  cases τ with
  | st k=>
   show view (n+2) s.er.st (.agg ((encT S (.st k) a).map (frB f)))=some (.agg ((encT S (.st k) a).map (frB false)))
   have key:mapO (view (n+1) s.er.st) ((encT S (.st k) a).map (frB f))=some ((encT S (.st k) a).map (frB false)):=by
    rw[enc_st]
    have h:=cells_one k a
    generalize S.cells k a=l at h
    induction l with
    | nil=>rfl
    | cons x r ih=>
     simp only[List.map_cons,mapO]
     rw[view_cell n _ f (h x List.mem_cons_self) x.a,ih fun y hy=>h y (List.mem_cons_of_mem _ hy)]
     rfl
   exact view_agg key
  | _=>exact one (by unfold view1;exact h)
 ·rename_i vs
  split at h
  ·rename_i k
   split at h
   ·rename_i l hl
    have hp:=S.put_cells _ _ _ h
    show view (n+2) s.er.st (.agg (TV.er.go s.ln vs))=some (.agg ((encT S (.st k) a).map (frB false)))
    have e:(frB false)=(id:G→G):=rfl
    rw[e,List.map_id,enc_st,hp]
    exact view_agg (viewL_ok n hl)
   ·cases h
  ·cases h
 ·exact one h
theorem viewP_ok {s:TSt S}{τ:Ty}{v:TV S}{a:S.D τ}(n:Nat) (h:viewP s τ v=some a) (ln:Nat→Nat):view (n+2) s.er.st (v.er s.ln)=some ((TV.ptr false τ a:TV S).er ln):=by
 unfold viewP at h
 split at h
 ·rename_i f τ' a'
  have:=castT_some h
  cases this
  cases f <;> rfl
 ·rename_i hh
  split at h
  ·rename_i e m vs ho
   split at h
   ·rename_i k
    split at h
    ·rename_i l hl
     have hp:=S.put_cells _ _ _ h
     show view (n+2) s.er.st (.loc hh 0)=some (.ptr (encT S (.st k) a))
     rw[enc_st,hp]
     exact view_loc (sget_st ho) rfl rfl (viewL_ok n hl)
    ·cases h
   ·split at h
    ·obtain⟨h1,h2⟩:=view1_ok n h
     show view (n+2) s.er.st (.loc hh 0)=some (.ptr (encT S τ a))
     rw[cellG_eq S h2]
     refine view_loc (sget_st ho) rfl rfl ?_
     simp only[TO.er,TV.er.go,mapO,h1]
    ·cases h
  ·cases h
 ·cases h
theorem viewA_of {n:Nat}{st:List (Nat×Blk)}{g g':G}(h:view (n+2) st g=some g'):viewA (n+2) st g=some g':=by
 cases g with
 | clo f l=>simp[view] at h
 | _=>exact h
def Sh.flat:Sh→Bool
 | .clo _ _=>false
 | _=>true
def flatL:List Sh→Bool
 | []=>true
 | x::r=>x.flat&&flatL r
def okSh:Sh→Bool
 | .clo _ l=>flatL l
 | _=>true
def okShs:List Sh→Bool
 | []=>true
 | x::r=>okSh x&&okShs r
theorem viewFL_ok {s:TSt S}(n:Nat) (ln:Nat→Nat):∀{l:List Sh}{vs:List (TV S)}{xs:List (Leaf S.α)},flatL l=true→viewTL s l vs=some xs→∀r,(fillC l (xs++r)).2=r∧mapO (view (n+2) s.er.st) (TV.er.go s.ln vs)=some (TV.er.go ln (fillC l (xs++r)).1)
 | [],[],_,_,h,r=>by simp[viewTL] at h;subst h;exact⟨rfl,rfl⟩
 | x::l,v::vs,xs,hf,h,r=>by
  simp only[flatL,Bool.and_eq_true] at hf
  simp only[viewTL] at h
  split at h
  ·rename_i a ha
   split at h
   ·rename_i l' hl
    cases h
    rw[List.append_assoc]
    obtain⟨i1,i2⟩:=viewFL_ok n ln hf.2 hl r
    cases x with
    | clo f l0=>cases hf.1
    | own _ _=>simp[viewT] at ha
    | loc _ _=>simp[viewT] at ha
    | agg _=>simp[viewT] at ha
    | yld _=>simp[viewT] at ha
    | mp _=>simp[viewT] at ha
    | kpo _ _=>simp[viewT] at ha
    | lpo _ _=>simp[viewT] at ha
    | ks _ _=>simp[viewT] at ha
    | cloN=>simp[viewT] at ha
    | sub _ _=>simp[viewT] at ha
    | any=>simp[viewT] at ha
    | dat f τ=>
     cases f with
     | true=>simp[viewT] at ha
     | false=>
     simp only[viewT] at ha
     split at ha
     ·rename_i b hb
      cases ha
      refine⟨i1,?_⟩
      simp only[TV.er.go,mapO,viewD_ok n hb ln,i2]
      rfl
     ·cases ha
    | ptr f τ=>
     cases f with
     | true=>simp[viewT] at ha
     | false=>
     simp only[viewT] at ha
     split at ha
     ·rename_i b hb
      cases ha
      refine⟨i1,?_⟩
      simp only[TV.er.go,mapO,viewP_ok n hb ln,i2]
      rfl
     ·cases ha
   ·cases h
  ·cases h
 | [],_::_,_,_,h,_=>by simp[viewTL] at h
 | _::_,[],_,_,h,_=>by simp[viewTL] at h
theorem viewTL_ok {s:TSt S}(n:Nat) (ln:Nat→Nat):∀{l:List Sh}{vs:List (TV S)}{xs:List (Leaf S.α)},okShs l=true→viewTL s l vs=some xs→∀r,(fillC l (xs++r)).2=r∧mapO (viewA (n+2) s.er.st) (TV.er.go s.ln vs)=some (TV.er.go ln (fillC l (xs++r)).1)
 | [],[],_,_,h,r=>by simp[viewTL] at h;subst h;exact⟨rfl,rfl⟩
 | x::l,v::vs,xs,hf,h,r=>by
  simp only[okShs,Bool.and_eq_true] at hf
  simp only[viewTL] at h
  split at h
  ·rename_i a ha
   split at h
   ·rename_i l' hl
    cases h
    rw[List.append_assoc]
    obtain⟨i1,i2⟩:=viewTL_ok n ln hf.2 hl r
    cases x with
    | own _ _=>simp[viewT] at ha
    | loc _ _=>simp[viewT] at ha
    | agg _=>simp[viewT] at ha
    | yld _=>simp[viewT] at ha
    | mp _=>simp[viewT] at ha
    | kpo _ _=>simp[viewT] at ha
    | lpo _ _=>simp[viewT] at ha
    | ks _ _=>simp[viewT] at ha
    | cloN=>simp[viewT] at ha
    | sub _ _=>simp[viewT] at ha
    | any=>simp[viewT] at ha
    | clo f l0=>
     simp only[viewT] at ha
     split at ha
     ·rename_i f' vs'
      split at ha
      ·rename_i hb
       have e:=Nat.eq_of_beq_eq_true hb
       subst e
       obtain⟨j1,j2⟩:=viewFL_ok n ln hf.1 ha (l'++r)
       simp only[fillC,fillV]
       rw[j1]
       refine⟨i1,?_⟩
       simp only[TV.er.go,mapO,i2]
       have hv:viewA (n+2) s.er.st ((TV.clo f' vs':TV S).er s.ln)=some (.clo f' (TV.er.go ln (fillC l0 (a++(l'++r))).1)):=by
        show(match mapO (view (n+2) s.er.st) (TV.er.go s.ln vs') with | some c=>some (G.clo f' c) | none=>none)=_
        rw[j2]
       rw[hv]
       rfl
      ·cases ha
     ·cases ha
    | dat f τ=>
     cases f with
     | true=>simp[viewT] at ha
     | false=>
     simp only[viewT] at ha
     split at ha
     ·rename_i b hb
      cases ha
      refine⟨i1,?_⟩
      simp only[TV.er.go,mapO,viewA_of (viewD_ok n hb ln),i2]
      rfl
     ·cases ha
    | ptr f τ=>
     cases f with
     | true=>simp[viewT] at ha
     | false=>
     simp only[viewT] at ha
     split at ha
     ·rename_i b hb
      cases ha
      refine⟨i1,?_⟩
      simp only[TV.er.go,mapO,viewA_of (viewP_ok n hb ln),i2]
      rfl
     ·cases ha
   ·cases h
  ·cases h
 | [],_::_,_,_,h,_=>by simp[viewTL] at h
 | _::_,[],_,_,h,_=>by simp[viewTL] at h
end
end Go.DN
/-
 DN,part V:contracts;calls by contract.
-/
namespace Go.DN
open Go.AM
structure Con (S:Sig) where
 f:FuncId
 args:List Sh
 objs:List Oh
 vw:Bool
 slots:List (Nat×Sh)
 outs:List (Nat×Oh)
 F:tup S.α (begTys args objs)→Option (tup S.α (JH.tys ⟨slots,outs⟩))
section
variable {S:Sig}
structure ConOk (P:Program) (con:Con S):Prop where
 call:∀args w,(callFunc con.f args).run P w=.ok (.enter con.f args) w
 ok:∀q r,con.F q=some r→GM P con.f (TV.er.go (beginT con.args con.objs (leaves _ q)).ln (fillC con.args (leaves _ q)).1) (beginT con.args con.objs (leaves _ q)).er.st (Ans con.slots con.outs r)
def datsOnly:List (Nat×Sh)→Bool
 | []=>true
 | (_,.dat _ _)::r=>datsOnly r
 | _=>false
def freshS:List (Nat×Sh)→Bool
 | []=>true
 | (_,.dat f _)::r=>f&&freshS r
 | _=>false
theorem freshG_frB {g:G}(h:Pl g):freshG (frB true g)=true:=by
 rcases h with ⟨u,rfl⟩ | ⟨n,cs,rfl⟩ | ⟨b,rfl⟩ <;> rfl
theorem freshG_dat (τ:Ty) (a:S.D τ):freshG (datG true τ a)=true:=by
 cases τ with
 | st n=>
  show freshG.go ((encT S (.st n) a).map (frB true))=true
  have h:=enc_Pl (S:=S) (.st n) a
  generalize encT S (.st n) a=l at h
  induction l with
  | nil=>rfl
  | cons x r ih=>
   simp only[List.map_cons,freshG.go,freshG_frB (h x List.mem_cons_self),ih fun y hy=>h y (List.mem_cons_of_mem _ hy),Bool.and_self]
 | _=>exact freshG_frB (cell_Pl rfl a)
theorem fresh_fill (ln:Nat→Nat):∀(slots:List (Nat×Sh)) (ls:List (Leaf S.α)),freshS slots=true→ls.length=(slotTys slots).length→freshG.go (((fillF slots ls).1.map (·.2)).map (TV.er ln))=true
 | [],_,_,_=>rfl
 | (d,.dat f τ)::r,ls,h,hl=>by
  simp only[freshS,Bool.and_eq_true] at h
  cases ls with
  | nil=>simp[slotTys,Sh.tys] at hl
  | cons x xs=>
   simp only[fillF,fillV,List.map_cons,freshG.go]
   rw[h.1,fresh_fill ln r xs h.2 (by simpa[slotTys,Sh.tys] using hl),Bool.and_true]
   exact freshG_dat x.τ x.a
 | (d,.own h τ)::r,ls,h',_=>by cases h'
 | (d,.ptr _ _)::r,ls,h',_=>by cases h'
 | (d,.loc _ _)::r,ls,h',_=>by cases h'
 | (d,.clo _ _)::r,ls,h',_=>by cases h'
 | (d,.agg _)::r,ls,h',_=>by cases h'
 | (d,.yld _)::r,ls,h',_=>by cases h'
 | (d,.mp _)::r,ls,h',_=>by cases h'
 | (d,.kpo _ _)::r,ls,h',_=>by cases h'
 | (d,.lpo _ _)::r,ls,h',_=>by cases h'
 | (d,.ks _ _)::r,ls,h',_=>by cases h'
 | (d,.any)::r,ls,h',_=>by cases h'
 | (d,.cloN)::r,ls,h',_=>by cases h'
 | (d,.sub _ _)::r,ls,h',_=>by cases h'
theorem fresh_res {slots:List (Nat×Sh)}{ls:List (Leaf S.α)}(h:freshS slots=true) (hl:ls.length=(slotTys slots).length) (ln:Nat→Nat):freshG ((resV slots ls).er ln)=true:=by
 have:=fresh_fill (S:=S) ln slots ls h hl
 rw[←pack_er]
 revert this
 generalize (((fillF slots ls).1.map (·.2)).map (TV.er ln))=gs
 intro hg
 match gs with
 | []=>rfl
 | [g]=>simpa[freshG.go,pack] using hg
 | g::g'::r=>exact hg
theorem fill_ln (ln ln':Nat→Nat):∀(slots:List (Nat×Sh)) (ls:List (Leaf S.α)),datsOnly slots=true→((fillF slots ls).1.map (·.2)).map (TV.er ln)=((fillF slots ls).1.map (·.2)).map (TV.er ln')
 | [],_,_=>rfl
 | (d,.dat f τ)::r,ls,h=>by
  simp only[fillF,List.map_cons]
  rw[fill_ln ln ln' r _ h]
  cases ls <;> rfl
 | (d,.own h τ)::r,ls,h'=>by cases h'
 | (d,.ptr _ _)::r,ls,h'=>by cases h'
 | (d,.loc _ _)::r,ls,h'=>by cases h'
 | (d,.clo _ _)::r,ls,h'=>by cases h'
 | (d,.agg _)::r,ls,h'=>by cases h'
 | (d,.yld _)::r,ls,h'=>by cases h'
 | (d,.mp _)::r,ls,h'=>by cases h'
 | (d,.kpo _ _)::r,ls,h'=>by cases h'
 | (d,.lpo _ _)::r,ls,h'=>by cases h'
 | (d,.ks _ _)::r,ls,h'=>by cases h'
 | (d,.any)::r,ls,h'=>by cases h'
 | (d,.cloN)::r,ls,h'=>by cases h'
 | (d,.sub _ _)::r,ls,h'=>by cases h'
theorem res_ln (ln ln':Nat→Nat){slots:List (Nat×Sh)}{ls:List (Leaf S.α)}(h:datsOnly slots=true):(resV slots ls).er ln=(resV slots ls).er ln':=by
 rw[←pack_er,←pack_er,fill_ln ln ln' slots ls h]
def TV.imp:TV S→Bool
 | .dat _ _ _=>true
 | .ptr _ _ _=>true
 | .val _=>true
 | .agg l=>go l
 | .clo _ l=>go l
 | _=>false
where go:List (TV S)→Bool
 | []=>true
 | x::r=>x.imp&&go r
def noOwn:G→Bool
 | .val _=>true
 | .ifc _=>true
 | .sl _ _=>true
 | .ptr _=>true
 | .fr _=>true
 | .agg gs=>go gs
 | .clo _ gs=>go gs
 | _=>false
where go:List G→Bool
 | []=>true
 | g::r=>noOwn g&&go r
mutual
theorem imp_noOwn (ln:Nat→Nat):∀v:TV S,v.imp=true→noOwn (v.er ln)=true
 | .dat f τ a,_=>by
  cases τ with
  | st n=>
   show noOwn.go ((encT S (.st n) a).map (frB f))=true
   have h:=enc_Pl (S:=S) (.st n) a
   generalize encT S (.st n) a=l at h
   induction l with
   | nil=>rfl
   | cons x r ih=>
    have h1:noOwn (frB f x)=true:=by
     rcases h x List.mem_cons_self with ⟨u,rfl⟩ | ⟨n,cs,rfl⟩ | ⟨b,rfl⟩ <;> cases f <;> rfl
    simp only[List.map_cons,noOwn.go,h1,ih fun y hy=>h y (List.mem_cons_of_mem _ hy),Bool.and_self]
  | _=>cases f <;> rfl
 | .ptr f τ a,_=>by cases f <;> rfl
 | .val _,_=>rfl
 | .agg l,h=>imp_noOwnL ln l h
 | .clo _ l,h=>imp_noOwnL ln l h
 | .tup _,h=>by cases h
 | .loc _ _,h=>by cases h
 | .elt _ _ _ _,h=>by cases h
 | .osl _ _,h=>by cases h
 | .sub _ _ _ _,h=>by cases h
 | .yld _,h=>by cases h
 | .mp _,h=>by cases h
 | .ks _ _ _ _,h=>by cases h
 | .kp _ _ _ _,h=>by cases h
 | .kpo _ _ _ _ _,h=>by cases h
 | .lpo _ _ _,h=>by cases h
 | .any,h=>by cases h
theorem imp_noOwnL (ln:Nat→Nat):∀l:List (TV S),TV.imp.go l=true→noOwn.go (TV.er.go ln l)=true
 | [],_=>rfl
 | x::r,h=>by
  simp only[TV.imp.go,Bool.and_eq_true] at h
  simp only[TV.er.go,noOwn.go,imp_noOwn ln x h.1,imp_noOwnL ln r h.2,Bool.and_self]
end
theorem mapO_viewI {f:G→Option G}:∀{gs gs':List G},(∀g g',g∈gs→f g=some g'→viewI g=some g')→mapO f gs=some gs'→viewI.go gs=some gs'
 | [],_,_,h=>by cases h;rfl
 | g::r,gs',hf,h=>by
  simp only[mapO] at h
  split at h
  ·rename_i g1 r1 h1 h2
   cases h
   simp only[viewI.go,hf g g1 List.mem_cons_self h1,mapO_viewI (fun x x' hx=>hf x x' (List.mem_cons_of_mem _ hx)) h2]
  ·cases h
theorem noOwn_mem:∀{gs:List G}{g:G},noOwn.go gs=true→g∈gs→noOwn g=true
 | x::r,g,h,hm=>by
  simp only[noOwn.go,Bool.and_eq_true] at h
  rcases List.mem_cons.1 hm with e | hm
  ·subst e;exact h.1
  ·exact noOwn_mem h.2 hm
theorem view_imp {st:List (Nat×Blk)}:∀(n:Nat){g g':G},noOwn g=true→view n st g=some g'→viewI g=some g'
 | 0,_,_,_,h=>by cases h
 | n+1,g,g',ho,h=>by
  cases g with
  | val v=>exact h
  | ifc b=>exact h
  | sl m cs=>exact h
  | ptr cs=>exact h
  | fr g=>exact h
  | agg gs=>
   have h:(match mapO (view n st) gs with | some gs'=>some (G.agg gs') | none=>none)=some g':=h
   split at h
   ·rename_i gs' hm
    cases h
    show(viewI.go gs).map G.agg=_
    rw[mapO_viewI (fun x x' hx hv=>view_imp n (noOwn_mem ho hx) hv) hm];rfl
   ·cases h
  | clo f gs=>simp[view] at h
  | _=>cases ho
theorem viewA_imp {n:Nat}{st:List (Nat×Blk)}{g g':G}(ho:noOwn g=true) (h:viewA n st g=some g'):viewI g=some g':=by
 cases g with
 | clo f gs=>
  have h:(match mapO (view n st) gs with | some c=>some (G.clo f c) | none=>none)=some g':=h
  split at h
  ·rename_i gs' hm
   cases h
   show(viewI.go gs).map (G.clo f)=_
   rw[mapO_viewI (fun x x' hx hv=>view_imp n (noOwn_mem ho hx) hv) hm];rfl
  ·cases h
 | _=>exact view_imp n ho h
theorem mapO_imp {n:Nat}{st:List (Nat×Blk)}:∀{gs gs':List G},noOwn.go gs=true→mapO (viewA n st) gs=some gs'→mapO viewI gs=some gs'
 | [],_,_,h=>by cases h;rfl
 | g::r,gs',ho,h=>by
  simp only[noOwn.go,Bool.and_eq_true] at ho
  simp only[mapO] at h
  split at h
  ·rename_i g1 r1 h1 h2
   cases h
   simp only[mapO,viewA_imp ho.1 h1,mapO_imp ho.2 h2]
  ·cases h
theorem impG_dat (f:Bool) (τ:Ty) (a:S.D τ):impG (datG f τ a)=true:=by
 cases τ with
 | st n=>
  show impG.go ((encT S (.st n) a).map (frB f))=true
  have h:=enc_Pl (S:=S) (.st n) a
  generalize encT S (.st n) a=l at h
  induction l with
  | nil=>rfl
  | cons x r ih=>
   have h1:impG (frB f x)=true:=by
    rcases h x List.mem_cons_self with ⟨u,rfl⟩ | ⟨n,cs,rfl⟩ | ⟨b,rfl⟩ <;> cases f <;> rfl
   simp only[List.map_cons,impG.go,h1,ih fun y hy=>h y (List.mem_cons_of_mem _ hy),Bool.and_self]
 | _=>cases f <;> rfl
theorem imp_fill (ln:Nat→Nat):∀(slots:List (Nat×Sh)) (ls:List (Leaf S.α)),datsOnly slots=true→ls.length=(slotTys slots).length→impG.go (((fillF slots ls).1.map (·.2)).map (TV.er ln))=true
 | [],_,_,_=>rfl
 | (d,.dat f τ)::r,ls,h,hl=>by
  cases ls with
  | nil=>simp[slotTys,Sh.tys] at hl
  | cons x xs=>
   simp only[fillF,fillV,List.map_cons,impG.go]
   rw[imp_fill ln r xs h (by simpa[slotTys,Sh.tys] using hl),Bool.and_true]
   exact impG_dat f x.τ x.a
 | (d,.own h τ)::r,ls,h',_=>by cases h'
 | (d,.ptr _ _)::r,ls,h',_=>by cases h'
 | (d,.loc _ _)::r,ls,h',_=>by cases h'
 | (d,.clo _ _)::r,ls,h',_=>by cases h'
 | (d,.agg _)::r,ls,h',_=>by cases h'
 | (d,.yld _)::r,ls,h',_=>by cases h'
 | (d,.mp _)::r,ls,h',_=>by cases h'
 | (d,.kpo _ _)::r,ls,h',_=>by cases h'
 | (d,.lpo _ _)::r,ls,h',_=>by cases h'
 | (d,.ks _ _)::r,ls,h',_=>by cases h'
 | (d,.any)::r,ls,h',_=>by cases h'
 | (d,.cloN)::r,ls,h',_=>by cases h'
 | (d,.sub _ _)::r,ls,h',_=>by cases h'
theorem imp_res {slots:List (Nat×Sh)}{ls:List (Leaf S.α)}(h:datsOnly slots=true) (hl:ls.length=(slotTys slots).length) (ln:Nat→Nat):impG ((resV slots ls).er ln)=true:=by
 have:=imp_fill (S:=S) ln slots ls h hl
 rw[←pack_er]
 revert this
 generalize (((fillF slots ls).1.map (·.2)).map (TV.er ln))=gs
 intro hg
 match gs with
 | []=>rfl
 | [g]=>simpa[impG.go,pack] using hg
 | g::g'::r=>exact hg
def plainC (con:Con S):Bool:=isNil con.objs&&(isNil con.outs&&(okShs con.args&&datsOnly con.slots))
def callF (con:Con S) (s:TSt S) (d:Nat) (vs:List (TV S)){A:Type}(k:TSt S→Option A):Option A:=
 match plainC con&&(freshS con.slots||TV.imp.go vs) with
 | true=>match viewTL s con.args vs with
  | some ls=>match tupOf (begTys con.args con.objs) ls with
   | some q=>(con.F q).bind fun r=>k (s.put d (resV con.slots (leaves _ r)))
   | none=>none
  | none=>none
 | false=>none
theorem go_append (ln:Nat→Nat):∀(l l':List (TV S)),TV.er.go ln (l++l')=TV.er.go ln l++TV.er.go ln l'
 | [],_=>rfl
 | x::r,l'=>by simp only[List.cons_append,TV.er.go,go_append ln r l']
theorem isNil_eq {α:Type}:∀{l:List α},isNil l=true→l=[]
 | [],_=>rfl
 | _::_,h=>by cases h
theorem plain_spec {P:Program}{con:Con S}(C:ConOk P con) (h:plainC con=true):okShs con.args=true∧datsOnly con.slots=true∧
  ∀q r,con.F q=some r→GM P con.f (TV.er.go (fun _=>0) (fillC con.args (leaves _ q)).1) [] (fun g st=>g=(resV con.slots (leaves _ r)).er (fun _=>0)∧st=[]):=by
 simp only[plainC,Bool.and_eq_true] at h
 obtain⟨h1,h2,h3,h4⟩:=h
 refine⟨h3,h4,fun q r hr=>?_⟩
 have:=C.ok q r hr
 obtain⟨f,args,objs,vw,slots,outs,F⟩:=con
 have h1':objs=[]:=isNil_eq h1
 have h2':outs=[]:=isNil_eq h2
 subst h1';subst h2'
 have e1:(beginT args [] (leaves (begTys args []) q)).ln=fun _=>0:=rfl
 rw[e1] at this
 exact this
theorem res_len {slots:List (Nat×Sh)}{outs:List (Nat×Oh)}(r:tup S.α (JH.tys ⟨slots,outs⟩)) (h:outs=[]):(leaves _ r).length=(slotTys slots).length:=by
 subst h
 rw[leaves_len];simp[JH.tys,objTys]
theorem plain_outs {con:Con S}(h:plainC con=true):con.outs=[]:=by
 simp only[plainC,Bool.and_eq_true] at h
 exact isNil_eq h.2.1
theorem callF_ok {P:Program}{N:Nat}{W:List Nat}{con:Con S}(C:ConOk P con){s:TSt S}{d:Nat}{vs:List (TV S)}{A:Type}{k:TSt S→Option A}{r:A}(hl:LInv s) (h:callF con s d vs k=some r)
  {xs:Array Operand}{ts:Array TypeId}{ty:TypeId}{pos:String}{after:Array Edge}{guard:Option (Nat×Bool)}(hv:tevs s xs.toList=some vs):
  ∃T:St→Prop,Effect P W s.er ⟨some d,.call ⟨.value (.func con.f),xs,ts⟩,ty,pos,after,guard⟩ T∧∀s',T s'→∃t:TSt S,Gh s' t.er∧LInv t∧Keep s t∧k t=some r:=by
 unfold callF at h
 split at h
 ·rename_i hc
  rw[Bool.and_eq_true] at hc
  obtain⟨hp,hfr⟩:=hc
  obtain⟨C1,C2,C3⟩:=plain_spec C hp
  split at h
  ·rename_i ls hls
   split at h
   ·rename_i q hq
    obtain⟨res,h1,h2⟩:=bind_some h
    have hview:=(viewTL_ok 1 (fun _=>0) C1 hls []).2
    rw[List.append_nil,←leaves_tupOf hq] at hview
    have fin:∀s',(∃g st,(g=(resV con.slots (leaves _ res)).er (fun _=>0)∧st=([]:List (Nat×Blk)))∧s'=s.er.put d g)→∃t:TSt S,Gh s' t.er∧LInv t∧Keep s t∧k t=some r:=by
     intro s' hs'
     obtain⟨g,st,⟨hg,_⟩,e⟩:=hs'
     subst e;subst hg
     refine⟨_,?_,hl.put d _,⟨rfl,rfl,rfl⟩,h2⟩
     rw[put_er,res_ln s.ln (fun _=>0) C2]
     exact Gh.refl _
    have hlen:=res_len res (plain_outs hp)
    cases hfs:freshS con.slots with
    | true=>exact⟨_,EF.call (P:=P) (W:=W) 3 C.call (tevs_ok hv).2 hview (C3 q res h1) (fun g st hg=>by rw[hg.1];exact fresh_res hfs hlen _),fin⟩
    | false=>
     rw[hfs] at hfr
     have himp:=imp_noOwnL s.ln vs hfr
     exact⟨_,EF.callA (P:=P) (W:=W) C.call (tevs_ok hv).2 (mapO_imp himp hview) (C3 q res h1) (fun g st hg=>⟨by rw[hg.1];exact imp_res C2 hlen _,hg.2⟩),fin⟩
   ·cases h
  ·cases h
 ·cases h
theorem EF.callAV {P:Program}{W:List Nat}{s:St}{d:Nat}{ty:TypeId}{pos:String}{after:Array Edge}{guard:Option (Nat×Bool)}{f:FuncId}{x:Operand}{xs:Array Operand}{ts:Array TypeId}{gs caps gs':List G}{Q:G→List (Nat×Blk)→Prop}(hb:cloOk f xs.toList=true) (hc:∀args w,(callFunc f args).run P w=.ok (.enter f args) w)
  (hf:ev s x=some (.clo f caps)) (hx:evA s xs.toList=some gs) (hv:mapO viewI (gs++caps)=some gs') (hcon:GM P f gs' [] Q) (hres:∀r st',Q r st'→impG r=true∧st'=[]):
  Effect P W s ⟨some d,.call ⟨.value x,xs,ts⟩,ty,pos,after,guard⟩ (fun s'=>∃r st',Q r st'∧s'=s.put d r):=by
 refine⟨(fun _ h=>by cases h),?_⟩
 intro N cx μ a w hr hN K Q' hK
 obtain⟨h1,h2⟩:=evA_get hx
 have hcl:=hr.ev hf
 generalize hav:a.eval x=vf at hcl
 cases hcl with
 | imm h=>cases h
 | clo _ _ us hl hrc=>
  have hcall:=call_coreA (vs:=xs.toList.map a.eval++us) (W:=W) hr hv (by simp[h1,hl]) (fun j g v hg hv=>by
   rw[List.getElem?_append] at hg hv
   rw[List.length_map,←h1] at hv
   split at hg
   ·rename_i hj
    rw[if_pos hj] at hv
    obtain⟨x,hxj,he⟩:=h2 j g hg
    rw[List.getElem?_map,hxj] at hv
    cases hv
    exact hr.ev he
   ·rename_i hj
    rw[if_neg hj] at hv
    exact hrc _ g v hg hv) hcon hres
  unfold Oper.wp
  have:=run_callV (P:=P) (w:=w) (d:=d) (ty:=ty) (pos:=pos) (after:=after) (guard:=guard) (ts:=ts) hb hc hav
  rw[this]
  refine hcall.mono ?_
  rintro e w' ⟨v,r,st',rfl,hq,hr',hrv,hst⟩
  exact hK μ _ _ w' (hr'.put (hN d rfl) hrv) ⟨r,st',hq,rfl⟩ hst
theorem callV_ok {P:Program}{N:Nat}{W:List Nat}{con:Con S}(C:ConOk P con){s:TSt S}{d:Nat}{vs caps:List (TV S)}{A:Type}{k:TSt S→Option A}{r:A}(hl:LInv s) (h:callF con s d (vs++caps) k=some r)
  {x:Operand}{xs:Array Operand}{ts:Array TypeId}{ty:TypeId}{pos:String}{after:Array Edge}{guard:Option (Nat×Bool)}(hx:tev s x=some (.clo con.f caps)) (hb:cloOk con.f xs.toList=true) (hv:tevs s xs.toList=some vs):
  ∃T:St→Prop,Effect P W s.er ⟨some d,.call ⟨.value x,xs,ts⟩,ty,pos,after,guard⟩ T∧∀s',T s'→∃t:TSt S,Gh s' t.er∧LInv t∧Keep s t∧k t=some r:=by
 unfold callF at h
 split at h
 ·rename_i hc
  rw[Bool.and_eq_true] at hc
  obtain⟨hp,hfr⟩:=hc
  obtain⟨C1,C2,C3⟩:=plain_spec C hp
  split at h
  ·rename_i ls hls
   split at h
   ·rename_i q hq
    obtain⟨res,h1,h2⟩:=bind_some h
    have hview:=(viewTL_ok 1 (fun _=>0) C1 hls []).2
    rw[List.append_nil,←leaves_tupOf hq,go_append] at hview
    have fin:∀s',(∃g st,(g=(resV con.slots (leaves _ res)).er (fun _=>0)∧st=([]:List (Nat×Blk)))∧s'=s.er.put d g)→∃t:TSt S,Gh s' t.er∧LInv t∧Keep s t∧k t=some r:=by
     intro s' hs'
     obtain⟨g,st,⟨hg,_⟩,e⟩:=hs'
     subst e;subst hg
     refine⟨_,?_,hl.put d _,⟨rfl,rfl,rfl⟩,h2⟩
     rw[put_er,res_ln s.ln (fun _=>0) C2]
     exact Gh.refl _
    cases hfs:freshS con.slots with
    | true=>exact⟨_,EF.callV (P:=P) (W:=W) 3 hb C.call (tev_ok hx) (tevs_ok hv).2 hview (C3 q res h1) (fun g st hg=>by rw[hg.1];exact fresh_res hfs (res_len res (plain_outs hp)) _),fin⟩
    | false=>
     rw[hfs] at hfr
     have himp:=imp_noOwnL s.ln (vs++caps) hfr
     rw[go_append] at himp
     exact⟨_,EF.callAV (P:=P) (W:=W) hb C.call (tev_ok hx) (tevs_ok hv).2 (mapO_imp himp hview) (C3 q res h1) (fun g st hg=>⟨by rw[hg.1];exact imp_res C2 (res_len res (plain_outs hp)) _,hg.2⟩),fin⟩
   ·cases h
  ·cases h
 ·cases h
theorem ConOk.ofC {P:Program}{N fu:Nat}{H:List (Nat×Hint)}{cl:Cl S}{con:Con S}{fn:Func}{c:Code}(hm:P.follows .mixedOrders=true) (hcl:ClsOk P N cl)
  (hf:P.funcs[con.f]?=some fn) (hcall:∀args w,(callFunc con.f args).run P w=.ok (.enter con.f args) w) (hb:fn.body=some c) (hN:fn.ntmps=N)
  (hle:shapesOk N con.args con.slots con.outs=true) (hrg:RngOk S N H (rngs c 0))
  {mvs:List Nat}(h:∀q,denF P N fu H cl c mvs fn.results.toList con.args con.objs con.slots con.outs q=con.F q):ConOk P con:=
 ⟨hcall,fun q r hr=>denF_ok hm hcl hf hb hN hle hrg ((h q).trans hr)⟩
end
end Go.DN
