/-
  DN, second half.
-/
import Derived.Test.YtaobkpnecfcefaaDoorMgG
set_option linter.unusedSectionVars false
set_option linter.unusedSimpArgs false
set_option linter.unusedVariables false
/-
 DN,part O:what a loop or a join carries.
-/
namespace Go.DN
open Go.AM
inductive Sh where
 | ab (f:Bool) (τ:Ty)
 | ptr (f:Bool) (τ:Ty)
 | own (h:Nat) (τ:Ty)
 | loc (h off:Nat)
 | aP (f:FuncId) (l:List Sh)
 | agg (l:List Sh)
 | cA (h:Nat)
 | mp (h:Nat)
 | any
 | nr
 | sub (h:Nat) (τ:Ty)
 | fX (h:Nat) (τ:Ty)
 | ks (h:Nat) (τ:Ty)
 | bT (h off:Nat)
inductive Oh where
 | arr (e:TypeId) (m f:Bool) (τ:Ty)
 | box (e:TypeId) (m:Bool) (cs:List Sh)
 | lp (key:Nat) (lv:Bool) (cs:List Sh)
 | deep (e:TypeId) (m f:Bool) (dk:Dk) (τ:Ty)
structure JH where
 al:List (Nat×Sh)
 aJ:List (Nat×Oh)
mutual
def Sh.cn:Sh→List Ty
 | .ab _ τ=>[τ]
 | .ptr _ τ=>[τ]
 | .own _ _=>[]
 | .loc _ _=>[]
 | .aP _ l=>xw l
 | .agg l=>xw l
 | .cA _=>[]
 | .mp _=>[]
 | .any=>[]
 | .nr=>[.int .i64]
 | .sub _ _=>[.int .i64,.int .i64]
 | .fX _ _=>[.bool,.int .i64,.int .i64]
 | .ks _ _=>[.int .i64,.int .i64]
 | .bT _ _=>[.bool]
def xw:List Sh→List Ty
 | []=>[]
 | x::r=>x.cn++xw r
end
def Oh.cn:Oh→List Ty
 | .arr _ _ _ τ=>[.list τ]
 | .box _ _ cs=>xw cs
 | .lp _ lv cs=>match lv with
  | true=>.int .i64::xw cs
  | false=>xw cs
 | .deep _ _ _ _ τ=>[τ]
def jf:List (Nat×Sh)→List Ty
 | []=>[]
 | (_,x)::r=>x.cn++jf r
def CP:List (Nat×Oh)→List Ty
 | []=>[]
 | (_,x)::r=>x.cn++CP r
def JH.cn (j:JH):List Ty:=jf j.al++CP j.aJ
@[reducible] def aU (α:Nat→Type):List Ty→Type
 | []=>Unit
 | [t]=>t.den α
 | t::r=>t.den α×aU α r
section
variable {S:dx}
def n6:(ts:List Ty)→List (bi S.α)→Option (aU S.α ts)
 | [],[]=>some ()
 | [t],[x]=>iW x.τ t x.a
 | t::u::r,x::xs=>match iW x.τ t x.a with
  | some a=>match n6 (u::r) xs with
   | some b=>some (a,b)
   | none=>none
  | none=>none
 | _,_=>none
def leaves:(ts:List Ty)→aU S.α ts→List (bi S.α)
 | [],_=>[]
 | [t],q=>[⟨t,q⟩]
 | t::u::r,q=>⟨t,q.1⟩::leaves (u::r) q.2
theorem gf:∀{ts:List Ty}{xs:List (bi S.α)}{q:aU S.α ts},n6 ts xs=some q→leaves ts q=xs
 | [],[],_,_=>rfl
 | [t],[x],q,h=>by
  obtain⟨τ,a⟩:=x
  have:=dU h
  show[(⟨t,q⟩:bi S.α)]=_
  rw[this]
 | t::u::r,x::xs,q,h=>by
  simp only[n6] at h
  split at h
  ·rename_i a h1
   split at h
   ·rename_i b h2
    cases h
    show(⟨t,a⟩:bi S.α)::leaves (u::r) b=_
    rw[gf h2]
    obtain⟨τ,a'⟩:=x
    rw[dU h1]
   ·cases h
  ·cases h
 | [],_::_,_,h=>by cases h
 | [_],[],_,h=>by cases h
 | [_],_::_::_,_,h=>by simp[n6] at h
 | _::_::_,[],_,h=>by cases h
mutual
def lz:Sh→TV S→Option (List (bi S.α))
 | .ab f τ,v=>match Cs τ v with
  | some (f',a)=>match !f||f' with
   | true=>some [⟨τ,a⟩]
   | false=>none
  | none=>none
 | .ptr f τ,v=>match v with
  | .ptr f' τ' a=>match !f||f' with
   | true=>match iW τ' τ a with
    | some b=>some [⟨τ,b⟩]
    | none=>none
   | false=>none
  | _=>none
 | .own h τ,v=>match v with
  | .aK h' τ'=>match Nat.beq h' h with
   | true=>match decEq τ' τ with
    | isTrue _=>some []
    | isFalse _=>none
   | false=>none
  | _=>none
 | .loc h o,v=>match v with
  | .loc h' o'=>match Nat.beq h' h&&Nat.beq o' o with
   | true=>some []
   | false=>none
  | _=>none
 | .aP f l,v=>match v with
  | .aP f' vs=>match Nat.beq f' f with
   | true=>qT l vs
   | false=>none
  | _=>none
 | .agg l,v=>match v with
  | .agg vs=>qT l vs
  | _=>none
 | .cA h,v=>match v with
  | .cA h'=>match Nat.beq h' h with
   | true=>some []
   | false=>none
  | _=>none
 | .mp h,v=>match v with
  | .mp h'=>match Nat.beq h' h with
   | true=>some []
   | false=>none
  | _=>none
 | .any,_=>some []
 | .nr,v=>match v with
  | .aP f []=>some [⟨.int .i64,(f:Int)⟩]
  | _=>none
 | .sub h τ,v=>match v with
  | .sub h' τ' o n=>match Nat.beq h' h with
   | true=>match decEq τ' τ with
    | isTrue _=>some [⟨.int .i64,(o:Int)⟩,⟨.int .i64,(n:Int)⟩]
    | isFalse _=>none
   | false=>none
  | _=>none
 | .ks h τ,v=>match v with
  | .ks h' τ' z n=>match Nat.beq h' h with
   | true=>match decEq τ' τ with
    | isTrue _=>some [⟨.int .i64,(z:Int)⟩,⟨.int .i64,(n:Int)⟩]
    | isFalse _=>none
   | false=>none
  | _=>none
 | .bT h o,v=>match v with
  | .val (.pointer none)=>some [⟨.bool,true⟩]
  | .loc h' o'=>match Nat.beq h' h&&Nat.beq o' o with
   | true=>some [⟨.bool,false⟩]
   | false=>none
  | .bT b h' o'=>match Nat.beq h' h&&Nat.beq o' o with
   | true=>some [⟨.bool,b⟩]
   | false=>none
  | _=>none
 | .fX h τ,v=>match v with
  | .val (.pointer none)=>some [⟨.bool,true⟩,⟨.int .i64,(0:Int)⟩,⟨.int .i64,(0:Int)⟩]
  | .kp h' τ' i j=>match Nat.beq h' h with
   | true=>match decEq τ' τ with
    | isTrue _=>some [⟨.bool,false⟩,⟨.int .i64,(i:Int)⟩,⟨.int .i64,(j:Int)⟩]
    | isFalse _=>none
   | false=>none
  | .fX b h' τ' i j=>match Nat.beq h' h with
   | true=>match decEq τ' τ with
    | isTrue _=>some [⟨.bool,b⟩,⟨.int .i64,(i:Int)⟩,⟨.int .i64,(j:Int)⟩]
    | isFalse _=>none
   | false=>none
  | _=>none
def qT:List Sh→List (TV S)→Option (List (bi S.α))
 | [],[]=>some []
 | sh::r,v::vs=>match lz sh v with
  | some xs=>match qT r vs with
   | some ys=>some (xs++ys)
   | none=>none
  | none=>none
 | _,_=>none
end
mutual
def gW:Sh→List (bi S.α)→TV S×List (bi S.α)
 | .ab f _,ls=>match ls with
  | x::r=>(.ab f x.τ x.a,r)
  | []=>(.any,[])
 | .ptr f _,ls=>match ls with
  | x::r=>(.ptr f x.τ x.a,r)
  | []=>(.any,[])
 | .own h τ,ls=>(.aK h τ,ls)
 | .loc h o,ls=>(.loc h o,ls)
 | .aP f l,ls=>(.aP f (cw l ls).1,(cw l ls).2)
 | .agg l,ls=>(.agg (cw l ls).1,(cw l ls).2)
 | .cA h,ls=>(.cA h,ls)
 | .mp h,ls=>(.mp h,ls)
 | .any,ls=>(.any,ls)
 | .nr,ls=>match ls with
  | ⟨.int _,a⟩::r=>(.aP (Int.toNat a) [],r)
  | r=>(.any,r)
 | .sub h τ,ls=>match ls with
  | ⟨.int _,a⟩::⟨.int _,b⟩::r=>(.sub h τ (Int.toNat a) (Int.toNat b),r)
  | r=>(.any,r)
 | .ks h τ,ls=>match ls with
  | ⟨.int _,a⟩::⟨.int _,b⟩::r=>(.ks h τ (Int.toNat a) (Int.toNat b),r)
  | r=>(.any,r)
 | .bT h o,ls=>match ls with
  | ⟨.bool,b⟩::r=>(.bT b h o,r)
  | r=>(.any,r)
 | .fX h τ,ls=>match ls with
  | ⟨.bool,b⟩::⟨.int _,i⟩::⟨.int _,j⟩::r=>(.fX b h τ (Int.toNat i) (Int.toNat j),r)
  | r=>(.any,r)
def cw:List Sh→List (bi S.α)→List (TV S)×List (bi S.α)
 | [],ls=>([],ls)
 | sh::r,ls=>((gW sh ls).1::(cw r (gW sh ls).2).1,(cw r (gW sh ls).2).2)
end
theorem RW.any (g:G):RW g .any:=fun _ _ _ _ _ _=>.aC (.any _)
theorem RW.aP {f:FuncId}{gs gs':List G}(hl:gs'.length=gs.length) (h:∀(j:Nat) (g':G),gs'[j]?=some g'→∃g,gs[j]?=some g∧RW g g'):RW (.aP f gs) (.aP f gs'):=by
 intro O base w μ v hv
 cases hv with
 | aC hv=>cases hv
 | aP _ _ us h1 h2=>exact .aP f _ us (h1.trans hl.symm) fun j g' v hg' hv=>(by
   obtain⟨g,hg,hw⟩:=h j g' hg'
   exact hw _ _ _ _ _ (h2 j g v hg hv))
theorem RW.ab (f f':Bool) (τ:Ty) (a:S.D τ) (hc:(!f||f')=true):RW (nZ f' τ a) (nZ f τ a):=by
 cases f with
 | true=>
  have:f'=true:=by simpa using hc
  subst this
  exact RW.refl _
 | false=>
  unfold nZ
  split
  ·rename_i n a
   refine RW.agg (by simp) fun j g' hg'=>?_
   rw[ar] at hg'⊢
   obtain⟨g,hg,rfl⟩:=ay.1 hg'
   exact⟨_,by rw[hg];rfl,RW.dc _ _ _ (fun e=>by cases e)⟩
  ·exact RW.dc _ _ _ (fun e=>by cases e)
theorem RW.VB (f f':Bool) (τ:Ty) (a:S.D τ) (hc:(!f||f')=true):RW (Pv f' τ a) (Pv f τ a):=by
 cases f with
 | true=>
  have:f'=true:=by simpa using hc
  subst this
  exact RW.refl _
 | false=>
  cases f' with
  | false=>exact RW.refl _
  | true=>exact RW.Td (.ptr (aW S τ a))
theorem Rr {ln:Nat→Nat}{vs vs':List (TV S)}(hl:vs'.length=vs.length) (h:∀(j:Nat) (v':TV S),vs'[j]?=some v'→∃v,vs[j]?=some v∧RW (v.er ln) (v'.er ln)):
  (TV.er.go ln vs').length=(TV.er.go ln vs).length∧∀(j:Nat) (g':G),(TV.er.go ln vs')[j]?=some g'→∃g,(TV.er.go ln vs)[j]?=some g∧RW g g':=by
 rw[da,da]
 refine⟨by simp[hl],fun j g' hg'=>?_⟩
 rw[ar] at hg'
 obtain⟨v',h1,rfl⟩:=ay.1 hg'
 obtain⟨v,h2,h3⟩:=h j v' h1
 exact⟨v.er ln,by rw[ar,h2];rfl,h3⟩
mutual
theorem Bt (ln:Nat→Nat):∀{sh:Sh}{v:TV S}{xs:List (bi S.α)},lz sh v=some xs→∀(r:List (bi S.α)),(gW sh (xs++r)).2=r∧RW (v.er ln) ((gW sh (xs++r)).1.er ln)
 | .ab f τ,v,xs,h,r=>by
  simp only[lz] at h
  split at h
  ·rename_i f' a ha
   split at h
   ·rename_i hc
    cases h
    exact⟨rfl,(Tn ha ln).trans (RW.ab _ _ _ _ hc)⟩
   ·cases h
  ·cases h
 | .ptr f τ,v,xs,h,r=>by
  simp only[lz] at h
  split at h
  ·rename_i f' τ' a
   split at h
   ·rename_i hc
    split at h
    ·rename_i b hb
     cases h
     have:=dU hb
     cases this
     exact⟨rfl,RW.VB _ _ _ _ hc⟩
    ·cases h
   ·cases h
  ·cases h
 | .own h0 τ,v,xs,h,r=>by
  simp only[lz] at h
  split at h
  ·split at h
   ·rename_i hb
    split at h
    ·rename_i e _
     cases h
     subst e
     have:=af hb
     subst this
     exact⟨rfl,RW.refl _⟩
    ·cases h
   ·cases h
  ·cases h
 | .loc h0 o,v,xs,h,r=>by
  simp only[lz] at h
  split at h
  ·split at h
   ·rename_i hb
    simp only[ag] at hb
    cases h
    have e1:=af hb.1
    have e2:=af hb.2
    subst e1;subst e2
    exact⟨rfl,RW.refl _⟩
   ·cases h
  ·cases h
 | .aP f l,v,xs,h,r=>by
  simp only[lz] at h
  split at h
  ·rename_i f' vs
   split at h
   ·rename_i hb
    have e:=af hb
    subst e
    obtain⟨i1,i2,i3⟩:=sj ln h r
    obtain⟨j1,j2⟩:=Rr i2 i3
    exact⟨i1,RW.aP j1 j2⟩
   ·cases h
  ·cases h
 | .agg l,v,xs,h,r=>by
  simp only[lz] at h
  split at h
  ·rename_i vs
   obtain⟨i1,i2,i3⟩:=sj ln h r
   obtain⟨j1,j2⟩:=Rr i2 i3
   exact⟨i1,RW.agg j1 j2⟩
  ·cases h
 | .cA h0,v,xs,h,r=>by
  simp only[lz] at h
  split at h
  ·split at h
   ·rename_i hb
    cases h
    have:=af hb
    subst this
    exact⟨rfl,RW.refl _⟩
   ·cases h
  ·cases h
 | .mp h0,v,xs,h,r=>by
  simp only[lz] at h
  split at h
  ·split at h
   ·rename_i hb
    cases h
    have:=af hb
    subst this
    exact⟨rfl,RW.refl _⟩
   ·cases h
  ·cases h
 | .any,v,xs,h,r=>by
  simp only[lz] at h
  cases h
  exact⟨rfl,RW.any _⟩
 | .nr,v,xs,h,r=>by
  simp only[lz] at h
  split at h
  ·cases h
   exact⟨rfl,RW.refl _⟩
  ·cases h
 | .sub h0 τ,v,xs,h,r=>by
  simp only[lz] at h
  split at h
  ·split at h
   ·rename_i hb
    split at h
    ·rename_i e _
     cases h
     subst e
     have:=af hb
     subst this
     exact⟨rfl,RW.refl _⟩
    ·cases h
   ·cases h
  ·cases h
 | .ks h0 τ,v,xs,h,r=>by
  simp only[lz] at h
  split at h
  ·split at h
   ·rename_i hb
    split at h
    ·rename_i e _
     cases h
     subst e
     have:=af hb
     subst this
     exact⟨rfl,RW.refl _⟩
    ·cases h
   ·cases h
  ·cases h
 | .bT h0 o,v,xs,h,r=>by
  simp only[lz] at h
  split at h
  ·cases h
   exact⟨rfl,RW.refl _⟩
  ·split at h
   ·rename_i hb
    rw[ag] at hb
    cases h
    have e1:=af hb.1
    have e2:=af hb.2
    subst e1;subst e2
    exact⟨rfl,RW.refl _⟩
   ·cases h
  ·split at h
   ·rename_i hb
    rw[ag] at hb
    cases h
    have e1:=af hb.1
    have e2:=af hb.2
    subst e1;subst e2
    exact⟨rfl,RW.refl _⟩
   ·cases h
  ·cases h
 | .fX h0 τ,v,xs,h,r=>by
  simp only[lz] at h
  split at h
  ·cases h
   exact⟨rfl,RW.refl _⟩
  ·split at h
   ·rename_i hb
    split at h
    ·rename_i e _
     cases h
     subst e
     have:=af hb
     subst this
     exact⟨rfl,RW.refl _⟩
    ·cases h
   ·cases h
  ·split at h
   ·rename_i hb
    split at h
    ·rename_i e _
     cases h
     subst e
     have:=af hb
     subst this
     exact⟨rfl,RW.refl _⟩
    ·cases h
   ·cases h
  ·cases h
theorem sj (ln:Nat→Nat):∀{l:List Sh}{vs:List (TV S)}{xs:List (bi S.α)},qT l vs=some xs→∀(r:List (bi S.α)),(cw l (xs++r)).2=r∧(cw l (xs++r)).1.length=vs.length∧
  ∀(j:Nat) (v':TV S),(cw l (xs++r)).1[j]?=some v'→∃v,vs[j]?=some v∧RW (v.er ln) (v'.er ln)
 | [],[],xs,h,r=>by simp only[qT] at h;cases h;exact⟨rfl,rfl,fun j v' h=>by cases h⟩
 | sh::l,v::vs,xs,h,r=>by
  simp only[qT] at h
  split at h
  ·rename_i x1 h1
   split at h
   ·rename_i ys h2
    cases h
    rw[aA]
    obtain⟨e1,e2⟩:=Bt ln h1 (ys++r)
    obtain⟨i1,i2,i3⟩:=sj ln h2 r
    simp only[cw]
    rw[e1]
    refine⟨i1,by simp[i2],fun j v' hj=>?_⟩
    cases j with
    | zero=>cases hj;exact⟨v,rfl,e2⟩
    | succ j=>exact i3 j v' hj
   ·cases h
  ·cases h
 | [],_::_,_,h,_=>by simp[qT] at h
 | _::_,[],_,h,_=>by simp[qT] at h
end
def CI (fr:List (Nat×TV S)):List (Nat×Sh)→Option (List (bi S.α))
 | []=>some []
 | (d,sh)::r=>match bp fr d with
  | some v=>match lz sh v with
   | some xs=>match CI fr r with
    | some ys=>some (xs++ys)
    | none=>none
   | none=>none
  | none=>none
def bR:List (Nat×Sh)→List (bi S.α)→List (Nat×TV S)×List (bi S.α)
 | [],ls=>([],ls)
 | (d,sh)::r,ls=>((d,(gW sh ls).1)::(bR r (gW sh ls).2).1,(bR r (gW sh ls).2).2)
theorem xE {fr:List (Nat×TV S)}(ln:Nat→Nat):∀{l:List (Nat×Sh)}{xs:List (bi S.α)},CI fr l=some xs→∀(r:List (bi S.α)),(bR l (xs++r)).2=r∧
  ∀d v',bp (bR l (xs++r)).1 d=some v'→∃v,bp fr d=some v∧RW (v.er ln) (v'.er ln)
 | [],xs,h,r=>by cases h;exact⟨rfl,fun d v' h=>by cases h⟩
 | (d0,sh)::l,xs,h,r=>by
  simp only[CI] at h
  split at h
  ·rename_i v hv
   split at h
   ·rename_i x1 h1
    split at h
    ·rename_i ys h2
     cases h
     rw[aA]
     obtain⟨e1,e2⟩:=Bt ln h1 (ys++r)
     obtain⟨i1,i2⟩:=xE ln h2 r
     simp only[bR]
     rw[e1]
     refine⟨i1,fun d v' hd=>?_⟩
     simp only[bp] at hd
     cases hb:Nat.beq d0 d with
     | true=>
      rw[hb] at hd
      cases hd
      have:=af hb
      subst this
      exact⟨v,hv,e2⟩
     | false=>rw[hb] at hd;exact i2 d v' hd
    ·cases h
   ·cases h
  ·cases h
def Kq:Ty→Bool
 | .list (.list t)=>t.iS
 | .map=>true
 | _=>false
def Lc (oh:Oh) (o:TO S):Option (List (bi S.α)):=
 match oh with
 | .arr e m f τ=>match o with
  | .arr e' m' f' τ' l=>match Nat.beq e' e&&((!m||m')&&(!f||(f'||τ'.iS))) with
   | true=>match iW (.list τ') (.list τ) l with
    | some l=>some [⟨.list τ,l⟩]
    | none=>none
   | false=>none
  | _=>none
 | .box e m cs=>match o with
  | .box e' m' vs=>match Nat.beq e' e&&(!m||m') with
   | true=>qT cs vs
   | false=>none
  | _=>none
 | .lp key lv cs=>match o with
  | .lp key' n vs=>match Nat.beq key' key with
   | true=>match lv with
    | true=>match qT cs vs with
     | some xs=>some (⟨.int .i64,n⟩::xs)
     | none=>none
    | false=>match decEq n 0 with
     | isTrue _=>qT cs vs
     | isFalse _=>none
   | false=>none
  | _=>none
 | .deep e m f dk τ=>match o with
  | .deep e' m' f' dk' τ' a=>match Nat.beq e' e&&((!m||m')&&(!f||(f'||Kq τ'))) with
   | true=>match decEq dk' dk with
    | isTrue _=>match iW τ' τ a with
     | some a=>some [⟨τ,a⟩]
     | none=>none
    | isFalse _=>none
   | false=>none
  | _=>none
def mC (oh:Oh) (ls:List (bi S.α)):TO S×List (bi S.α):=
 match oh with
 | .arr e m f _=>match ls with
  | ⟨.list τ,l⟩::r=>(.arr e m f τ l,r)
  | r=>(.box e m [],r)
 | .box e m cs=>(.box e m (cw cs ls).1,(cw cs ls).2)
 | .lp key lv cs=>match lv with
  | true=>match ls with
   | ⟨.int _,n⟩::r=>(.lp key n (cw cs r).1,(cw cs r).2)
   | r=>(.box 0 false [],r)
  | false=>(.lp key 0 (cw cs ls).1,(cw cs ls).2)
 | .deep e m f dk _=>match ls with
  | x::r=>(.deep e m f dk x.τ x.a,r)
  | r=>(.box e m [],r)
theorem LM {st st':List (Nat×ao)}{vs vs':List (TV S)}(ln ln':Nat→Nat) (hl:vs'.length=vs.length) (h:∀(j:Nat) (v':TV S),vs'[j]?=some v'→∃v,vs[j]?=some v∧CV st st' (v.er ln) (v'.er ln')):O0 st st' (TV.er.go ln vs) (TV.er.go ln' vs'):=by
 rw[da,da]
 refine⟨by simp[hl],fun j g' hg'=>?_⟩
 rw[ar] at hg'
 obtain⟨v',h1,rfl⟩:=ay.1 hg'
 obtain⟨v,h2,h3⟩:=h j v' h1
 exact⟨v.er ln,by rw[ar,h2];rfl,h3⟩
theorem Fz {τ:Ty}(hs:τ.iS=true):∀(l:List (S.D τ)) (g:G),g∈List.flatMap (aW S τ) l→∃v,g=.val v
 | l,g,hg=>by
  obtain⟨a,_,hg⟩:=oU.1 hg
  cases τ with
  | int _=>exact⟨_,ij.1 hg⟩
  | bool=>exact⟨_,ij.1 hg⟩
  | str=>exact⟨_,ij.1 hg⟩
  | list _=>cases hs
  | st _=>cases hs
  | map=>cases hs
  | cH=>cases hs
theorem Jm (dk:Dk) (e:TypeId){τ:Ty}(hs:Kq τ=true) (a:S.D τ) (O O':Nat→Prop) (w:World) (b:Nat) (m:Mm) (h:(dk.dp e τ a).φ O w b m):(dk.dp e τ a).φ O' w b m:=by
 cases dk with
 | uR kty=>
  obtain⟨cs,h⟩:=h
  refine⟨cs,{len:=h.len,root:=h.root,inj:=h.inj,heap:=h.heap,size:=h.size,le:=h.le,max:=h.max,row:=fun i n gs hi=>?_}⟩
  obtain⟨u,x,h1,h2,h3⟩:=h.row i n gs hi
  refine⟨u,x,h1,h2,?_⟩
  cases x with
  | none=>exact h3
  | some ck=>
   obtain⟨cap,cs',q1,q2,q3,q4,q5,q6,q7,q8⟩:=h3
   refine⟨cap,cs',q1,q2,q3,q4,q5,q6,q7,fun j g hg=>?_⟩
   obtain⟨v,hv,hr⟩:=q8 j g hg
   refine⟨v,hv,?_⟩
   cases τ with
   | list t=>cases t with
    | list t=>
     have hi:(List.map (fun l=>(List.length l,List.flatMap (aW S t) l)) a)[i]?=some (n,gs):=hi
     rw[ar] at hi
     obtain⟨l,_,e⟩:=ay.1 hi
     cases e
     obtain⟨u,rfl⟩:=Fz (τ:=t) hs l g (aL hg)
     cases hr
     exact .val _
    | _=>cases hs
   | map=>
    have hi:([]:List (Nat×List G))[i]?=some (n,gs):=hi
    simp at hi
   | _=>cases hs
 | rows kty ho=>
  obtain⟨cs,h⟩:=h
  have hno:(Gg τ a).2.2=[]:=by
   cases τ with
   | list t=>cases t with
    | list t=>rfl
    | _=>cases hs
   | map=>rfl
   | _=>cases hs
  refine⟨cs,{len:=h.len,root:=h.root,inj:=h.inj,heap:=h.heap,size:=h.size,le:=h.le,max:=h.max,row:=fun i n gs hi _=>?_,hole:=h.hole}⟩
  rw[hno] at hi
  cases hi
 | map q kty tty=>
  have h:AN q kty tty (mapOf τ a).n ((mapOf τ a).es.map (lu.me q)) (Ns q (mapOf τ a).pd) O w b m:=h
  show AN q kty tty (mapOf τ a).n ((mapOf τ a).es.map (lu.me q)) (Ns q (mapOf τ a).pd) O' w b m
  have val:∀(l:List Int) (j:Nat) (g:G) (v:Value),(oK q l)[j]?=some g→bB O w g v→bB O' w g v:=by
   intro l j g v hg hr
   unfold oK at hg
   rw[ar] at hg
   obtain⟨x,_,rfl⟩:=ay.1 hg
   cases hr
   exact .val _
  refine {len:=h.len,J0:=h.J0,JG:=h.JG,heap:=h.heap,root:=h.root,Cr:=fun e he=>?_,inj:=h.inj,JL:=fun sr x gs hp=>?_}
  ·obtain⟨c,cs,h1,h2,h3,h4⟩:=h.Cr e he
   refine⟨c,cs,h1,h2,h3,fun j p hp=>?_⟩
   obtain⟨u,h5,h6⟩:=h4 j p hp
   refine⟨u,h5,?_⟩
   obtain⟨e0,_,rfl⟩:=jP.1 he
   have hp:(e0.f.map fun p=>(p.1,oK q p.2))[j]?=some p:=hp
   rw[ar] at hp
   obtain⟨p0,_,rfl⟩:=ay.1 hp
   refine h6.imp id fun ⟨h0,c',k',r1,cap,cs',q1,q2,q3,q4,q5,q6,q7,q8⟩=>⟨h0,c',k',r1,cap,cs',q1,q2,q3,q4,q5,q6,q7,fun j g hg=>?_⟩
   obtain⟨v,hv,hr⟩:=q8 j g hg
   exact⟨v,hv,val _ _ _ _ hg hr⟩
  ·obtain⟨h0,⟨c,k,cs,h1,h2,h3,h4,h5,h6⟩,h7⟩:=h.JL sr x gs hp
   refine⟨h0,⟨c,k,cs,h1,h2,h3,h4,h5,fun i g hg=>?_⟩,h7⟩
   obtain⟨v,hv,hr⟩:=h6 i g hg
   refine⟨v,hv,?_⟩
   cases hd:(mapOf τ a).pd with
   | none=>rw[hd] at hp;cases hp
   | some p=>
    obtain⟨sr',x',l⟩:=p
    rw[hd] at hp
    cases hp
    exact val _ _ _ _ hg hr
theorem IY {a b:Bool}(h:(!a||b)=true) (ha:a=true):b=true:=by subst ha;simpa using h
theorem Px {st st':List (Nat×ao)}{oh:Oh}{o:TO S}{xs:List (bi S.α)}(h:Lc oh o=some xs) (ln:Nat→Nat) (r:List (bi S.α)):(mC oh (xs++r)).2=r∧(mC oh (xs++r)).1.len=o.len∧we st st' (o.er ln) ((mC oh (xs++r)).1.er ln):=by
 unfold Lc at h
 split at h
 ·split at h
  ·split at h
   ·rename_i hc
    simp only[ag] at hc
    obtain⟨c1,c2,c3⟩:=hc
    split at h
    ·rename_i l' hl
     cases h
     obtain⟨e,hl⟩:=rz hl
     subst e
     cases hl
     have c1:=af c1
     subst c1
     refine⟨rfl,rfl,rfl,IY c2,rfl,rfl,rfl,rfl,.inl ⟨rfl,rfl,fun hf=>?_⟩⟩
     have c4:=IY c3 hf
     rw[bD] at c4
     exact c4.imp id fun hs=>.inl ⟨rfl,Fz hs _⟩
    ·cases h
   ·cases h
  ·cases h
 ·split at h
  ·split at h
   ·rename_i hc
    simp only[ag] at hc
    have c1:=af hc.1
    have c2:=hc.2
    subst c1
    obtain⟨i1,i2,i3⟩:=sj ln h r
    refine⟨i1,rfl,rfl,IY c2,rfl,rfl,rfl,?_,.inr ⟨rfl,?_⟩⟩
    ·show(TV.er.go ln _).length=(TV.er.go ln _).length
     rw[da,da,aN,aN,i2]
    ·exact(LM ln ln i2 fun j v' hj=>let ⟨v,h1,h2⟩:=i3 j v' hj;⟨v,h1,CV.rw h2⟩).2
   ·cases h
  ·cases h
 ·split at h
  ·split at h
   ·rename_i hc
    have c1:=af hc
    subst c1
    split at h
    ·split at h
     ·rename_i xs' hx
      cases h
      obtain⟨i1,i2,i3⟩:=sj ln hx r
      refine⟨i1,rfl,rfl,id,rfl,rfl,rfl,?_,.inr ⟨rfl,?_⟩⟩
      ·show(TV.er.go ln _).length=(TV.er.go ln _).length
       rw[da,da,aN,aN]
       exact i2
      ·exact(LM ln ln i2 fun j v' hj=>let ⟨v,h1,h2⟩:=i3 j v' hj;⟨v,h1,CV.rw h2⟩).2
     ·cases h
    ·split at h
     ·rename_i hn _
      subst hn
      obtain⟨i1,i2,i3⟩:=sj ln h r
      refine⟨i1,rfl,rfl,id,rfl,rfl,rfl,?_,.inr ⟨rfl,?_⟩⟩
      ·show(TV.er.go ln _).length=(TV.er.go ln _).length
       rw[da,da,aN,aN,i2]
      ·exact(LM ln ln i2 fun j v' hj=>let ⟨v,h1,h2⟩:=i3 j v' hj;⟨v,h1,CV.rw h2⟩).2
     ·cases h
   ·cases h
  ·cases h
 ·split at h
  ·rename_i e' m' f' dk' τ' a
   split at h
   ·rename_i hc
    simp only[ag] at hc
    obtain⟨c1,c2,c3⟩:=hc
    split at h
    ·rename_i e1 _
     subst e1
     split at h
     ·rename_i a' ha
      cases h
      cases dU ha
      have c1:=af c1
      subst c1
      refine⟨rfl,rfl,rfl,IY c2,rfl,rfl,rfl,rfl,.inl ⟨rfl,rfl,fun hf=>?_⟩⟩
      have c4:=IY c3 hf
      rw[bD] at c4
      exact c4.imp id fun hs=>.inr ⟨_,rfl,fun O O' w b m=>Jm _ _ hs _ O O' w b m⟩
     ·cases h
    ·cases h
   ·cases h
  ·cases h
def xC (st:List (Nat×TO S)):List (Nat×Oh)→Option (List (bi S.α))
 | []=>some []
 | (h,oh)::r=>match aF st h with
  | some o=>match Lc oh o with
   | some xs=>match xC st r with
    | some ys=>some (xs++ys)
    | none=>none
   | none=>none
  | none=>none
def bK:List (Nat×Oh)→List (bi S.α)→List (Nat×TO S)×List (bi S.α)
 | [],ls=>([],ls)
 | (h,oh)::r,ls=>((h,(mC oh ls).1)::(bK r (mC oh ls).2).1,(bK r (mC oh ls).2).2)
theorem Bu {st:List (Nat×TO S)}(ln:Nat→Nat) (gst gst':List (Nat×ao)):∀{l:List (Nat×Oh)}{xs:List (bi S.α)},xC st l=some xs→∀(r:List (bi S.α)),(bK l (xs++r)).2=r∧
  (∀h,(∃o',aF (bK l (xs++r)).1 h=some o')∨(aF (bK l (xs++r)).1 h=none∧h∉l.map (·.1)))∧
  ∀h o',aF (bK l (xs++r)).1 h=some o'→∃o,aF st h=some o∧o'.len=o.len∧we gst gst' (o.er ln) (o'.er ln)
 | [],xs,h,r=>by
  cases h
  refine⟨rfl,fun h=>.inr (And.intro rfl (fun e=>nomatch e)),fun d v' h=>nomatch h⟩
 | (h0,oh)::l,xs,h,r=>by
  simp only[xC] at h
  split at h
  ·rename_i o ho
   split at h
   ·rename_i x1 h1
    split at h
    ·rename_i ys h2
     cases h
     rw[aA]
     obtain⟨e1,e2,e3⟩:=Px (st:=gst) (st':=gst') h1 ln (ys++r)
     obtain⟨i1,i2,i3⟩:=Bu ln gst gst' h2 r
     simp only[bK]
     rw[e1]
     refine⟨i1,fun h=>?_,fun h o' hd=>?_⟩
     ·simp only[aF]
      cases hb:Nat.beq h0 h with
      | true=>exact .inl ⟨_,rfl⟩
      | false=>
       rcases i2 h with h3 | ⟨h3,h4⟩
       ·exact .inl h3
       ·refine .inr ⟨h3,?_⟩
        simp only[aB,bf,not_or]
        exact⟨fun e=>(by subst e;rw[aQ] at hb;cases hb),h4⟩
     ·simp only[aF] at hd
      cases hb:Nat.beq h0 h with
      | true=>
       rw[hb] at hd
       cases hd
       have:=af hb
       subst this
       exact⟨o,ho,e2,e3⟩
      | false=>rw[hb] at hd;exact i3 h o' hd
    ·cases h
   ·cases h
  ·cases h
end
end Go.DN
/-
 DN,part P:into a loop or a join,and out of it.
-/
namespace Go.DN
open Go.AM
section
variable {S:dx}
def TV.bad (ks:List Nat):TV S→Bool
 | .aK h _=>!(bz h ks)
 | .agg l=>go ks l
 | .aU l=>go ks l
 | .aP _ l=>go ks l
 | _=>false
where go (ks:List Nat):List (TV S)→Bool
 | []=>false
 | x::r=>x.bad ks||go ks r
mutual
theorem lM {ln ln':Nat→Nat}{ks:List Nat}(h:∀k,k∈ks→ln k=ln' k):∀v:TV S,v.bad ks=false→v.er ln=v.er ln'
 | .ab f τ a,_=>rfl
 | .ptr f τ a,_=>rfl
 | .agg l,e=>congrArg G.agg (p8 h l e)
 | .aU l,e=>congrArg G.aU (p8 h l e)
 | .aP f l,e=>congrArg (G.aP f) (p8 h l e)
 | .loc _ _,_=>rfl
 | .gY _ _ _ _,_=>rfl
 | .aK k τ,e=>congrArg (G.aK k (S.sz τ) 0) (h k (bQ.1 (by simpa[TV.bad] using e)))
 | .sub _ _ _ _,_=>rfl
 | .cA _,_=>rfl
 | .mp _,_=>rfl
 | .ks _ _ _ _,_=>rfl
 | .kp _ _ _ _,_=>rfl
 | .fX _ _ _ _ _,_=>rfl
 | .bT _ _ _,_=>rfl
 | .val _,_=>rfl
 | .any,_=>rfl
theorem p8 {ln ln':Nat→Nat}{ks:List Nat}(h:∀k,k∈ks→ln k=ln' k):∀l:List (TV S),TV.bad.go ks l=false→TV.er.go ln l=TV.er.go ln' l
 | [],_=>rfl
 | x::r,e=>by
  simp only[TV.bad.go,bc] at e
  simp only[TV.er.go]
  rw[lM h x e.1,p8 h r e.2]
end
def TO.bad (ks:List Nat):TO S→Bool
 | .box _ _ cs=>TV.bad.go ks cs
 | .arr ..=>false
 | .lp _ _ cs=>TV.bad.go ks cs
 | .deep ..=>false
theorem TO.lM {ln ln':Nat→Nat}{ks:List Nat}(h:∀k,k∈ks→ln k=ln' k) (o:TO S) (e:o.bad ks=false):o.er ln=o.er ln':=by
 cases o with
 | box e' m cs=>simp only[TO.er];rw[p8 h cs e]
 | arr e' m f τ l=>rfl
 | lp p n cs=>simp only[TO.er];rw[p8 h cs e]
 | deep=>rfl
def bS {α:Type}(D:List Nat):List (Nat×α)→List (Nat×α)
 | []=>[]
 | x::r=>match bz x.1 D with
  | true=>bS D r
  | false=>x::bS D r
theorem kU {D:List Nat}:∀{fr:List (Nat×TV S)}{d:Nat},bp (bS D fr) d=match bz d D with | true=>none | false=>bp fr d
 | [],d=>by simp only[bS,bp];cases bz d D <;> rfl
 | (t,v)::r,d=>by
  simp only[bS]
  cases hb:Nat.beq t d with
  | true=>
   have:=af hb
   subst this
   cases hm:bz t D with
   | true=>simp only;rw[kU,hm]
   | false=>simp only[bp,hb,cond_true]
  | false=>
   cases hm:bz t D with
   | true=>simp only;rw[kU];simp only[bp,hb,cond_false]
   | false=>simp only[bp,hb,cond_false];exact kU
theorem jV {D:List Nat}:∀{st:List (Nat×TO S)}{d:Nat},aF (bS D st) d=match bz d D with | true=>none | false=>aF st d
 | [],d=>by simp only[bS,aF];cases bz d D <;> rfl
 | (t,v)::r,d=>by
  simp only[bS]
  cases hb:Nat.beq t d with
  | true=>
   have:=af hb
   subst this
   cases hm:bz t D with
   | true=>simp only;rw[jV,hm]
   | false=>simp only[aF,hb,cond_true]
  | false=>
   cases hm:bz t D with
   | true=>simp only;rw[jV];simp only[aF,hb,cond_false]
   | false=>simp only[aF,hb,cond_false];exact jV
mutual
def Sh.owns:Sh→List Nat
 | .ab _ _=>[]
 | .ptr _ _=>[]
 | .own h _=>[h]
 | .loc _ _=>[]
 | .aP _ l=>sW l
 | .agg l=>sW l
 | .cA _=>[]
 | .mp _=>[]
 | .any=>[]
 | .nr=>[]
 | .sub _ _=>[]
 | .fX _ _=>[]
 | .bT _ _=>[]
 | .ks _ _=>[]
def sW:List Sh→List Nat
 | []=>[]
 | x::r=>x.owns++sW r
end
def oB:List (Nat×Sh)→List Nat
 | []=>[]
 | (_,x)::r=>x.owns++oB r
def Oh.owns:Oh→List Nat
 | .arr ..=>[]
 | .box _ _ cs=>sW cs
 | .lp _ _ cs=>sW cs
 | .deep ..=>[]
def qn:List (Nat×Oh)→List Nat
 | []=>[]
 | (_,x)::r=>x.owns++qn r
mutual
theorem ym (ks:List Nat):∀(sh:Sh) (ls:List (bi S.α)),(∀k,k∈sh.owns→k∈ks)→(gW sh ls).1.bad ks=false
 | .ab f τ,ls,_=>by cases ls <;> rfl
 | .ptr f τ,ls,_=>by cases ls <;> rfl
 | .own k τ,ls,h=>by
  show(!(bz k ks))=false
  rw[bQ.2 (h k (by simp[Sh.owns]))];rfl
 | .loc _ _,ls,_=>rfl
 | .aP f l,ls,h=>pc ks l ls h
 | .agg l,ls,h=>pc ks l ls h
 | .cA _,ls,_=>rfl
 | .mp _,ls,_=>rfl
 | .any,ls,_=>rfl
 | .bT _ _,ls,_=>by
  simp only[gW]
  split <;> rfl
 | .nr,ls,_=>by
  simp only[gW]
  split <;> rfl
 | .sub _ _,ls,_=>by
  simp only[gW]
  split <;> rfl
 | .ks _ _,ls,_=>by
  simp only[gW]
  split <;> rfl
 | .fX _ _,ls,_=>by
  simp only[gW]
  split <;> rfl
theorem pc (ks:List Nat):∀(l:List Sh) (ls:List (bi S.α)),(∀k,k∈sW l→k∈ks)→TV.bad.go ks (cw l ls).1=false
 | [],_,_=>rfl
 | sh::r,ls,hk=>by
  simp only[cw,TV.bad.go,ym ks sh ls fun k hk'=>hk k (by simp[sW,hk']),pc ks r _ fun k hk'=>hk k (by simp[sW,hk']),Bool.or_self]
end
theorem Dr (ks:List Nat):∀(l:List (Nat×Sh)) (ls:List (bi S.α)),(∀k,k∈oB l→k∈ks)→∀d v,bp (bR l ls).1 d=some v→v.bad ks=false
 | [],ls,_,d,v,h=>by cases h
 | (d0,sh)::r,ls,hk,d,v,h=>by
  simp only[bR,bp] at h
  cases hb:Nat.beq d0 d with
  | true=>rw[hb] at h;cases h;exact ym ks sh ls fun k hk'=>hk k (by simp[oB,hk'])
  | false=>rw[hb] at h;exact Dr ks r _ (fun k hk'=>hk k (by simp[oB,hk'])) d v h
theorem L0 (ks:List Nat) (oh:Oh) (ls:List (bi S.α)) (h:∀k,k∈oh.owns→k∈ks):(mC oh ls).1.bad ks=false:=by
 cases oh with
 | arr e m f τ=>
  unfold mC
  dsimp only
  split <;> rfl
 | box e m cs=>exact pc ks cs ls h
 | lp key lv cs=>
  unfold mC
  dsimp only
  split
  ·split
   ·exact pc ks cs _ h
   ·rfl
  ·exact pc ks cs ls h
 | deep e m f dk τ=>
  unfold mC
  dsimp only
  split <;> rfl
theorem rl (ks:List Nat):∀(l:List (Nat×Oh)) (ls:List (bi S.α)),(∀k,k∈qn l→k∈ks)→∀h o,aF (bK l ls).1 h=some o→o.bad ks=false
 | [],ls,_,d,v,h=>by cases h
 | (d0,oh)::r,ls,hk,d,v,h=>by
  simp only[bK,aF] at h
  cases hb:Nat.beq d0 d with
  | true=>rw[hb] at h;cases h;exact L0 ks oh ls fun k hk'=>hk k (by simp[qn,hk'])
  | false=>rw[hb] at h;exact rl ks r _ (fun k hk'=>hk k (by simp[qn,hk'])) d v h
theorem told {t u:aj S}{al:List (Nat×Sh)}{aJ:List (Nat×Oh)}{xs ys:List (bi S.α)}{F':List (Nat×TV S)}{O':List (Nat×TO S)}{ks:List Nat}
  (hp:CI t.bV al=some xs) (hq:xC t.bj aJ=some ys) (hf:u.bV=(bR al (xs++ys)).1++F') (ho:u.bj=(bK aJ ys).1++O')
  (hF:∀d v,bp F' d=some v→bp t.bV d=some v∧v.bad ks=false) (hO:∀h o,aF O' h=some o→aF t.bj h=some o∧o.bad ks=false)
  (hk:∀k,k∈ks→t.ln k=u.ln k) (h1:∀k,k∈oB al→k∈ks) (h2:∀k,k∈qn aJ→k∈ks) (hdf:u.df=t.df) (hdg:TV.bad.go ks t.df=false):Gh t.er u.er:=by
 obtain⟨p1,p2⟩:=xE t.ln hp ys
 obtain⟨q1,_,q2⟩:=Bu t.ln t.er.st u.er.st hq []
 rw[bL] at q2
 refine Gh.typed (fun d v' hv'=>?_) (fun h o' ho'=>?_) ?_
 ·rw[hf,pU] at hv'
  split at hv'
  ·rename_i v1 e
   cases hv'
   obtain⟨v,e1,e2⟩:=p2 d _ e
   refine⟨v,e1,CV.rw ?_⟩
   rw[←lM hk _ (Dr ks al _ h1 d _ e)]
   exact e2
  ·obtain⟨e1,e2⟩:=hF d v' hv'
   refine⟨v',e1,?_⟩
   rw[lM hk v' e2]
   exact CV.refl _ _ _
 ·rw[ho,dV] at ho'
  split at ho'
  ·rename_i v1 e
   cases ho'
   obtain⟨o,e1,e2,e3⟩:=q2 h _ e
   refine⟨o,e1,?_⟩
   rw[←TO.lM hk _ (rl ks aJ _ h2 h _ e)]
   exact e3
  ·obtain⟨e1,e2⟩:=hO h o' ho'
   refine⟨o',e1,?_⟩
   rw[TO.lM hk o' e2]
   exact we.refl _ _ _
 ·rw[hdf]
  exact p8 hk _ hdg
def sH (ks:List Nat):List (Nat×TV S)→List Nat
 | []=>[]
 | (t,v)::r=>match v.bad ks with
  | true=>t::sH ks r
  | false=>sH ks r
def sG (ks:List Nat):List (Nat×TO S)→List Nat
 | []=>[]
 | (t,o)::r=>match o.bad ks with
  | true=>t::sG ks r
  | false=>sG ks r
def stay (H:List Nat):List (Nat×TO S)→List Nat
 | []=>[]
 | (t,o)::r=>match o with
  | .arr ..=>match bz t H with
   | true=>stay H r
   | false=>t::stay H r
  | .deep ..=>match bz t H with
   | true=>stay H r
   | false=>t::stay H r
  | _=>stay H r
theorem yE {ks:List Nat}:∀{fr:List (Nat×TV S)}{d:Nat}{v:TV S},bp fr d=some v→bz d (sH ks fr)=false→v.bad ks=false
 | [],_,_,h,_=>by cases h
 | (t,v')::r,d,v,h,hm=>by
  simp only[bp] at h
  simp only[sH] at hm
  cases hb:v'.bad ks with
  | true=>
   rw[hb] at hm
   simp only[bz] at hm
   cases ht:Nat.beq t d with
   | true=>rw[ht] at hm;cases hm
   | false=>rw[ht] at hm h;exact yE h hm
  | false=>
   rw[hb] at hm
   cases ht:Nat.beq t d with
   | true=>rw[ht] at h;cases h;exact hb
   | false=>rw[ht] at h;exact yE h hm
theorem yD {ks:List Nat}:∀{st:List (Nat×TO S)}{d:Nat}{o:TO S},aF st d=some o→bz d (sG ks st)=false→o.bad ks=false
 | [],_,_,h,_=>by cases h
 | (t,v')::r,d,v,h,hm=>by
  simp only[aF] at h
  simp only[sG] at hm
  cases hb:v'.bad ks with
  | true=>
   rw[hb] at hm
   simp only[bz] at hm
   cases ht:Nat.beq t d with
   | true=>rw[ht] at hm;cases hm
   | false=>rw[ht] at hm h;exact yD h hm
  | false=>
   rw[hb] at hm
   cases ht:Nat.beq t d with
   | true=>rw[ht] at h;cases h;exact hb
   | false=>rw[ht] at h;exact yD h hm
end
end Go.DN
/-
 DN,part Q:states taken apart and put together again.
-/
namespace Go.DN
open Go.AM
section
variable {S:dx}
theorem zW {ks ks':List Nat}(h:∀k,k∈ks→k∈ks'):∀v:TV S,v.bad ks=false→v.bad ks'=false:=by
 intro v
 exact TV.rec (motive_1:=fun v=>v.bad ks=false→v.bad ks'=false) (motive_2:=fun l=>TV.bad.go ks l=false→TV.bad.go ks' l=false)
  (fun _ _ _ _=>rfl) (fun _ _ _ _=>rfl) (fun l ih e=>ih e) (fun l ih e=>ih e) (fun _ _ _=>rfl) (fun _ _ _ _ _=>rfl)
  (fun k τ e=>by
   have:bz k ks=true:=by simpa[TV.bad] using e
   show(!(bz k ks'))=false
   rw[bQ.2 (h k (bQ.1 this))];rfl)
  (fun _ _ _ _ _=>rfl) (fun _ l ih e=>ih e) (fun _ _=>rfl) (fun _ _=>rfl) (fun _ _ _ _ _=>rfl) (fun _ _ _ _ _=>rfl) (fun _ _ _ _ _ _=>rfl) (fun _ _ _ _=>rfl) (fun _ _=>rfl) (fun _=>rfl) (fun _=>rfl)
  (fun x r i1 i2 e=>by
   simp only[TV.bad.go,bc] at e⊢
   exact⟨i1 e.1,i2 e.2⟩) v
theorem tu {ks ks':List Nat}(h:∀k,k∈ks→k∈ks'):∀l:List (TV S),TV.bad.go ks l=false→TV.bad.go ks' l=false
 | [],_=>rfl
 | x::r,e=>by
  simp only[TV.bad.go,bc] at e⊢
  exact⟨zW h x e.1,tu h r e.2⟩
theorem FQ {ks ks':List Nat}(h:∀k,k∈ks→k∈ks') (o:TO S) (e:o.bad ks=false):o.bad ks'=false:=by
 cases o with
 | box e' m cs=>exact tu h cs e
 | arr=>rfl
 | lp p n cs=>exact tu h cs e
 | deep=>rfl
def aG {α:Type}:List (Nat×α)→List Nat
 | []=>[]
 | x::r=>x.1::aG r
def apart (a b:List Nat):Bool:=match a with
 | []=>true
 | x::r=>match bz x b with
  | true=>false
  | false=>apart r b
theorem apart_spec {b:List Nat}:∀{a:List Nat},apart a b=true→∀x,x∈a→x∉b
 | [],_,x,h=>by cases h
 | y::r,h,x,hx=>by
  simp only[apart] at h
  cases hm:bz y b with
  | true=>rw[hm] at h;cases h
  | false=>
   rw[hm] at h
   rcases bf.1 hx with e | hx
   ·subst e;intro hb;rw[bQ.2 hb] at hm;cases hm
   ·exact apart_spec h x hx
def within (a b:List Nat):Bool:=match a with
 | []=>true
 | x::r=>match bz x b with
  | true=>within r b
  | false=>false
theorem nS {b:List Nat}:∀{a:List Nat},within a b=true→∀x,x∈a→x∈b
 | [],_,x,h=>by cases h
 | y::r,h,x,hx=>by
  simp only[within] at h
  cases hm:bz y b with
  | false=>rw[hm] at h;cases h
  | true=>
   rw[hm] at h
   rcases bf.1 hx with e | hx
   ·subst e;exact bQ.1 hm
   ·exact nS h x hx
theorem y9:∀{fr:List (Nat×TV S)}{d:Nat}{v:TV S},bp fr d=some v→d∈aG fr
 | [],_,_,h=>by cases h
 | (t,v')::r,d,v,h=>by
  simp only[bp] at h
  cases hb:Nat.beq t d with
  | true=>have:=af hb;subst this;exact au
  | false=>rw[hb] at h;exact ap _ (y9 h)
theorem s6:∀{st:List (Nat×TO S)}{d:Nat}{o:TO S},aF st d=some o→d∈aG st
 | [],_,_,h=>by cases h
 | (t,v')::r,d,v,h=>by
  simp only[aF] at h
  cases hb:Nat.beq t d with
  | true=>have:=af hb;subst this;exact au
  | false=>rw[hb] at h;exact ap _ (s6 h)
theorem G4 {fr:List (Nat×TV S)}{d:Nat}(h:d∉aG fr):bp fr d=none:=by
 cases e:bp fr d with
 | none=>rfl
 | some v=>exact absurd (y9 e) h
theorem qW {st:List (Nat×TO S)}{d:Nat}(h:d∉aG st):aF st d=none:=by
 cases e:aF st d with
 | none=>rfl
 | some v=>exact absurd (s6 e) h
theorem oE:∀{st:List (Nat×TO S)}{k:Nat},k∈aG st→∃o,aF st k=some o
 | [],_,h=>by cases h
 | (y,g)::r,k,h=>by
  simp only[aF]
  cases hb:Nat.beq y k with
  | true=>exact⟨g,rfl⟩
  | false=>
   rcases bf.1 h with e2 | h2
   ·subst e2;rw[aQ] at hb;cases hb
   ·exact oE h2
theorem jY:∀(l:List (Nat×Oh)) (ls:List (bi S.α)),aG (bK l ls).1=aG l
 | [],_=>rfl
 | (d,sh)::r,ls=>by simp only[bK,aG,jY r]
structure Cut where
 D:List Nat
 DO:List Nat
 ks:List Nat
def dT (s:aj S) (A H B:List Nat):Cut:=
 {D:=A++(B++sH (stay H s.bj) s.bV),DO:=H++sG (stay H s.bj) s.bj,ks:=stay H s.bj}
def Mh (s:aj S) (c:Cut):Bool:=
 apart c.ks c.DO&&(!(TV.bad.go c.ks s.df)&&(apart (aG s.lo) c.D&&apart (aG s.bM) c.DO))
theorem Hf {H:List Nat}:∀{st:List (Nat×TO S)}{k:Nat},k∈stay H st→k∉H∧k∈aG st
 | [],_,h=>by cases h
 | (t,o)::r,k,h=>by
  have key:k∈stay H r→k∉H∧k∈aG ((t,o)::r):=fun h=>let ⟨h1,h2⟩:=Hf h;⟨h1,ap _ h2⟩
  cases o with
  | arr e m f τ l=>
   simp only[stay] at h
   cases hm:bz t H with
   | true=>rw[hm] at h;exact key h
   | false=>
    rw[hm] at h
    rcases bf.1 h with e | h
    ·subst e
     exact⟨fun hh=>(by rw[bQ.2 hh] at hm;cases hm),au⟩
    ·exact key h
  | deep e m f dk τ l=>
   simp only[stay] at h
   cases hm:bz t H with
   | true=>rw[hm] at h;exact key h
   | false=>
    rw[hm] at h
    rcases bf.1 h with e | h
    ·subst e
     exact⟨fun hh=>(by rw[bQ.2 hh] at hm;cases hm),au⟩
    ·exact key h
  | _=>exact key h
def pR {α:Type}(D:List Nat):List (Nat×α)→List (Nat×α)
 | []=>[]
 | x::r=>match bz x.1 D with
  | true=>x::pR D r
  | false=>pR D r
theorem tS {D:List Nat}:∀{fr:List (Nat×TV S)}{d:Nat},bp (pR D fr) d=match bz d D with | true=>bp fr d | false=>none
 | [],d=>by simp only[pR,bp];cases bz d D <;> rfl
 | (t,v)::r,d=>by
  simp only[pR]
  cases hb:Nat.beq t d with
  | true=>
   have:=af hb
   subst this
   cases hm:bz t D with
   | true=>simp only[bp,hb,cond_true]
   | false=>simp only;rw[tS,hm]
  | false=>
   cases hm:bz t D with
   | true=>simp only[bp,hb,cond_false];exact tS
   | false=>simp only;rw[tS];simp only[bp,hb,cond_false]
theorem tV {D:List Nat}:∀{fr:List (Nat×TO S)}{d:Nat},aF (pR D fr) d=match bz d D with | true=>aF fr d | false=>none
 | [],d=>by simp only[pR,aF];cases bz d D <;> rfl
 | (t,v)::r,d=>by
  simp only[pR]
  cases hb:Nat.beq t d with
  | true=>
   have:=af hb
   subst this
   cases hm:bz t D with
   | true=>simp only[aF,hb,cond_true]
   | false=>simp only;rw[tV,hm]
  | false=>
   cases hm:bz t D with
   | true=>simp only[aF,hb,cond_false];exact tV
   | false=>simp only;rw[tV];simp only[aF,hb,cond_false]
def yw (s:aj S) (c:Cut):aj S:={fr:=pR c.D s.bV,lo:=bS c.D s.bV,st:=pR c.DO s.bj,bM:=bS c.DO s.bj,df:=s.df,nx:=s.nx,last:=s.last}
theorem Eb {s t:aj S}(h1:∀d,bp t.bV d=bp s.bV d) (h2:∀d,aF t.bj d=aF s.bj d) (h3:t.df=s.df):Gh s.er t.er:=by
 have hln:t.ln=s.ln:=by
  funext k
  show bI t.bj k=bI s.bj k
  unfold bI
  rw[h2]
 refine Gh.typed (fun d v' hv'=>⟨v',by rw[←h1];exact hv',?_⟩) (fun h o' ho'=>⟨o',by rw[←h2];exact ho',?_⟩) (by rw[h3,hln])
 ·rw[hln];exact CV.refl _ _ _
 ·rw[hln];exact we.refl _ _ _
theorem E6 {s t:aj S}(h1:∀d,bp t.bV d=bp s.bV d) (h2:∀d,aF t.bj d=aF s.bj d) (h3:t.last=s.last) (hl:aO s):aO t:=by
 intro d h x hm
 rw[h3] at hm
 obtain⟨i,bw,m,f,τ,l,a,e1,e2,e3⟩:=hl d h x hm
 exact⟨i,bw,m,f,τ,l,a,by rw[h1];exact e1,by rw[h2];exact e2,e3⟩
theorem yv (s:aj S) (c:Cut):∀d,bp (yw s c).bV d=bp s.bV d:=by
 intro d
 show bp (pR c.D s.bV++bS c.D s.bV) d=_
 rw[pU,tS,kU]
 cases bz d c.D with
 | true=>dsimp only;cases bp s.bV d <;> rfl
 | false=>rfl
theorem IL (s:aj S) (c:Cut):∀d,aF (yw s c).bj d=aF s.bj d:=by
 intro d
 show aF (pR c.DO s.bj++bS c.DO s.bj) d=_
 rw[dV,tV,jV]
 cases bz d c.DO with
 | true=>dsimp only;cases aF s.bj d <;> rfl
 | false=>rfl
theorem IM (s:aj S) (c:Cut) (hl:aO s):Gh s.er (yw s c).er∧aO (yw s c):=
 ⟨Eb (yv s c) (IL s c) rfl,E6 (yv s c) (IL s c) rfl hl⟩
def flat (s:aj S) (c:Cut) (t:aj S):aj S:={fr:=t.fr++bS c.D s.fr,lo:=s.lo,st:=t.st++bS c.DO s.st,bM:=s.bM,df:=s.df,nx:=t.nx,last:=t.last}
theorem B2 {α:Type}{D:List Nat}:∀{l:List (Nat×α)},apart (aG l) D=true→bS D l=l
 | [],_=>rfl
 | x::r,h=>by
  simp only[aG,apart] at h
  simp only[bS]
  cases hm:bz x.1 D with
  | true=>rw[hm] at h;cases h
  | false=>rw[hm] at h;dsimp only;rw[B2 h]
theorem zM {α:Type}{D:List Nat}:∀(l l':List (Nat×α)),bS D (l++l')=bS D l++bS D l'
 | [],_=>rfl
 | x::r,l'=>by
  simp only[bd,bS]
  cases bz x.1 D <;> simp[zM r l']
structure ud (s:aj S) (c:Cut):Prop where
 ks:∀k,k∈c.ks→k∉c.DO
 df:TV.bad.go c.ks s.df=false
 lo:bS c.D s.bV=bS c.D s.fr++s.lo
 bM:bS c.DO s.bj=bS c.DO s.st++s.bM
theorem Mg {s:aj S}{c:Cut}(h:Mh s c=true):ud s c:=by
 unfold Mh at h
 simp only[ag,a7] at h
 obtain⟨h1,h2,h3,h4⟩:=h
 exact⟨apart_spec h1,h2,by unfold aj.bV;rw[zM,B2 h3],by unfold aj.bj;rw[zM,B2 h4]⟩
theorem Ko {s t:aj S}{c:Cut}(hc:ud s c) (h1:t.lo=bS c.D s.bV) (h2:t.bM=bS c.DO s.bj) (h3:t.df=s.df) (hl:aO t):Gh t.er (flat s c t).er∧aO (flat s c t)∧bA s (flat s c t):=by
 have e1:(flat s c t).bV=t.bV:=by
  show(t.fr++bS c.D s.fr)++s.lo=t.fr++t.lo
  rw[h1,hc.lo,aA]
 have e2:(flat s c t).bj=t.bj:=by
  show(t.st++bS c.DO s.st)++s.bM=t.st++t.bM
  rw[h2,hc.bM,aA]
 exact⟨Eb (fun d=>by rw[e1]) (fun d=>by rw[e2]) h3.symm,E6 (s:=t) (t:=flat s c t) (fun d=>by rw[e1]) (fun d=>by rw[e2]) rfl hl,⟨rfl,rfl,rfl⟩⟩
def xD (s:aj S) (j:JH):Option (List (bi S.α)):=
 match CI s.bV j.al with
 | some xs=>match xC s.bj j.aJ with
  | some ys=>some (xs++ys)
  | none=>none
 | none=>none
def tF:List Nat→Nat→Nat
 | [],n=>n
 | x::r,n=>tF r (bif Nat.ble n x&&Nat.blt x 500 then x+1 else n)
def mc (s:aj S) (c:Cut) (j:JH) (ls:List (bi S.α)):aj S:=
 {fr:=(bR j.al ls).1,lo:=bS c.D s.bV,st:=(bK j.aJ (bR j.al ls).2).1,bM:=bS c.DO s.bj,df:=s.df,nx:=tF (aG j.aJ) s.nx,last:=[]}
def sk (s:aj S) (c:Cut) (j:JH) (ls:List (bi S.α)):aj S:=
 {fr:=(bR j.al ls).1++bS c.D s.fr,lo:=s.lo,st:=(bK j.aJ (bR j.al ls).2).1++bS c.DO s.st,bM:=s.bM,df:=s.df,nx:=tF (aG j.aJ) s.nx,last:=[]}
def AX (c:Cut) (j:JH):Bool:=within (oB j.al++qn j.aJ) (c.ks++aG j.aJ)&&apart c.ks (aG j.aJ)
def I1 (t:aj S):Bool:=apart (aG t.fr) (aG t.lo)&&apart (aG t.st) (aG t.bM)
theorem R9 {s:aj S}{c:Cut}(hc:ud s c) (j:JH) (ls:List (bi S.α)):(sk s c j ls).bV=(mc s c j ls).bV:=by
 show((bR j.al ls).1++bS c.D s.fr)++s.lo=(bR j.al ls).1++bS c.D s.bV
 rw[hc.lo,aA]
theorem R8 {s:aj S}{c:Cut}(hc:ud s c) (j:JH) (ls:List (bi S.α)):(sk s c j ls).bj=(mc s c j ls).bj:=by
 show((bK j.aJ (bR j.al ls).2).1++bS c.DO s.st)++s.bM=(bK j.aJ (bR j.al ls).2).1++bS c.DO s.bj
 rw[hc.bM,aA]
theorem zo {st:List (Nat×TO S)}{l:List (Nat×Oh)}{ys:List (bi S.α)}(h:xC st l=some ys) (k:Nat) (hk:k∈aG l):∃o o',aF (bK l ys).1 k=some o'∧aF st k=some o∧o'.len=o.len:=by
 obtain⟨_,_,q⟩:=Bu (fun _=>0) [] [] h []
 rw[bL] at q
 obtain⟨o',e⟩:=oE (st:=(bK l ys).1) (k:=k) (by rw[jY];exact hk)
 obtain⟨o,h1,h2,_⟩:=q k o' e
 exact⟨o,o',e,h1,h2⟩
theorem Ka {s:aj S}{c:Cut}{A H B:List Nat}{j:JH}{ls:List (bi S.α)}(hcc:c=dT s A H B) (hc:ud s c) (hj:AX c j=true) (hp:xD s j=some ls):Gh s.er (mc s c j ls).er:=by
 unfold xD at hp
 split at hp
 ·rename_i xs hx
  split at hp
  ·rename_i ys hy
   cases hp
   obtain⟨p1,_⟩:=xE s.ln hx ys
   unfold AX at hj
   simp only[ag] at hj
   obtain⟨j1,j2⟩:=hj
   have j1:=nS j1
   have j2:=apart_spec j2
   have hks:∀k,k∈c.ks++aG j.aJ→s.ln k=(mc s c j (xs++ys)).ln k:=by
    intro k hk
    show bI s.bj k=bI (mc s c j (xs++ys)).bj k
    have est:(mc s c j (xs++ys)).bj=(bK j.aJ ys).1++bS c.DO s.bj:=by
     show(bK j.aJ (bR j.al (xs++ys)).2).1++bS c.DO s.bj=_
     rw[p1]
    rw[est]
    unfold bI
    rw[dV]
    rcases eS.1 hk with hk | hk
    ·have:aF (bK j.aJ ys).1 k=none:=qW (by rw[jY];exact j2 k hk)
     rw[this]
     dsimp only
     rw[jV]
     have:bz k c.DO=false:=by
      cases hm:bz k c.DO with
      | false=>rfl
      | true=>exact absurd (bQ.1 hm) (hc.ks k hk)
     rw[this]
    ·obtain⟨o,o',e1,e2,e3⟩:=zo hy k hk
     rw[e1,e2]
     exact e3.symm
   refine told (u:=mc s c j (xs++ys)) (F':=bS c.D s.bV) (O':=bS c.DO s.bj) hx hy rfl ?_ (fun d v hv=>?_) (fun h o ho=>?_) hks (fun k hk=>j1 k (cE _ hk)) (fun k hk=>j1 k (cQ _ hk)) rfl (tu (fun k hk=>cE _ hk) _ hc.df)
   ·show(bK j.aJ (bR j.al (xs++ys)).2).1++bS c.DO s.bj=_
    rw[p1]
   ·rw[kU] at hv
    cases hm:bz d c.D with
    | true=>rw[hm] at hv;cases hv
    | false=>
     rw[hm] at hv
     refine⟨hv,zW (fun k hk=>cE _ hk) v (yE hv ?_)⟩
     subst hcc
     cases hq:bz d (sH (dT s A H B).ks s.bV) with
     | false=>rfl
     | true=>
      rw[bQ.2 (show d∈(dT s A H B).D from cQ _ (cQ _ (bQ.1 hq)))] at hm
      cases hm
   ·rw[jV] at ho
    cases hm:bz h c.DO with
    | true=>rw[hm] at ho;cases ho
    | false=>
     rw[hm] at ho
     refine⟨ho,FQ (fun k hk=>cE _ hk) o (yD ho ?_)⟩
     subst hcc
     cases hq:bz h (sG (dT s A H B).ks s.bj) with
     | false=>rfl
     | true=>
      rw[bQ.2 (show h∈(dT s A H B).DO from cQ _ (bQ.1 hq))] at hm
      cases hm
  ·cases hp
 ·cases hp
theorem NY {s t:aj S}{c:Cut}{A H B:List Nat}{j:JH}{ls:List (bi S.α)}(hcc:c=dT s A H B) (hc:ud s c) (hj:AX c j=true) (h1:t.lo=bS c.D s.bV) (h2:t.bM=bS c.DO s.bj) (h3:t.df=s.df)
  (ha:I1 t=true) (hp:xD t j=some ls):Gh t.er (mc s c j ls).er:=by
 unfold xD at hp
 split at hp
 ·rename_i xs hx
  split at hp
  ·rename_i ys hy
   cases hp
   obtain⟨p1,_⟩:=xE t.ln hx ys
   unfold AX at hj
   simp only[ag] at hj
   obtain⟨j1,j2⟩:=hj
   have j1:=nS j1
   have j2:=apart_spec j2
   unfold I1 at ha
   simp only[ag] at ha
   have a1:=apart_spec ha.1
   have a2:=apart_spec ha.2
   have tf:∀{d v},bp t.lo d=some v→bp t.bV d=some v:=by
    intro d v hv
    show bp (t.fr++t.lo) d=_
    rw[pU,G4 fun hd=>a1 d hd (y9 hv)]
    exact hv
   have of:∀{d o},aF t.bM d=some o→aF t.bj d=some o:=by
    intro d v hv
    show aF (t.st++t.bM) d=_
    rw[dV,qW fun hd=>a2 d hd (s6 hv)]
    exact hv
   have hgood:∀{d v},bp (bS c.D s.bV) d=some v→v.bad c.ks=false:=by
    intro d v hv
    rw[kU] at hv
    cases hm:bz d c.D with
    | true=>rw[hm] at hv;cases hv
    | false=>
     rw[hm] at hv
     refine yE hv ?_
     subst hcc
     cases hq:bz d (sH (dT s A H B).ks s.bV) with
     | false=>rfl
     | true=>
      rw[bQ.2 (show d∈(dT s A H B).D from cQ _ (cQ _ (bQ.1 hq)))] at hm
      cases hm
   have hgoodO:∀{d o},aF (bS c.DO s.bj) d=some o→o.bad c.ks=false:=by
    intro h o ho
    rw[jV] at ho
    cases hm:bz h c.DO with
    | true=>rw[hm] at ho;cases ho
    | false=>
     rw[hm] at ho
     refine yD ho ?_
     subst hcc
     cases hq:bz h (sG (dT s A H B).ks s.bj) with
     | false=>rfl
     | true=>
      rw[bQ.2 (show h∈(dT s A H B).DO from cQ _ (bQ.1 hq))] at hm
      cases hm
   have hkst:∀k,k∈c.ks→∃o,aF (bS c.DO s.bj) k=some o:=by
    intro k hk
    rw[jV]
    have:bz k c.DO=false:=by
     cases hm:bz k c.DO with
     | false=>rfl
     | true=>exact absurd (bQ.1 hm) (hc.ks k hk)
    rw[this]
    have hk2:k∈aG s.bj:=by subst hcc;exact(Hf hk).2
    exact oE hk2
   have hks:∀k,k∈c.ks++aG j.aJ→t.ln k=(mc s c j (xs++ys)).ln k:=by
    intro k hk
    show bI t.bj k=bI (mc s c j (xs++ys)).bj k
    have est:(mc s c j (xs++ys)).bj=(bK j.aJ ys).1++bS c.DO s.bj:=by
     show(bK j.aJ (bR j.al (xs++ys)).2).1++bS c.DO s.bj=_
     rw[p1]
    rw[est]
    unfold bI
    rw[dV]
    rcases eS.1 hk with hk | hk
    ·have:aF (bK j.aJ ys).1 k=none:=qW (by rw[jY];exact j2 k hk)
     rw[this]
     dsimp only
     obtain⟨o,ho⟩:=hkst k hk
     rw[ho]
     rw[of (by rw[h2];exact ho)]
    ·obtain⟨o,o',e1,e2,e3⟩:=zo hy k hk
     rw[e1,e2]
     exact e3.symm
   refine told (u:=mc s c j (xs++ys)) (F':=bS c.D s.bV) (O':=bS c.DO s.bj) hx hy rfl ?_ (fun d v hv=>⟨tf (by rw[h1];exact hv),zW (fun k hk=>cE _ hk) v (hgood hv)⟩)
    (fun h o ho=>⟨of (by rw[h2];exact ho),FQ (fun k hk=>cE _ hk) o (hgoodO ho)⟩) hks (fun k hk=>j1 k (cE _ hk)) (fun k hk=>j1 k (cQ _ hk)) h3.symm (by rw[h3];exact tu (fun k hk=>cE _ hk) _ hc.df)
   show(bK j.aJ (bR j.al (xs++ys)).2).1++bS c.DO s.bj=_
   rw[p1]
  ·cases hp
 ·cases hp
end
end Go.DN
/-
 DN,part R:code.
-/
namespace Go.DN
open Go.AM
section
variable {S:dx}
mutual
def Lj:Sh→TV S→List Nat
 | .ab _ _,v=>v.Lg
 | .aP _ l,v=>match v with
  | .aP _ vs=>Gn l vs
  | _=>[]
 | .agg l,v=>match v with
  | .agg vs=>Gn l vs
  | _=>[]
 | _,_=>[]
def Gn:List Sh→List (TV S)→List Nat
 | sh::r,v::vs=>Lj sh v++Gn r vs
 | _,_=>[]
end
def Lk (fr:List (Nat×TV S)):List (Nat×Sh)→List Nat
 | []=>[]
 | (d,sh)::r=>match bp fr d with
  | some v=>Lj sh v++Lk fr r
  | none=>Lk fr r
def CT (st:List (Nat×TO S)):List (Nat×Oh)→List Nat
 | []=>[]
 | (h,.box _ _ cs)::r=>match aF st h with
  | some (.box _ _ vs)=>Gn cs vs++CT st r
  | _=>CT st r
 | _::r=>CT st r
def Dt (h:Nat):List (Nat×Oh)→Option TypeId
 | []=>none
 | (k,.arr e _ _ _)::r=>bif Nat.beq k h then some e else Dt h r
 | (k,.deep e _ _ _ _)::r=>bif Nat.beq k h then some e else Dt h r
 | _::r=>Dt h r
def Qr (h:Nat):List (Nat×Oh)→Option TypeId
 | []=>none
 | (k,.deep _ _ _ (.uR kty) _)::r=>bif Nat.beq k h then some kty else Qr h r
 | _::r=>Qr h r
def vP (s:aj S) (h:Nat):aj S:=match s.free h with
 | true=>s
 | false=>match AB s h with
  | some s'=>s'
  | none=>s
theorem Qh {s:aj S}{h:Nat}(hl:aO s):Gh s.er (vP s h).er∧aO (vP s h)∧bA s (vP s h):=by
 unfold vP
 split
 ·exact⟨Gh.refl _,hl,bA.refl s⟩
 ·split
  ·rename_i s' hs
   exact Dn hl hs
  ·exact⟨Gh.refl _,hl,bA.refl s⟩
def Ha (s:aj S) (d h:Nat):aj S:=match bp s.bV d with
 | some (.aK h' τ)=>match Nat.beq h' h with
  | true=>match aF s.bj h' with
   | some (.arr _ _ _ τ' l)=>s.put d (.sub h' τ 0 (List.length l))
   | _=>s
  | false=>s
 | _=>s
theorem RO {s:aj S}(d h:Nat) (hl:aO s):Gh s.er (Ha s d h).er∧aO (Ha s d h)∧bA s (Ha s d h):=by
 unfold Ha
 split
 ·rename_i h' τ hx
  split
  ·split
   ·rename_i τ' l ho
    refine⟨?_,hl.put _ _,⟨rfl,rfl,rfl⟩⟩
    rw[iT]
    have e1:get s.er.fr d=some (.aK h' (S.sz τ) 0 (List.length l)):=by
     rw[show get s.er.fr d=_ from fG hx]
     show some (G.aK _ _ 0 (s.ln h'))=_
     rw[oG ho]
    have e2:(TV.sub h' τ 0 (List.length l):TV S).er s.ln=.aK h' (S.sz τ) 0 (List.length l):=by
     show G.aK _ _ (0*_) _=_
     rw[fg]
    rw[e2]
    refine Gh.gen (s:=s.er) (t:=s.er.put d (.aK h' (S.sz τ) 0 (List.length l))) (fun x g' hg=>?_) (fun x k' hk=>⟨k',hk,we.refl _ _ _⟩) rfl
    simp only[St.put,im] at hg
    cases hb:Nat.beq d x with
    | true=>
     rw[hb] at hg
     cases hg
     have:=af hb
     subst this
     exact⟨_,e1,CV.refl _ _ _⟩
    | false=>
     rw[hb] at hg
     exact⟨g',hg,CV.refl _ _ _⟩
   ·exact⟨Gh.refl _,hl,bA.refl s⟩
  ·exact⟨Gh.refl _,hl,bA.refl s⟩
 ·exact⟨Gh.refl _,hl,bA.refl s⟩
def oT (aJ:List (Nat×Oh)):List (Nat×Sh)→aj S→Option (aj S)
 | [],s=>some s
 | (d,.own h τ)::r,s=>match bp s.bV d with
  | some (.val (.slice none 0 0))=>match Dt h aJ with
   | some e=>match bp (vP s h).bV d with
    | some (.val (.slice none 0 0))=>match (vP s h).free h with
     | true=>match Qr h aJ with
      | none=>oT aJ r ((vP s h).ny h d e τ)
      | some kty=>Gc ((vP s h).ny h d e τ) h kty fun s=>oT aJ r s
     | false=>none
    | _=>none
   | none=>none
  | _=>oT aJ r s
 | (d,.sub h _)::r,s=>oT aJ r (Ha s d h)
 | _::r,s=>oT aJ r s
theorem dW {aJ:List (Nat×Oh)}:∀{l:List (Nat×Sh)}{s t:aj S},aO s→oT aJ l s=some t→Gh s.er t.er∧aO t∧bA s t
 | [],s,t,hl,h=>by cases h;exact⟨Gh.refl _,hl,bA.refl s⟩
 | (d,.ab _ _)::r,s,t,hl,h=>dW (l:=r) hl h
 | (d,.ptr _ _)::r,s,t,hl,h=>dW (l:=r) hl h
 | (d,.loc _ _)::r,s,t,hl,h=>dW (l:=r) hl h
 | (d,.aP _ _)::r,s,t,hl,h=>dW (l:=r) hl h
 | (d,.agg _)::r,s,t,hl,h=>dW (l:=r) hl h
 | (d,.cA _)::r,s,t,hl,h=>dW (l:=r) hl h
 | (d,.bT _ _)::r,s,t,hl,h=>dW (l:=r) hl h
 | (d,.mp _)::r,s,t,hl,h=>dW (l:=r) hl h
 | (d,.any)::r,s,t,hl,h=>dW (l:=r) hl h
 | (d,.nr)::r,s,t,hl,h=>dW (l:=r) hl h
 | (d,.sub hh _)::r,s,t,hl,h=>by
  obtain⟨a1,a2,a3⟩:=RO d hh hl
  obtain⟨b1,b2,b3⟩:=dW (l:=r) a2 h
  exact⟨a1.trans b1,b2,a3.trans b3⟩
 | (d,.fX _ _)::r,s,t,hl,h=>dW (l:=r) hl h
 | (d,.ks _ _)::r,s,t,hl,h=>dW (l:=r) hl h
 | (d,.own hh τ)::r,s,t,hl,h=>by
  simp only[oT] at h
  split at h
  ·rename_i hx
   split at h
   ·rename_i e _
    split at h
    ·rename_i hx2
     split at h
     ·rename_i hf
      obtain⟨z1,z2,z3⟩:=Qh (h:=hh) hl
      obtain⟨a1,a2⟩:=Ci (e:=e) (τ:=τ) z2 hx2 hf
      split at h
      ·obtain⟨b1,b2,b3⟩:=dW (l:=r) a2 h
       exact⟨z1.trans (Gh.trans a1 b1),b2,z3.trans ⟨b3.lo,b3.bM,b3.df⟩⟩
      ·obtain⟨t0,c1,c2,c3,h⟩:=G3 a2 h
       obtain⟨b1,b2,b3⟩:=dW (l:=r) c2 h
       exact⟨z1.trans (Gh.trans a1 (Gh.trans c1 b1)),b2,z3.trans ⟨b3.lo.trans c3.lo,b3.bM.trans c3.bM,b3.df.trans c3.df⟩⟩
     ·cases h
    ·cases h
   ·cases h
  ·exact dW hl h
def Hb (s:aj S) (h j hd:Nat):aj S:=match aF s.st h with
 | some (.box e m cs)=>match cs[j]? with
  | some (.aK h' τ)=>match Nat.beq h' hd with
   | true=>match aF s.bj h' with
    | some (.arr _ _ _ τ' l)=>s.set h (.box e m (cs.set j (.sub h' τ 0 (List.length l))))
    | _=>s
   | false=>s
  | _=>s
 | _=>s
theorem RQ {s:aj S}(h j hd:Nat) (hl:aO s):Gh s.er (Hb s h j hd).er∧aO (Hb s h j hd)∧bA s (Hb s h j hd):=by
 unfold Hb
 split
 ·rename_i e m cs ho
  split
  ·rename_i h' τ hj
   split
   ·split
    ·rename_i τ' l ho2
     refine⟨?_,hl.set ho _,⟨rfl,rfl,rfl⟩⟩
     obtain⟨e1,_⟩:=uC (o':=.box e m (cs.set j (.sub h' τ 0 (List.length l)))) ho rfl
     rw[e1]
     have e2:(TV.sub h' τ 0 (List.length l):TV S).er s.ln=(TV.aK h' τ:TV S).er s.ln:=by
      show G.aK _ _ (0*_) _=G.aK _ _ 0 (s.ln h')
      rw[fg,oG ho2]
     have e3:TV.er.go s.ln (cs.set j (.sub h' τ 0 (List.length l)))=TV.er.go s.ln cs:=by
      rw[da,qH,da,e2]
      apply lQ
      intro q
      rw[eX]
      split
      ·rename_i hq
       subst hq
       rw[ar,hj]
       split
       ·rfl
       ·rename_i hlt
        have:=(aw.1 hj).1
        rw[aN] at hlt
        exact absurd this hlt
      ·rfl
     have e4:(TO.box e m (cs.set j (.sub h' τ 0 (List.length l))):TO S).er s.ln=(TO.box e m cs:TO S).er s.ln:=by
      show ao.mk _ _ _ _ _ _ _=ao.mk _ _ _ _ _ _ _
      rw[e3]
     rw[e4,MX (dX (iR ho))]
     exact Gh.refl _
    ·exact⟨Gh.refl _,hl,bA.refl s⟩
   ·exact⟨Gh.refl _,hl,bA.refl s⟩
  ·exact⟨Gh.refl _,hl,bA.refl s⟩
 ·exact⟨Gh.refl _,hl,bA.refl s⟩
def pg (aJ:List (Nat×Oh)) (h:Nat):Nat→List Sh→aj S→Option (aj S)
 | _,[],s=>some s
 | j,.own hd τ::r,s=>match aF s.st h with
  | some (.box e' m cs)=>match cs[j]? with
   | some (.val (.slice none 0 0))=>match Dt hd aJ with
    | some e=>match aF (sN s hd).st h with
     | some (.box e' m cs)=>match cs[j]? with
      | some (.val (.slice none 0 0))=>match (sN s hd).free hd with
       | true=>pg aJ h (j+1) r (((sN s hd).add hd (.arr e true true τ [])).set h (.box e' m (cs.set j (.aK hd τ))))
       | false=>none
      | _=>none
     | _=>none
    | none=>none
   | _=>pg aJ h (j+1) r s
  | _=>pg aJ h (j+1) r s
 | j,.sub hd _::r,s=>pg aJ h (j+1) r (Hb s h j hd)
 | j,_::r,s=>pg aJ h (j+1) r s
theorem ec {aJ:List (Nat×Oh)}{h:Nat}:∀{l:List Sh}{j:Nat}{s t:aj S},aO s→pg aJ h j l s=some t→Gh s.er t.er∧aO t∧bA s t
 | [],_,s,t,hl,h=>by cases h;exact⟨Gh.refl _,hl,bA.refl s⟩
 | .ab _ _::r,_,s,t,hl,h=>ec (l:=r) hl h
 | .ptr _ _::r,_,s,t,hl,h=>ec (l:=r) hl h
 | .loc _ _::r,_,s,t,hl,h=>ec (l:=r) hl h
 | .aP _ _::r,_,s,t,hl,h=>ec (l:=r) hl h
 | .agg _::r,_,s,t,hl,h=>ec (l:=r) hl h
 | .cA _::r,_,s,t,hl,h=>ec (l:=r) hl h
 | .bT _ _::r,_,s,t,hl,h=>ec (l:=r) hl h
 | .mp _::r,_,s,t,hl,h=>ec (l:=r) hl h
 | .any::r,_,s,t,hl,h=>ec (l:=r) hl h
 | .nr::r,_,s,t,hl,h=>ec (l:=r) hl h
 | .sub hd _::r,j,s,t,hl,hh=>by
  obtain⟨a1,a2,a3⟩:=RQ h j hd hl
  obtain⟨b1,b2,b3⟩:=ec (l:=r) a2 hh
  exact⟨a1.trans b1,b2,a3.trans b3⟩
 | .fX _ _::r,_,s,t,hl,h=>ec (l:=r) hl h
 | .ks _ _::r,_,s,t,hl,h=>ec (l:=r) hl h
 | .own hd τ::r,j,s,t,hl,h=>by
  simp only[pg] at h
  split at h
  ·rename_i e' m cs ho
   split at h
   ·rename_i hj
    split at h
    ·rename_i e _
     obtain⟨z1,z2,z3⟩:=Iu hd hl
     split at h
     ·rename_i ho2
      split at h
      ·rename_i hj2
       split at h
       ·rename_i hf
        obtain⟨a1,a2⟩:=OT (e:=e) (τ:=τ) z2 ho2 hj2 hf
        obtain⟨b1,b2,b3⟩:=ec (l:=r) a2 h
        exact⟨z1.trans (Gh.trans a1 b1),b2,z3.trans ⟨b3.lo,b3.bM,b3.df⟩⟩
       ·cases h
      ·cases h
     ·cases h
    ·cases h
   ·exact ec (l:=r) hl h
  ·exact ec (l:=r) hl h
def xe (aJ:List (Nat×Oh)):List (Nat×Oh)→aj S→Option (aj S)
 | [],s=>some s
 | (h,.box _ _ cs)::r,s=>match pg aJ h 0 cs s with
  | some s'=>xe aJ r s'
  | none=>none
 | _::r,s=>xe aJ r s
theorem rJ {aJ:List (Nat×Oh)}:∀{l:List (Nat×Oh)}{s t:aj S},aO s→xe aJ l s=some t→Gh s.er t.er∧aO t∧bA s t
 | [],s,t,hl,h=>by cases h;exact⟨Gh.refl _,hl,bA.refl s⟩
 | (_,.arr _ _ _ _)::r,s,t,hl,h=>rJ (l:=r) hl h
 | (_,.deep _ _ _ _ _)::r,s,t,hl,h=>rJ (l:=r) hl h
 | (_,.lp _ _ _)::r,s,t,hl,h=>rJ (l:=r) hl h
 | (_,.box _ _ cs)::r,s,t,hl,h=>by
  simp only[xe] at h
  split at h
  ·rename_i s' hs
   obtain⟨a1,a2,a3⟩:=ec hl hs
   obtain⟨b1,b2,b3⟩:=rJ (l:=r) a2 h
   exact⟨a1.trans b1,b2,a3.trans b3⟩
  ·cases h
def DU (al:List (Nat×Sh)) (aJ:List (Nat×Oh)) (s:aj S):Option (aj S):=match oT aJ al s with
 | some s'=>xe aJ aJ s'
 | none=>none
theorem FW {al:List (Nat×Sh)}{aJ:List (Nat×Oh)}{s t:aj S}(hl:aO s) (h:DU al aJ s=some t):Gh s.er t.er∧aO t∧bA s t:=by
 unfold DU at h
 split at h
 ·rename_i s' hs
  obtain⟨a1,a2,a3⟩:=dW hl hs
  obtain⟨b1,b2,b3⟩:=rJ a2 h
  exact⟨a1.trans b1,b2,a3.trans b3⟩
 ·cases h
def CF (s:aj S) (j:JH):Option (aj S):=match DU j.al j.aJ s with
 | some s'=>ri (Lk s'.bV j.al++CT s'.bj j.aJ) s'
 | none=>none
theorem Br {s t:aj S}{j:JH}(hl:aO s) (h:CF s j=some t):Gh s.er t.er∧aO t∧bA s t:=by
 unfold CF at h
 split at h
 ·rename_i s' hs
  obtain⟨a1,a2,a3⟩:=FW hl hs
  obtain⟨b1,b2,b3⟩:=nn a2 h
  exact⟨a1.trans b1,b2,a3.trans b3⟩
 ·cases h
def carry (t:aj S) (j:JH):Option (aU S.α j.cn):=
 match CF t j with
 | some t'=>match I1 t' with
  | true=>match xD t' j with
   | some ls=>n6 j.cn ls
   | none=>none
  | false=>none
 | none=>none
theorem yy {s t:aj S}{c:Cut}{A H B:List Nat}{j:JH}{q:aU S.α j.cn}(hcc:c=dT s A H B) (hc:ud s c) (hj:AX c j=true) (h1:t.lo=bS c.D s.bV) (h2:t.bM=bS c.DO s.bj) (h3:t.df=s.df) (hl:aO t)
  (h:carry t j=some q):Gh t.er (mc s c j (leaves j.cn q)).er:=by
 unfold carry at h
 split at h
 ·rename_i t' hp
  obtain⟨a1,a2,a3⟩:=Br hl hp
  split at h
  ·rename_i ha
   split at h
   ·rename_i ls hls
    rw[gf h]
    exact a1.trans (NY hcc hc hj (a3.lo.trans h1) (a3.bM.trans h2) (a3.df.trans h3) ha hls)
   ·cases h
  ·cases h
 ·cases h
theorem vX {s t:aj S}{c:Cut}{A H B:List Nat}{j:JH}{q:aU S.α j.cn}(hcc:c=dT s A H B) (hc:ud s c) (hj:AX c j=true) (h1:t.lo=bS c.D s.bV) (h2:t.bM=bS c.DO s.bj) (h3:t.df=s.df) (hl:aO t)
  (h:carry t j=some q):Gh t.er (sk s c j (leaves j.cn q)).er:=
 (yy hcc hc hj h1 h2 h3 hl h).trans (Eb (fun d=>by rw[R9 hc]) (fun d=>by rw[R8 hc]) rfl)
inductive Hint where
 | join (j:JH)
 | oc (j:JH)
 | loop (j:JH) (id:Nat) (x:JH)
 | fN (j:JH) (id:Nat) (x:JH)
 | mY (W:List Nat)
 | gD (W:List Nat) (j:JH)
 | fz (l:List Nat)
 | tr (d:Nat)
 | th (h kty:Nat)
 | Vk (key hd:Nat)
def jJ:List (Nat×Hint)→Nat→Option Hint
 | [],_=>none
 | (k,h)::r,p=>bif Nat.beq k p then some h else jJ r p
def qe:List Oper→List Nat
 | []=>[]
 | o::r=>match o.dst with
  | some d=>d::qe r
  | none=>qe r
def mz:Code→List Nat
 | .region _ ops _=>qe ops.toList
 | .seq a b=>mz a++mz b
 | .cond _ a b=>mz a++mz b
 | .block _ c=>mz c
 | .loop c=>mz c
 | .scope c=>mz c
 | .rangeFunc _ ps a b=>ps.toList++(mz a++mz b)
 | _=>[]
def jZ:Code→Nat
 | .seq x y=>jZ x+jZ y+1
 | .cond _ x y=>jZ x+jZ y+1
 | .block _ c=>jZ c+1
 | .loop c=>jZ c+1
 | .scope c=>jZ c+1
 | _=>1
abbrev DW (S:dx):=aj S→(B:Type)→(Exit→aj S→Option B)→Option B
def EA (s:aj S) (c:Cut) (j:JH):Bool:=Mh s c&&AX c j
def Az:Exit→Bool
 | .panic _=>true
 | _=>false
def xT (s:aj S) (c:Cut) (j:JH) (at_:Exit→Bool) (run:DW S){A:Type}(K:Exit→aj S→Option A):Option A:=
 match EA s c j with
 | true=>Option.bind (run (yw s c) (aU S.α j.cn) fun e t=>match at_ e with
   | true=>carry t j
   | false=>none) fun q=>K .normal (sk s c j (leaves j.cn q))
 | false=>none
def Av (s:aj S) (c:Cut) (j:JH) (at_:Exit→Bool) (run:DW S){A:Type}(K:Exit→aj S→Option A):Option A:=
 match EA s c j with
 | true=>bx (fun r=>r) (run (yw s c) (Ex (aU S.α j.cn) A) fun e t=>match at_ e with
   | true=>match carry t j with
    | some q=>some (.cD q)
    | none=>none
   | false=>match K e (flat s c t) with
     | some r=>some (.ret r)
     | none=>none) fun q=>K .normal (sk s c j (leaves j.cn q))
 | false=>none
def nk:Exit→Bool
 | .normal=>true
 | _=>false
def yd (id:Nat):Exit→Bool
 | .normal=>true
 | .exit id'=>Nat.beq id' id
 | _=>false
def Lv (fu:Nat) (s:aj S) (c:Cut) (j:JH) (id:Nat) (x:JH) (run:DW S){A:Type}(K:Exit→aj S→Option A):Option A:=
 match EA s c j&&AX c x with
 | true=>match xD s j with
   | some ls=>match n6 j.cn ls with
    | some q0=>Option.bind (aX (fun q=>run (mc s c j (leaves j.cn q)) (aU S.α j.cn⊕aU S.α x.cn) fun e t=>match e with
      | .normal=>match carry t j with
       | some q=>some (.inl q)
       | none=>none
      | .exit id'=>match Nat.beq id' id with
       | true=>match carry t x with
        | some q=>some (.inr q)
        | none=>none
       | false=>none
      | _=>none) fu q0) fun q=>K (.exit id) (sk s c x (leaves x.cn q))
    | none=>none
   | none=>none
 | false=>none
def fN (fu:Nat) (s:aj S) (c:Cut) (j:JH) (id:Nat) (x:JH) (run:DW S){A:Type}(K:Exit→aj S→Option A):Option A:=
 match EA s c j&&AX c x with
 | true=>match xD s j with
   | some ls=>match n6 j.cn ls with
    | some q0=>bx (fun r=>r) (aX (fun q=>run (mc s c j (leaves j.cn q)) (aU S.α j.cn⊕Ex (aU S.α x.cn) A) fun e t=>match e with
      | .normal=>match carry t j with
       | some q=>some (.inl q)
       | none=>none
      | .exit id'=>match Nat.beq id' id with
       | true=>match carry t x with
        | some q=>some (.inr (.cD q))
        | none=>none
       | false=>match K (.exit id') (flat s c t) with
        | some r=>some (.inr (.ret r))
        | none=>none
      | e=>match K e (flat s c t) with
        | some r=>some (.inr (.ret r))
        | none=>none) fu q0) fun q=>K (.exit id) (sk s c x (leaves x.cn q))
    | none=>none
   | none=>none
 | false=>none
def Hy (h:Option Hint) (s:aj S){A:Type}(k:aj S→Option A):Option A:=
 match h with
 | some (.fz l)=>match ri l s with
  | some s'=>k s'
  | none=>none
 | some (.tr d)=>yX s (.tmp d) k
 | some (.th h kty)=>Gc s h kty k
 | _=>k s
theorem Ei {h:Option Hint}{s:aj S}{A:Type}{k:aj S→Option A}{r:A}(hl:aO s) (e:Hy h s k=some r):∃t,Gh s.er t.er∧aO t∧bA s t∧k t=some r:=by
 unfold Hy at e
 split at e
 ·split at e
  ·rename_i s' hz
   obtain⟨a1,a2,a3⟩:=nn hl hz
   exact⟨s',a1,a2,a3,e⟩
  ·cases e
 ·exact yW hl e
 ·exact G3 hl e
 ·exact⟨s,Gh.refl _,hl,bA.refl s,e⟩
def lE:Code→Nat→List (Nat×Array Tmp×Code×Code)
 | .seq x y,p=>lE x (p+1)++lE y (p+1+jZ x)
 | .cond _ x y,p=>lE x (p+1)++lE y (p+1+jZ x)
 | .block _ c,p=>lE c (p+1)
 | .loop c,p=>lE c (p+1)
 | .rangeFunc _ ps a b,p=>[(p,ps,a,b)]
 | _,_=>[]
def ou (S:dx) (N:Nat) (H:List (Nat×Hint)):List (Nat×Array Tmp×Code×Code)→Prop
 | []=>True
 | (p,ps,a,b)::r=>(match jJ H p with
  | some (.Vk key _)=>(S.jh key).N=N∧(S.jh key).ps=ps∧(S.jh key).ot=a∧(S.jh key).body=b
  | _=>True)∧ou S N H r
theorem ou.cN {N:Nat}{H:List (Nat×Hint)}:∀{a b:List (Nat×Array Tmp×Code×Code)},ou S N H (a++b)→ou S N H a∧ou S N H b
 | [],b,h=>⟨trivial,h⟩
 | x::r,b,h=>⟨⟨h.1,(ou.cN h.2).1⟩,(ou.cN h.2).2⟩
structure Cl (S:dx) where
 call:(Nat→Bool)→(A:Type)→(List PanicEntry→aj S→Option A)→aj S→Option Nat→Call→(aj S→Option A)→Option A
 rf:(key hd:Nat)→aj S→Operand→(A:Type)→(Exit→aj S→Option A)→Option A
def wP (ds:List Nat):List (Nat×TV S)→Bool
 | []=>true
 | (d,_)::r=>!(bz d ds)&&wP ds r
def forget (ds:List Nat) (s:aj S):aj S:={s with fr:=bS ds s.fr,last:=[]}
def AV (ops:Array Oper){A:Type}(K:Exit→aj S→Option A) (ch:List PanicEntry) (t:aj S):Option A:=
 match wP (qe ops.toList) t.lo with
 | true=>K (.panic ch) (forget (qe ops.toList) t)
 | false=>none
noncomputable def gg (P:Program) (N fu:Nat) (H:List (Nat×Hint)) (cl:Cl S):Code→Nat→aj S→(A:Type)→(Exit→aj S→Option A)→Option A
 | .skip,_,s,_,K=>K .normal s
 | .region _ ops draw,p,s,A,K=>match jJ H p with
  | some (.gD W j)=>xT s (dT s (qe ops.toList) (aG j.aJ) (aG j.al)) j nk (fun s' B K'=>match draw with
   | true=>vW P N (fun h=>bz h W) W ops (cl.call (fun h=>bz h W) B (AV ops K')) s' (K' .normal)
   | false=>qQ P N (fun h=>Nat.blt h 1100) ops.toList (cl.call (fun h=>Nat.blt h 1100) B fun ch=>K' (.panic ch)) ops.toList s' (K' .normal)) K
  | some (.mY W)=>match draw with
   | true=>vW P N (fun h=>bz h W) W ops (cl.call (fun h=>bz h W) A (AV ops K)) s (K .normal)
   | false=>qQ P N (fun h=>Nat.blt h 1100) ops.toList (cl.call (fun h=>Nat.blt h 1100) A fun ch=>K (.panic ch)) ops.toList s (K .normal)
  | _=>Hy (jJ H p) s fun s=>match draw with
   | true=>vW P N (fun h=>Nat.blt h 1100) (List.range 1100) ops (cl.call (fun h=>Nat.blt h 1100) A (AV ops K)) s (K .normal)
   | false=>qQ P N (fun h=>Nat.blt h 1100) ops.toList (cl.call (fun h=>Nat.blt h 1100) A fun ch=>K (.panic ch)) ops.toList s (K .normal)
 | .seq x y,p,s,A,K=>Hy (jJ H p) s fun s=>gg P N fu H cl x (p+1) s A fun e s'=>match e with
  | .normal=>gg P N fu H cl y (p+1+jZ x) s' A K
  | e=>K e s'
 | .cond o x y,p,s,A,K=>match o with
  | .tmp t=>match bp s.bV t with
   | some (.ab _ .bool b)=>match jJ H p with
    | some (.join j)=>xT s (dT s (mz x++mz y) (aG j.aJ) (aG j.al)) j nk (fun s' B K'=>cond b (gg P N fu H cl x (p+1) s' B K') (gg P N fu H cl y (p+1+jZ x) s' B K')) K
    | some (.oc j)=>Av s (dT s (mz x++mz y) (aG j.aJ) (aG j.al)) j nk (fun s' B K'=>cond b (gg P N fu H cl x (p+1) s' B K') (gg P N fu H cl y (p+1+jZ x) s' B K')) K
    | _=>cond b (gg P N fu H cl x (p+1) s A K) (gg P N fu H cl y (p+1+jZ x) s A K)
   | _=>none
  | _=>none
 | .block id c,p,s,A,K=>match jJ H p with
  | some (.join j)=>xT s (dT s (mz c) (aG j.aJ) (aG j.al)) j (yd id) (fun s' B K'=>gg P N fu H cl c (p+1) s' B K') K
  | some (.oc j)=>Av s (dT s (mz c) (aG j.aJ) (aG j.al)) j (yd id) (fun s' B K'=>gg P N fu H cl c (p+1) s' B K') K
  | _=>gg P N fu H cl c (p+1) s A fun e s'=>match e with
   | .exit id'=>match Nat.beq id' id with
    | true=>K .normal s'
    | false=>K (.exit id') s'
   | e=>K e s'
 | .loop c,p,s,A,K=>match jJ H p with
  | some (.loop j id x)=>match CF s j with
   | some s'=>Lv fu s' (dT s' (mz c) (aG j.aJ) (aG j.al)) j id x (fun s' B K'=>gg P N fu H cl c (p+1) s' B K') K
   | none=>none
  | some (.fN j id x)=>match CF s j with
   | some s'=>fN fu s' (dT s' (mz c) (aG j.aJ) (aG j.al)) j id x (fun s' B K'=>gg P N fu H cl c (p+1) s' B K') K
   | none=>none
  | _=>none
 | .exit id,_,s,_,K=>K (.exit id) s
 | .ret,_,s,_,K=>K .ret s
 | .rangeFunc g _ _ _,p,s,A,K=>match jJ H p with
  | some (.Vk key hd)=>cl.rf key hd s g A K
  | _=>none
 | _,_,_,_,_=>none
section
variable {P:Program}{N:Nat}{cx:Cx}
def I8 (P:Program) (N:Nat) (cx:Cx) (c:Code) (run:DW S):Prop:=
 ∀(s:aj S) (B:Type) (K:Exit→aj S→Option B) (r:B),aO s→run s B K=some r→∀Q:Exit→St→Prop,(∀e t,aO t→bA s t→K e t=some r→Q e t.er)→GW P N cx c Q s.er
theorem GW.Rh {σ ρ:Type}{c:Code}{Q:Exit→St→Prop}(E:σ→St) (R:ρ→Exit→St→Prop){body:σ→Option (σ⊕ρ)}{n:Nat}{x0:σ}{e:ρ}(hl:AM.aX body n x0=some e)
  (hr:∀x o,body x=some o→GW P N cx c (fun ex s=>match o with | .inl x'=>ex=.normal∧Gh s (E x') | .inr r=>ex≠.normal∧R r ex s) (E x)) (hq:∀ex s,ex≠.normal→R e ex s→Q ex s):GW P N cx (.loop c) Q (E x0):=by
 intro μ a w hrel
 refine Cm (fun k a w=>∃x μ,AM.aX body k x=some e∧Rel N cx μ (E x) a w) n ⟨x0,μ,hl,hrel⟩ ?_
 rintro k a w ⟨x,μ,hI,hrel⟩
 cases k with
 | zero=>exact absurd hI (by simp[AM.aX])
 | succ k=>
  simp only[AM.aX] at hI
  cases hb:body x with
  | none=>rw[hb] at hI;cases hI
  | some o=>
   rw[hb] at hI
   refine wpIn_mono (hr x o hb μ a w hrel) fun ex a' w' hl=>?_
   cases o with
   | inl x'=>
    cases ex with
    | normal=>
     obtain⟨μ',s',hr',_,hg⟩:=hl
     obtain⟨μ2,h1,_⟩:=hg N cx μ' a' w' hr'
     exact⟨k,Nat.lt_succ_self k,x',μ2,hI,h1⟩
    | outgrown=>exact hl.elim
    | _=>obtain⟨μ',s',hr',hq',_⟩:=hl;cases hq'
   | inr r=>
    cases hI
    cases ex with
    | normal=>obtain⟨μ',s',hr',hq',_⟩:=hl;exact absurd rfl hq'
    | outgrown=>exact hl.elim
    | _=>obtain⟨μ',s',hr',hn,hq'⟩:=hl;exact⟨μ',s',hr',hq _ _ hn hq'⟩
theorem vS {s:aj S}{c:Cut}{j:JH}(h:EA s c j=true):ud s c∧AX c j=true:=by
 unfold EA at h
 simp only[ag] at h
 exact⟨Mg h.1,h.2⟩
theorem GW.CD {c:Code}{Q Q':Exit→St→Prop}{s:St}(h:GW P N cx c Q' s) (hq:∀e s,Q' e s→∃t,Gh s t∧Q e t):GW P N cx c Q s:=fun μ a w hr=>
 wpIn_mono (h μ a w hr) fun e a' w' hl=>by
  cases e with
  | outgrown=>exact hl.elim
  | _=>
   obtain⟨μ',s',hr',h4⟩:=hl
   obtain⟨t,h5,h6⟩:=hq _ _ h4
   obtain⟨μ2,h7,_⟩:=h5 N cx μ' a' w' hr'
   exact⟨μ2,t,h7,h6⟩
theorem DD {s t:aj S}{c:Cut}(h:bA (yw s c) t):t.lo=bS c.D s.bV∧t.bM=bS c.DO s.bj∧t.df=s.df:=⟨h.lo,h.bM,h.df⟩
theorem BL {code:Code}{s:aj S}{A H B:List Nat}{j:JH}{at_:Exit→Bool}{run:DW S}{X:Type}{K:Exit→aj S→Option X}{r:X}(hat:∀e,at_ e=true→Az e=false) (hrun:I8 P N cx code run) (hl:aO s)
  (h:xT s (dT s A H B) j at_ run K=some r){Q:Exit→St→Prop}(hQ:∀e t,aO t→bA s t→K e t=some r→Q e t.er):
  GW P N cx code (fun e s'=>at_ e=true∧∃t,Gh s' t∧Q .normal t) s.er:=by
 unfold xT at h
 split at h
 ·rename_i hf
  obtain⟨hc,hj⟩:=vS hf
  obtain⟨q,h1,h2⟩:=bind_some h
  obtain⟨g1,g2⟩:=IM s (dT s A H B) hl
  refine GW.gh g1 (hrun _ _ _ q g2 h1 _ fun e t hlt hk hK=>?_)
  split at hK
  ·rename_i he
   obtain⟨k1,k2,k3⟩:=DD hk
   exact⟨he,_,vX rfl hc hj k1 k2 k3 hlt hK,hQ _ _ (gQ rfl) ⟨rfl,rfl,rfl⟩ h2⟩
  ·cases hK
 ·cases h
theorem HS {code:Code}{s:aj S}{A H B:List Nat}{j:JH}{at_:Exit→Bool}{run:DW S}{X:Type}{K:Exit→aj S→Option X}{r:X}(hat:∀e,at_ e=true→Az e=false) (hrun:I8 P N cx code run) (hl:aO s)
  (h:Av s (dT s A H B) j at_ run K=some r){Q:Exit→St→Prop}(hQ:∀e t,aO t→bA s t→K e t=some r→Q e t.er):
  GW P N cx code (fun e s'=>(at_ e=true∧∃t,Gh s' t∧Q .normal t)∨(at_ e=false∧∃t,Gh s' t∧Q e t)) s.er:=by
 unfold Av at h
 split at h
 ·rename_i hf
  obtain⟨hc,hj⟩:=vS hf
  obtain⟨ex,h1,h2,h3⟩:=DS h
  obtain⟨g1,g2⟩:=IM s (dT s A H B) hl
  refine GW.gh g1 (hrun _ _ _ ex g2 h1 _ fun e t hlt hk hK=>?_)
  obtain⟨k1,k2,k3⟩:=DD hk
  split at hK
  ·rename_i he
   split at hK
   ·rename_i q hq
    cases hK
    exact .inl ⟨he,_,vX rfl hc hj k1 k2 k3 hlt hq,hQ _ _ (gQ rfl) ⟨rfl,rfl,rfl⟩ (h2 q rfl)⟩
   ·cases hK
  ·rename_i he
   split at hK
   ·rename_i r' hr'
    cases hK
    obtain⟨f1,f2,f3⟩:=Ko hc k1 k2 k3 hlt
    refine .inr ⟨he,_,f1,hQ e _ f2 f3 ?_⟩
    rw[hr',←h3 r' rfl]
   ·cases hK
 ·cases h
theorem PN {body:Code}{fu:Nat}{s:aj S}{A H B:List Nat}{j x:JH}{id:Nat}{run:DW S}{X:Type}{K:Exit→aj S→Option X}{r:X}(hrun:I8 P N cx body run) (hl:aO s)
  (h:Lv fu s (dT s A H B) j id x run K=some r){Q:Exit→St→Prop}(hQ:∀e t,aO t→bA s t→K e t=some r→Q e t.er):
  GW P N cx (.loop body) Q s.er:=by
 unfold Lv at h
 split at h
 ·rename_i hf
  simp only[ag] at hf
  obtain⟨hc,hj⟩:=vS hf.1
  have hx:=hf.2
  split at h
  ·rename_i ls hls
   split at h
   ·rename_i q0 hq0
    obtain⟨q,h1,h2⟩:=bind_some h
    refine GW.gh (Ka rfl hc hj hls) ?_
    rw[←gf hq0]
    refine GW.CD (GW.Rh (fun q=>(mc s (dT s A H B) j (leaves j.cn q)).er) (fun (b:aU S.α x.cn) e s'=>e=.exit id∧∃t,Gh s' t∧t=(sk s (dT s A H B) x (leaves x.cn b)).er) h1 (Q:=fun e s'=>e=.exit id∧∃t,Gh s' t∧t=(sk s (dT s A H B) x (leaves x.cn q)).er) (fun q' o ho=>?_) (fun e s' hne hR=>hR)) (fun e s' hR=>?_)
    ·refine hrun _ _ _ o (gQ rfl) ho _ fun e t hlt hk hK=>?_
     have k1:t.lo=bS (dT s A H B).D s.bV:=hk.lo
     have k2:t.bM=bS (dT s A H B).DO s.bj:=hk.bM
     have k3:t.df=s.df:=hk.df
     split at hK
     ·split at hK
      ·rename_i q2 hq2
       cases hK
       exact⟨rfl,yy rfl hc hj k1 k2 k3 hlt hq2⟩
      ·cases hK
     ·split at hK
      ·rename_i hid
       split at hK
       ·rename_i q2 hq2
        cases hK
        have:=af hid
        subst this
        exact⟨fun e=>(by cases e),rfl,_,vX rfl hc hx k1 k2 k3 hlt hq2,rfl⟩
       ·cases hK
      ·cases hK
     ·cases hK
    ·obtain⟨e1,t,e2,e3⟩:=hR
     subst e1;subst e3
     exact⟨_,e2,hQ _ _ (gQ (t:=sk s (dT s A H B) x (leaves x.cn q)) rfl) ⟨rfl,rfl,rfl⟩ h2⟩
   ·cases h
  ·cases h
 ·cases h
def LR {β X:Type}(s:aj S) (K:Exit→aj S→Option X) (id:Nat) (out:β→St) (b:Ex β X) (e:Exit) (s':St):Prop:=
 match b with
 | .cD b=>e=.exit id∧∃t,Gh s' t∧t=out b
 | .ret r'=>∃t:aj S,Gh s' t.er∧aO t∧bA s t∧K e t=some r'
theorem PM {body:Code}{fu:Nat}{s:aj S}{A H B:List Nat}{j x:JH}{id:Nat}{run:DW S}{X:Type}{K:Exit→aj S→Option X}{r:X}(hrun:I8 P N cx body run) (hl:aO s)
  (h:fN fu s (dT s A H B) j id x run K=some r){Q:Exit→St→Prop}(hQ:∀e t,aO t→bA s t→K e t=some r→Q e t.er):
  GW P N cx (.loop body) Q s.er:=by
 unfold fN at h
 split at h
 ·rename_i hf
  simp only[ag] at hf
  obtain⟨hc,hj⟩:=vS hf.1
  have hx:=hf.2
  split at h
  ·rename_i ls hls
   split at h
   ·rename_i q0 hq0
    obtain⟨ex,h1,h2,h3⟩:=DS h
    refine GW.gh (Ka rfl hc hj hls) ?_
    rw[←gf hq0]
    refine GW.CD (GW.Rh (fun q=>(mc s (dT s A H B) j (leaves j.cn q)).er)
     (LR s K id fun b=>(sk s (dT s A H B) x (leaves x.cn b)).er) h1
     (Q:=LR s K id (fun b=>(sk s (dT s A H B) x (leaves x.cn b)).er) ex) (fun q' o ho=>?_) (fun e s' hne hR=>hR)) (fun e s' hR=>?_)
    ·refine hrun _ _ _ o (gQ rfl) ho _ fun e t hlt hk hK=>?_
     have k1:t.lo=bS (dT s A H B).D s.bV:=hk.lo
     have k2:t.bM=bS (dT s A H B).DO s.bj:=hk.bM
     have k3:t.df=s.df:=hk.df
     obtain⟨f1,f2,f3⟩:=Ko hc k1 k2 k3 hlt
     split at hK
     ·split at hK
      ·rename_i q2 hq2
       cases hK
       exact⟨rfl,yy rfl hc hj k1 k2 k3 hlt hq2⟩
      ·cases hK
     ·split at hK
      ·rename_i hid
       split at hK
       ·rename_i q2 hq2
        cases hK
        have:=af hid
        subst this
        exact⟨fun e=>(by cases e),rfl,_,vX rfl hc hx k1 k2 k3 hlt hq2,rfl⟩
       ·cases hK
      ·split at hK
       ·rename_i r' hr'
        cases hK
        exact⟨fun e=>(by cases e),_,f1,f2,f3,hr'⟩
       ·cases hK
     ·rename_i hn1 hn2
      split at hK
      ·rename_i r' hr'
       cases hK
       exact⟨fun e=>hn1 e,_,f1,f2,f3,hr'⟩
      ·cases hK
    ·cases ex with
     | cD b=>
      obtain⟨e1,t,e2,e3⟩:=hR
      subst e1;subst e3
      exact⟨_,e2,hQ _ _ (gQ (t:=sk s (dT s A H B) x (leaves x.cn b)) rfl) ⟨rfl,rfl,rfl⟩ (h2 b rfl)⟩
     | ret r'=>
      obtain⟨t,e2,e3,e4,e5⟩:=hR
      refine⟨_,e2,hQ _ _ e3 e4 ?_⟩
      rw[e5,←h3 r' rfl]
   ·cases h
  ·cases h
 ·cases h
end
end
end Go.DN
/-
 DN,part S:what the code does is what 'denC' says.
-/
namespace Go.DN
open Go.AM
section
variable {S:dx}{P:Program}{N:Nat}{cx:Cx}{fu:Nat}{H:List (Nat×Hint)}{cl:Cl S}
structure rK (P:Program) (N:Nat) (cl:Cl S):Prop where
 call:∀(ok:Nat→Bool) (W:List Nat),(∀h,ok h=true→W.contains h=true)→∀(A:Type) (kp:List PanicEntry→aj S→Option A) (r:A),Ac P N W (cl.call ok A kp) kp r
 cA:∀(ok:Nat→Bool) (A:Type) (kp:List PanicEntry→aj S→Option A) (r:A),Uy P N (cl.call ok A kp) r
 rf:∀(cx:Cx),cx.ro=none→∀(key hd:Nat) (g:Operand),(S.jh key).N=N→∀(s:aj S) (B:Type) (K:Exit→aj S→Option B) (r:B),aO s→cl.rf key hd s g B K=some r→∀Q:Exit→St→Prop,(∀e t,aO t→bA s t→K e t=some r→Q e t.er)→
  GW P N cx (.rangeFunc g (S.jh key).ps (S.jh key).ot (S.jh key).body) Q s.er
theorem xA:∀h,Nat.blt h 1100=true→(List.range 1100).contains h=true:=fun h hh=>fI.2 (List.mem_range.2 (by simpa[fh] using hh))
theorem JW (W:List Nat):∀h,bz h W=true→W.contains h=true:=fun h hh=>fI.2 (bQ.1 hh)
theorem Gh.lift {c:Code}{Q:Exit→St→Prop}{s:St}(h:GW P N cx c (fun e s'=>∃t,Gh s' t∧Q e t) s):GW P N cx c Q s:=
 GW.CD h fun e s' hq=>hq
theorem Cf:∀{l:List Oper}{d:Nat},d∈l.filterMap (·.dst)→d∈qe l
 | [],d,h=>by cases h
 | o::r,d,h=>by
  simp only[qe]
  cases ho:o.dst with
  | none=>
   rw[List.filterMap_cons_none ho] at h
   exact Cf h
  | some x=>
   rw[List.filterMap_cons_some ho] at h
   rcases bf.1 h with e | h
   ·subst e;exact au
   ·exact ap _ (Cf h)
theorem CR {ds:List Nat}:∀{l:List (Nat×TV S)}{d:Nat},wP ds l=true→d∈ds→bp l d=none
 | [],_,_,_=>rfl
 | (k,v)::r,d,h,hm=>by
  simp only[wP,ag,a7] at h
  simp only[bp]
  cases hb:Nat.beq k d with
  | true=>
   have:=af hb
   subst this
   rw[bQ.2 hm] at h;cases h.1
  | false=>exact CR h.2 hm
theorem zD {ln:Nat→Nat}:∀{fr:List (Nat×TV S)}{t:Nat},bp fr t=none→get (gX ln fr) t=none
 | [],_,_=>rfl
 | (k,g)::r,t,h=>by
  simp only[bp] at h
  simp only[gX,AM.get]
  cases hk:Nat.beq k t with
  | true=>rw[hk] at h;cases h
  | false=>rw[hk] at h;exact zD h
theorem LZ (ds:List Nat) (s:aj S) (hn:wP ds s.lo=true) (d:Nat):bp (forget ds s).bV d=if bz d ds=true then none else bp s.bV d:=by
 show bp (bS ds s.fr++s.lo) d=if bz d ds=true then none else bp (s.fr++s.lo) d
 rw[pU,pU,kU]
 cases h:bz d ds with
 | true=>rw[CR hn (bQ.1 h)];rfl
 | false=>rfl
theorem Gh.V3 {s t:St}(h1:∀d g,get t.fr d=some g→get s.fr d=some g) (h2:t.st=s.st) (h3:t.df=s.df):Gh s t:=by
 obtain⟨fr,st,df⟩:=s
 obtain⟨fr',st',df'⟩:=t
 dsimp only at h1 h2 h3
 subst h2;subst h3
 exact fun N cx μ a w hr=>⟨μ,{st:=hr.st,nd:=hr.nd,sz:=hr.sz,fr:=fun d g hg=>hr.fr d g (h1 d g hg)},Gh.same fun h k b m h4 h5=>⟨k,h4,h5⟩⟩
theorem AY {ln:Nat→Nat}(fr:List (Nat×TV S)) (t:Nat):get (gX ln fr) t=(bp fr t).map (TV.er ln):=by
 cases h:bp fr t with
 | none=>exact zD h
 | some v=>exact fG h
theorem N9 {ops:Array Oper}{s:aj S}(hn:wP (qe ops.toList) s.lo=true):Gh s.er (forget (qe ops.toList) s).er∧∀d,d∈sE ops→get (forget (qe ops.toList) s).er.fr d=none:=by
 have key:∀d,get (forget (qe ops.toList) s).er.fr d=if bz d (qe ops.toList)=true then none else get s.er.fr d:=by
  intro d
  show get (gX s.ln (forget (qe ops.toList) s).bV) d=if bz d (qe ops.toList)=true then none else get (gX s.ln s.bV) d
  rw[AY,AY,LZ _ _ hn]
  split <;> rfl
 refine⟨Gh.V3 (fun d g hg=>?_) rfl rfl,fun d hd=>?_⟩
 ·rw[key] at hg
  split at hg
  ·cases hg
  ·exact hg
 ·rw[key,if_pos (bQ.2 (Cf hd))]
theorem zl (hm:P.follows .mixedOrders=true) (hcl:rK P N cl) (id:Nat) (ops:Array Oper) (draw:Bool) (W:Option (List Nat)):I8 P N cx (.region id ops draw) (fun s B K=>match draw with
  | true=>match W with
   | some W=>vW P N (fun h=>bz h W) W ops (cl.call (fun h=>bz h W) B (AV ops K)) s (K .normal)
   | none=>vW P N (fun h=>Nat.blt h 1100) (List.range 1100) ops (cl.call (fun h=>Nat.blt h 1100) B (AV ops K)) s (K .normal)
  | false=>qQ P N (fun h=>Nat.blt h 1100) ops.toList (cl.call (fun h=>Nat.blt h 1100) B fun ch=>K (.panic ch)) ops.toList s (K .normal)):=by
 intro s B K r hl h Q hQ
 have hp:∀ch (t:aj S),aO t→bA s t→AV ops K ch t=some r→∃u,Gh t.er u∧Q (.panic ch) u∧∀d,d∈sE ops→get u.fr d=none:=by
  intro ch t a b c
  unfold AV at c
  split at c
  ·rename_i hn
   obtain⟨f1,f2⟩:=N9 hn
   exact⟨_,f1,hQ (.panic ch) _ (gQ rfl) ⟨b.lo,b.bM,b.df⟩ c,f2⟩
  ·cases c
 cases draw with
 | true=>
  cases W with
  | some W=>exact II hm (JW W) (hcl.call _ _ (JW W) B (AV ops K) r) hl h (fun t a b c=>hQ .normal t a b c) hp
  | none=>exact II hm xA (hcl.call _ _ xA B (AV ops K) r) hl h (fun t a b c=>hQ .normal t a b c) hp
 | false=>
  have:ops=ops.toList.toArray:=by simp
  rw[this]
  exact GW.region (ql xA (hcl.call _ _ xA B _ r) (hcl.cA _ B _ r) hl h (fun t a b c=>hQ .normal t a b c) fun ch t a b c=>⟨_,Gh.refl _,hQ (.panic ch) t a b c⟩)
theorem yc:∀e,nk e=true→Az e=false:=fun e h=>by cases e <;> first | rfl | cases h
theorem J8 (id:Nat):∀e,yd id e=true→Az e=false:=fun e h=>by cases e <;> first | rfl | cases h
theorem AT {c:Code}{Q:Exit→St→Prop}{s:St}(h:GW P N cx c (fun e s'=>nk e=true∧∃t,Gh s' t∧Q .normal t) s):GW P N cx c Q s:=
 Gh.lift (h.mono fun e s' ⟨h1,t,h2,h3⟩=>by
  cases e with
  | normal=>exact⟨t,h2,h3⟩
  | _=>cases h1)
theorem HR {c:Code}{Q:Exit→St→Prop}{s:St}(h:GW P N cx c (fun e s'=>(nk e=true∧∃t,Gh s' t∧Q .normal t)∨(nk e=false∧∃t,Gh s' t∧Q e t)) s):GW P N cx c Q s:=
 Gh.lift (h.mono fun e s' hq=>by
  rcases hq with ⟨h1,t,h2,h3⟩ | ⟨h0,t,h2,h3⟩
  ·cases e with
   | normal=>exact⟨t,h2,h3⟩
   | _=>cases h1
  ·exact⟨t,h2,h3⟩)
theorem PJ {id:Nat}{c:Code}{Q:Exit→St→Prop}{s:St}(h:GW P N cx c (fun e s'=>yd id e=true∧∃t,Gh s' t∧Q .normal t) s):GW P N cx (.block id c) Q s:=
 GW.block (Gh.lift (h.mono fun e s' ⟨h1,t,h2,h3⟩=>by
  refine⟨t,h2,?_⟩
  cases e with
  | normal=>exact h3
  | exit id'=>
   have:=af h1
   subst this
   simp only[xi,if_true]
   exact h3
  | _=>cases h1))
theorem NH {id:Nat}{c:Code}{Q:Exit→St→Prop}{s:St}(h:GW P N cx c (fun e s'=>(yd id e=true∧∃t,Gh s' t∧Q .normal t)∨(yd id e=false∧∃t,Gh s' t∧Q e t)) s):GW P N cx (.block id c) Q s:=
 GW.block (Gh.lift (h.mono fun e s' hq=>by
  rcases hq with ⟨h1,t,h2,h3⟩ | ⟨h0,t,h2,h3⟩
  ·refine⟨t,h2,?_⟩
   cases e with
   | normal=>exact h3
   | exit id'=>
    have:=af h1
    subst this
    simp only[xi,if_true]
    exact h3
   | _=>cases h1
  ·refine⟨t,h2,?_⟩
   cases e with
   | normal=>exact h3
   | exit id'=>
    simp only[yd] at h0
    simp only[xi]
    rw[if_neg (fun e=>by subst e;rw[aQ] at h0;cases h0)]
    exact h3
   | _=>exact h3))
theorem TJ {a b:List (Nat×Array Tmp×Code×Code)}(h:a++b=[]∨cx.ro=none):a=[]∨cx.ro=none:=h.imp (fun h=>(List.append_eq_nil_iff.1 h).1) id
theorem TI {a b:List (Nat×Array Tmp×Code×Code)}(h:a++b=[]∨cx.ro=none):b=[]∨cx.ro=none:=h.imp (fun h=>(List.append_eq_nil_iff.1 h).2) id
theorem jK (hm:P.follows .mixedOrders=true) (hcl:rK P N cl):∀(c:Code) (p:Nat),ou S N H (lE c p)→(lE c p=[]∨cx.ro=none)→I8 P N cx c (fun s B K=>gg P N fu H cl c p s B K)
 | .skip,p,_,_=>fun s B K r hl h Q hQ=>GW.skip (hQ _ s hl (bA.refl s) h)
 | .region id ops draw,p,_,_=>fun s B K r hl h Q hQ=>by
  simp only[gg] at h
  split at h
  ·rename_i W j _
   refine AT (BL yc (run:=fun s B K=>match draw with
    | true=>vW P N (fun h=>bz h W) W ops (cl.call (fun h=>bz h W) B (AV ops K)) s (K .normal)
    | false=>qQ P N (fun h=>Nat.blt h 1100) ops.toList (cl.call (fun h=>Nat.blt h 1100) B fun ch=>K (.panic ch)) ops.toList s (K .normal)) ?_ hl h hQ)
   intro s B K r hl h Q hQ
   refine zl hm hcl id ops draw (some W) s B K r hl ?_ Q hQ
   cases draw <;> exact h
  ·rename_i W _
   refine zl hm hcl id ops draw (some W) s B K r hl ?_ Q hQ
   cases draw <;> exact h
  ·obtain⟨s1,g1,g2,g3,h⟩:=Ei hl h
   refine GW.gh g1 (zl hm hcl id ops draw none s1 B K r g2 ?_ Q fun e t a b c=>hQ e t a (g3.trans b) c)
   cases draw <;> exact h
 | .seq x y,p,hr,ho=>fun s B K r hl h Q hQ=>by
  simp only[gg] at h
  obtain⟨s1,g1,g2,g3,h⟩:=Ei hl h
  refine GW.gh g1 (GW.seq (jK hm hcl x _ hr.cN.1 (TJ ho) s1 B _ r g2 h _ fun e t hlt hk hK=>?_))
  cases e with
  | normal=>exact jK hm hcl y _ hr.cN.2 (TI ho) t B K r hlt hK Q fun e' t' a b c=>hQ e' t' a (g3.trans (hk.trans b)) c
  | _=>exact hQ _ t hlt (g3.trans hk) hK
 | .cond o x y,p,hr,ho=>fun s B K r hl h Q hQ=>by
  simp only[gg] at h
  split at h
  ·rename_i t
   split at h
   ·rename_i f b hb
    have hg:get s.er.fr t=some (.val (.bool b)):=by rw[show get s.er.fr t=_ from fG hb];exact congrArg some (gZ f b)
    have sub:∀(s:aj S),(∀d,bp s.bV d=bp s.bV d)→True:=fun _ _=>trivial
    have hrun:I8 P N cx (.cond (.tmp t) x y) (fun s' B' K'=>match bp s'.bV t with
     | some (.ab _ .bool b')=>cond b' (gg P N fu H cl x (p+1) s' B' K') (gg P N fu H cl y (p+1+jZ x) s' B' K')
     | _=>none):=by
     intro s' B' K' r' hl' h' Q' hQ'
     dsimp only at h'
     split at h'
     ·rename_i f' b' hb'
      have hg':get s'.er.fr t=some (.val (.bool b')):=by rw[show get s'.er.fr t=_ from fG hb'];exact congrArg some (gZ f' b')
      refine GW.cond hg' (fun e=>?_) (fun e=>?_)
      ·subst e;exact jK hm hcl x _ hr.cN.1 (TJ ho) s' B' K' r' hl' h' Q' hQ'
      ·subst e;exact jK hm hcl y _ hr.cN.2 (TI ho) s' B' K' r' hl' h' Q' hQ'
     ·cases h'
    split at h
    ·rename_i j _
     have h2:xT s (dT s (mz x++mz y) (aG j.aJ) (aG j.al)) j nk (fun s' B' K'=>match bp s'.bV t with
      | some (.ab _ .bool b')=>cond b' (gg P N fu H cl x (p+1) s' B' K') (gg P N fu H cl y (p+1+jZ x) s' B' K')
      | _=>none) K=some r:=by
      rw[←h]
      unfold xT
      split
      ·congr 1
       dsimp only
       rw[yv,hb]
      ·rfl
     exact AT (BL yc hrun hl h2 hQ)
    ·rename_i j _
     have h2:Av s (dT s (mz x++mz y) (aG j.aJ) (aG j.al)) j nk (fun s' B' K'=>match bp s'.bV t with
      | some (.ab _ .bool b')=>cond b' (gg P N fu H cl x (p+1) s' B' K') (gg P N fu H cl y (p+1+jZ x) s' B' K')
      | _=>none) K=some r:=by
      rw[←h]
      unfold Av
      split
      ·congr 1
       dsimp only
       rw[yv,hb]
      ·rfl
     exact HR (HS yc hrun hl h2 hQ)
    ·refine GW.cond hg (fun e=>?_) (fun e=>?_)
     ·subst e;exact jK hm hcl x _ hr.cN.1 (TJ ho) s B K r hl h Q hQ
     ·subst e;exact jK hm hcl y _ hr.cN.2 (TI ho) s B K r hl h Q hQ
   ·cases h
  ·cases h
 | .block id c,p,hr,ho=>fun s B K r hl h Q hQ=>by
  simp only[gg] at h
  split at h
  ·exact PJ (BL (J8 id) (jK hm hcl c _ hr ho) hl h hQ)
  ·exact NH (HS (J8 id) (jK hm hcl c _ hr ho) hl h hQ)
  ·refine GW.block (jK hm hcl c _ hr ho s B _ r hl h _ fun e t hlt hk hK=>?_)
   cases e with
   | exit id'=>
    dsimp only at hK
    simp only[xi]
    split at hK
    ·rename_i he
     rw[if_pos (af he)]
     exact hQ _ t hlt hk hK
    ·rename_i he
     rw[if_neg (fun e=>by subst e;rw[aQ] at he;cases he)]
     exact hQ _ t hlt hk hK
   | _=>exact hQ _ t hlt hk hK
 | .loop c,p,hr,ho=>fun s B K r hl h Q hQ=>by
  simp only[gg] at h
  split at h
  ·split at h
   ·rename_i s' hp
    obtain⟨a1,a2,a3⟩:=Br hl hp
    exact GW.gh a1 (PN (jK hm hcl c _ hr ho) a2 h fun e t x y z=>hQ e t x (a3.trans y) z)
   ·cases h
  ·split at h
   ·rename_i s' hp
    obtain⟨a1,a2,a3⟩:=Br hl hp
    exact GW.gh a1 (PM (jK hm hcl c _ hr ho) a2 h fun e t x y z=>hQ e t x (a3.trans y) z)
   ·cases h
  ·cases h
 | .exit id,p,_,_=>fun s B K r hl h Q hQ=>GW.exit (hQ _ s hl (bA.refl s) h)
 | .ret,p,_,_=>fun s B K r hl h Q hQ=>GW.ret (hQ _ s hl (bA.refl s) h)
 | .rangeFunc g ps a b,p,hr,ho=>fun s B K r hl h Q hQ=>by
  simp only[gg] at h
  split at h
  ·rename_i key hd hh
   have h1:=hr.1
   rw[hh] at h1
   obtain⟨e1,e2,e3,e4⟩:=h1
   subst e2;subst e3;subst e4
   exact hcl.rf cx (ho.resolve_left fun h=>by cases h) key hd g e1 s B K r hl h Q hQ
  ·cases h
 | .scope _,p,_,_=>fun s B K r hl h Q hQ=>by simp[gg] at h
 | .label _,p,_,_=>fun s B K r hl h Q hQ=>by simp[gg] at h
 | .goto _,p,_,_=>fun s B K r hl h Q hQ=>by simp[gg] at h
 | .refuse _,p,_,_=>fun s B K r hl h Q hQ=>by simp[gg] at h
end
end Go.DN
/-
 DN,part Sb:a lent slice under a number of the call's own.
-/
namespace Go.DN
open Go.AM
mutual
theorem ND {h h':Nat}:∀g:G,g.bO h=false→ob h h' g=g
 | .loc x off,e=>by
  show G.loc (mv h h' x) off=_
  rw[iU fun e'=>by subst e';simp[G.bO,aQ] at e]
 | .aK x sz off n,e=>by
  show G.aK (mv h h' x) sz off n=_
  rw[iU fun e'=>by subst e';simp[G.bO,aQ] at e]
 | .cA x,e=>by
  show G.cA (mv h h' x)=_
  rw[iU fun e'=>by subst e';simp[G.bO,aQ] at e]
 | .eV x,e=>by
  show G.eV (mv h h' x)=_
  rw[iU fun e'=>by subst e';simp[G.bO,aQ] at e]
 | .ks x i sz n,e=>by
  show G.ks (mv h h' x) i sz n=_
  rw[iU fun e'=>by subst e';simp[G.bO,aQ] at e]
 | .kp x i off,e=>by
  show G.kp (mv h h' x) i off=_
  rw[iU fun e'=>by subst e';simp[G.bO,aQ] at e]
 | .agg gs,e=>congrArg G.agg (Aq gs e)
 | .aU gs,e=>congrArg G.aU (Aq gs e)
 | .aP f gs,e=>congrArg (G.aP f) (Aq gs e)
 | .any,_=>rfl
 | .val _,_=>rfl
 | .cH _,_=>rfl
 | .sl _ _,_=>rfl
 | .ptr _,_=>rfl
 | .fr _,_=>rfl
theorem Aq {h h':Nat}:∀gs:List G,G.bO.go h gs=false→ob.go h h' gs=gs
 | [],_=>rfl
 | x::r,e=>by
  simp only[G.bO.go,bc] at e
  simp only[ob.go,ND x e.1,Aq r e.2]
end
section
variable {S:dx}
def zu (h h':Nat):TV S→TV S
 | .loc x o=>.loc (mv h h' x) o
 | .gY x τ i j=>.gY (mv h h' x) τ i j
 | .aK x τ=>.aK (mv h h' x) τ
 | .sub x τ o n=>.sub (mv h h' x) τ o n
 | .cA x=>.cA (mv h h' x)
 | .mp x=>.mp (mv h h' x)
 | .ks x τ i n=>.ks (mv h h' x) τ i n
 | .kp x τ i j=>.kp (mv h h' x) τ i j
 | .fX b x τ i j=>.fX b (mv h h' x) τ i j
 | .bT b x o=>.bT b (mv h h' x) o
 | .agg l=>.agg (go l)
 | .aU l=>.aU (go l)
 | .aP f l=>.aP f (go l)
 | v=>v
where go:List (TV S)→List (TV S)
 | []=>[]
 | x::r=>zu h h' x::go r
mutual
theorem NC {h h':Nat}{ln ln':Nat→Nat}(hln:∀x,x≠h'→ln' (mv h h' x)=ln x):∀v:TV S,v.has h'=false→(zu h h' v).er ln'=ob h h' (v.er ln)
 | .ab f τ a,_=>(ND _ (IK h f τ a)).symm
 | .ptr f τ a,_=>by cases f <;> rfl
 | .loc _ _,_=>rfl
 | .gY _ _ _ _,_=>rfl
 | .aK x τ,e=>by
  show G.aK _ _ _ (ln' (mv h h' x))=G.aK _ _ _ (ln x)
  rw[hln x fun e'=>by subst e';simp[TV.has,aQ] at e]
 | .sub _ _ _ _,_=>rfl
 | .cA _,_=>rfl
 | .mp _,_=>rfl
 | .ks _ _ _ _,_=>rfl
 | .kp _ _ _ _,_=>rfl
 | .fX b _ _ _ _,_=>by cases b <;> rfl
 | .bT b _ _,_=>by cases b <;> rfl
 | .val _,_=>rfl
 | .any,_=>rfl
 | .agg l,e=>congrArg G.agg (sv hln l e)
 | .aU l,e=>congrArg G.aU (sv hln l e)
 | .aP f l,e=>congrArg (G.aP f) (sv hln l e)
theorem sv {h h':Nat}{ln ln':Nat→Nat}(hln:∀x,x≠h'→ln' (mv h h' x)=ln x):∀l:List (TV S),TV.has.go h' l=false→TV.er.go ln' (zu.go h h' l)=ob.go h h' (TV.er.go ln l)
 | [],_=>rfl
 | x::r,e=>by
  simp only[TV.has.go,bc] at e
  simp only[zu.go,TV.er.go,ob.go,NC hln x e.1,sv hln r e.2]
end
def TR (h h':Nat):TO S→TO S
 | .box e m cs=>.box e m (zu.go h h' cs)
 | .lp l n cs=>.lp l n (zu.go h h' cs)
 | o=>o
def NE (h h':Nat):List (Nat×TV S)→List (Nat×TV S)
 | []=>[]
 | (t,v)::r=>(t,zu h h' v)::NE h h' r
def Fg (h h':Nat):List (Nat×TO S)→List (Nat×TO S)
 | []=>[]
 | (k,o)::r=>(mv h h' k,TR h h' o)::Fg h h' r
def aj.move (s:aj S) (h h':Nat):aj S:={fr:=NE h h' s.bV,lo:=[],st:=Fg h h' s.bj,bM:=[],df:=zu.go h h' s.df,nx:=s.nx,last:=[]}
theorem TQ {h h' x y:Nat}(hx:x≠h') (hy:y≠h'):Nat.beq (mv h h' x) (mv h h' y)=Nat.beq x y:=by
 cases hb:Nat.beq x y with
 | true=>have:=af hb;subst this;exact aQ _
 | false=>
  cases hc:Nat.beq (mv h h' x) (mv h h' y) with
  | false=>rfl
  | true=>
   have e:=af hc
   have hne:x≠y:=fun e=>by subst e;rw[aQ] at hb;cases hb
   by_cases h1:x=h
   ·subst h1
    by_cases h2:y=x
    ·exact absurd h2.symm hne
    ·rw[uq,iU h2] at e;exact absurd e.symm hy
   ·by_cases h2:y=h
    ·subst h2;rw[uq,iU h1] at e;exact absurd e hx
    ·rw[iU h1,iU h2] at e;exact absurd e hne
theorem HM {h h':Nat}:∀{st:List (Nat×TO S)}{x:Nat},aF st h'=none→x≠h'→aF (Fg h h' st) (mv h h' x)=(aF st x).map (TR h h')
 | [],_,_,_=>rfl
 | (k,o)::r,x,hn,hx=>by
  simp only[aF] at hn
  cases hb:Nat.beq k h' with
  | true=>rw[hb] at hn;cases hn
  | false=>
   rw[hb] at hn
   have hk:k≠h':=fun e=>by subst e;rw[aQ] at hb;cases hb
   simp only[Fg,aF,TQ hk hx]
   cases Nat.beq k x with
   | true=>rfl
   | false=>exact HM hn hx
theorem Sj (h h':Nat) (o:TO S):(TR h h' o).len=o.len:=by cases o <;> rfl
theorem JV {s:aj S}{h h':Nat}(hf:s.free h'=true):(s.move h h').er={fr:=xR h h' s.er.fr,st:=tE h h' s.er.st,df:=ob.go h h' s.er.df}:=by
 obtain⟨f1,f2,f3,f4,_⟩:=free_spec hf
 have hln:∀x,x≠h'→(s.move h h').ln (mv h h' x)=s.ln x:=by
  intro x hx
  show bI (Fg h h' s.bj++[]) (mv h h' x)=bI s.bj x
  rw[bL]
  unfold bI
  rw[HM f1 hx]
  cases aF s.bj x with
  | none=>rfl
  | some o=>exact Sj h h' o
 have e1:∀fr:List (Nat×TV S),gV h' fr=false→gX (s.move h h').ln (NE h h' fr)=xR h h' (gX s.ln fr):=by
  intro fr
  induction fr with
  | nil=>intro _;rfl
  | cons x r ih=>
   obtain⟨t,v⟩:=x
   intro e
   simp only[gV,bc] at e
   simp only[NE,gX,xR,ih e.2,NC hln v e.1]
 have e2:∀st:List (Nat×TO S),dr h' st=false→bG (s.move h h').ln (Fg h h' st)=tE h h' (bG s.ln st):=by
  intro st
  induction st with
  | nil=>intro _;rfl
  | cons x r ih=>
   obtain⟨t,o⟩:=x
   intro e
   simp only[dr,bc] at e
   simp only[Fg,bG,tE,ih e.2]
   congr 2
   cases o with
   | arr e m f τ l=>rfl
   | deep e m f dk τ a=>rfl
   | box e' m cs=>
    show ao.mk _ _ _ _ _ (TV.er.go _ (zu.go h h' cs)) _=ao.mk _ _ _ _ _ (ob.go h h' (TV.er.go s.ln cs)) _
    rw[sv hln cs e.1];rfl
   | lp l n cs=>
    show ao.mk _ _ _ _ _ (TV.er.go _ (zu.go h h' cs)) _=ao.mk _ _ _ _ _ (ob.go h h' (TV.er.go s.ln cs)) _
    rw[sv hln cs e.1];rfl
 show St.mk (gX _ (NE h h' s.bV++[])) (bG _ (Fg h h' s.bj++[])) (TV.er.go _ (zu.go h h' s.df))=_
 rw[bL,bL,e1 _ f2,e2 _ f3,sv hln s.df f4]
 rfl
def Au:List Nat→aj S→Option (aj S)
 | [],s=>some s
 | r::rs,s=>match s.free (r-520)&&!(Nat.beq (r-520) r) with
  | true=>Au rs (s.move r (r-520))
  | false=>none
theorem xS {P:Program}{N:Nat}{cx:Cx}{c:Code}{Q:Exit→St→Prop}:∀{l:List Nat}{s t:aj S},aO s→Au l s=some t→(aO t→GW P N cx c Q t.er)→GW P N cx c Q s.er
 | [],s,t,hl,h,hk=>by cases h;exact hk hl
 | r::rs,s,t,hl,h,hk=>by
  simp only[Au] at h
  split at h
  ·rename_i hc
   simp only[ag,a7] at hc
   refine GW.move r (r-520) (jX hc.1) hc.2 ?_
   rw[←JV hc.1]
   exact xS (gQ rfl) h hk
  ·cases h
end
end Go.DN
/-
 DN,part T:functions:what they hand back;contracts;calls that lend nothing.
-/
namespace Go.DN
open Go.AM
section
variable {S:dx}
def isNil {α:Type}:List α→Bool
 | []=>true
 | _=>false
def Gj (P:Program) (t:aj S):ResultVar→Option (TV S)
 | .tmp d=>bp t.bV d
 | .cell c ty=>match bp t.bV c with
  | some (.loc h 0)=>match aF t.bj h with
   | some (.box _ _ vs)=>match EU P ty with
    | some true=>match decEq (nY P ty) (some vs.length) with
     | isTrue _=>some (.agg vs)
     | isFalse _=>none
    | some false=>match vs with
     | [v]=>some v
     | _=>none
    | none=>none
   | _=>none
  | _=>none
def TG (D DO:List Nat) (t:aj S):ResultVar→Bool
 | .tmp d=>!(bz d D)
 | .cell c _=>!(bz c D)&&match bp t.bV c with
  | some (.loc h _)=>!(bz h DO)
  | _=>false
def Re (P:Program) (t:aj S):List ResultVar→List (Nat×Sh)→List Nat
 | rv::r,(_,sh)::l=>(match Gj P t rv with | some v=>Lj sh v | none=>[])++Re P t r l
 | _,_=>[]
def Gl (P:Program) (D DO:List Nat) (t:aj S):List ResultVar→List (Nat×Sh)→Option (List (bi S.α))
 | [],[]=>some []
 | rv::r,(_,sh)::l=>match TG D DO t rv with
  | true=>match Gj P t rv with
   | some v=>match lz sh v with
    | some xs=>match Gl P D DO t r l with
     | some ys=>some (xs++ys)
     | none=>none
    | none=>none
   | none=>none
  | false=>none
 | _,_=>none
def SR:Sh→List Sh
 | .agg l=>l
 | x=>[x]
def uv (aJ:List (Nat×Oh)):List ResultVar→List (Nat×Sh)→aj S→Option (aj S)
 | .cell c _::r,(_,sh)::l,s=>match bp s.bV c with
  | some (.loc h 0)=>match pg aJ h 0 (SR sh) s with
   | some s'=>uv aJ r l s'
   | none=>none
  | _=>uv aJ r l s
 | .tmp _::r,_::l,s=>uv aJ r l s
 | _,_,s=>some s
theorem ub {aJ:List (Nat×Oh)}:∀{rvs:List ResultVar}{l:List (Nat×Sh)}{s t:aj S},aO s→uv aJ rvs l s=some t→Gh s.er t.er∧aO t∧bA s t
 | .cell c _::r,(_,sh)::l,s,t,hl,h=>by
  simp only[uv] at h
  split at h
  ·split at h
   ·rename_i s' hs
    obtain⟨a1,a2,a3⟩:=ec hl hs
    obtain⟨b1,b2,b3⟩:=ub (rvs:=r) a2 h
    exact⟨a1.trans b1,b2,a3.trans b3⟩
   ·cases h
  ·exact ub (rvs:=r) hl h
 | .tmp _::r,_::l,s,t,hl,h=>ub (rvs:=r) (l:=l) hl h
 | [],_,s,t,hl,h=>by cases h;exact⟨Gh.refl _,hl,bA.refl s⟩
 | .cell _ _::_,[],s,t,hl,h=>by cases h;exact⟨Gh.refl _,hl,bA.refl s⟩
 | .tmp _::_,[],s,t,hl,h=>by cases h;exact⟨Gh.refl _,hl,bA.refl s⟩
def I3 (rvs:List ResultVar) (al:List (Nat×Sh)) (aJ:List (Nat×Oh)) (s:aj S):Option (aj S):=match uv aJ rvs al s with
 | some s'=>DU al aJ s'
 | none=>none
theorem OS {rvs:List ResultVar}{al:List (Nat×Sh)}{aJ:List (Nat×Oh)}{s t:aj S}(hl:aO s) (h:I3 rvs al aJ s=some t):Gh s.er t.er∧aO t∧bA s t:=by
 unfold I3 at h
 split at h
 ·rename_i s' hs
  obtain⟨a1,a2,a3⟩:=ub hl hs
  obtain⟨b1,b2,b3⟩:=FW a2 h
  exact⟨a1.trans b1,b2,a3.trans b3⟩
 ·cases h
def yq (P:Program) (t:aj S) (rvs:List ResultVar) (al:List (Nat×Sh)) (outs:List (Nat×Oh)):Option (aU S.α (JH.cn ⟨al,outs⟩)):=
 match I3 rvs al outs t with
 | some t1=>match ri (Re P t1 rvs al++CT t1.bj outs) t1 with
  | some t2=>match isNil t2.df&&within (oB al++qn outs) (aG outs) with
   | true=>match Gl P (sH (aG outs) t2.bV) (aG outs++sG (aG outs) t2.bj) t2 rvs al with
    | some xs=>match xC t2.bj outs with
     | some ys=>n6 (JH.cn ⟨al,outs⟩) (xs++ys)
     | none=>none
    | none=>none
   | false=>none
  | none=>none
 | none=>none
theorem wb.rw {P:Program}{s:St}{rv:ResultVar}{g g':G}(h:wb P s rv g) (hw:RW g g'):wb P s rv g':=fun N cx μ a w hr=>by
 obtain⟨v,h1,h2⟩:=h N cx μ a w hr
 exact⟨v,hw _ _ _ _ _ h1,h2⟩
theorem Eo {ks:List Nat}:∀{fr:List (Nat×TV S)}{d:Nat}{v:TV S},bp fr d=some v→bz d (sH ks fr)=false→v.bad ks=false
 | [],_,_,h,_=>by cases h
 | (t,w)::r,d,v,h,hm=>by
  simp only[bp] at h
  simp only[sH] at hm
  cases hb:Nat.beq t d with
  | true=>
   rw[hb] at h;cases h
   have e:=af hb
   subst e
   cases hv:w.bad ks with
   | false=>rfl
   | true=>rw[hv] at hm;rw[bQ.2 au] at hm;cases hm
  | false=>
   rw[hb] at h
   refine Eo h ?_
   cases hw:w.bad ks with
   | false=>rw[hw] at hm;exact hm
   | true=>
    rw[hw] at hm
    cases hx:bz d (sH ks r) with
    | false=>rfl
    | true=>rw[bQ.2 (ap _ (bQ.1 hx))] at hm;cases hm
theorem En {ks:List Nat}:∀{st:List (Nat×TO S)}{d:Nat}{o:TO S},aF st d=some o→bz d (sG ks st)=false→o.bad ks=false
 | [],_,_,h,_=>by cases h
 | (t,w)::r,d,v,h,hm=>by
  simp only[aF] at h
  simp only[sG] at hm
  cases hb:Nat.beq t d with
  | true=>
   rw[hb] at h;cases h
   have e:=af hb
   subst e
   cases hv:w.bad ks with
   | false=>rfl
   | true=>rw[hv] at hm;rw[bQ.2 au] at hm;cases hm
  | false=>
   rw[hb] at h
   refine En h ?_
   cases hw:w.bad ks with
   | false=>rw[hw] at hm;exact hm
   | true=>
    rw[hw] at hm
    cases hx:bz d (sG ks r) with
    | false=>rfl
    | true=>rw[bQ.2 (ap _ (bQ.1 hx))] at hm;cases hm
theorem HQ {x:Nat}{a b:List Nat}(h:bz x (a++b)=false):bz x a=false∧bz x b=false:=by
 constructor
 ·cases h1:bz x a with
  | false=>rfl
  | true=>rw[bQ.2 (cE _ (bQ.1 h1))] at h;cases h
 ·cases h1:bz x b with
  | false=>rfl
  | true=>rw[bQ.2 (cQ _ (bQ.1 h1))] at h;cases h
theorem HD {P:Program}{D DO:List Nat}{t u:aj S}(hu:∀d v,bz d D=false→bp t.bV d=some v→AM.get u.er.fr d=some (v.er t.ln)) (ho:∀h e m cs,bz h DO=false→aF t.bj h=some (.box e m cs)→az u.er.st h=some ((TO.box e m cs).er t.ln)):
  ∀{rvs:List ResultVar}{al:List (Nat×Sh)}{xs:List (bi S.α)},Gl P D DO t rvs al=some xs→∀(r:List (bi S.α)),(bR al (xs++r)).2=r∧vb P u.er rvs (((bR al (xs++r)).1.map (·.2)).map (TV.er t.ln))
 | [],[],xs,h,r=>by cases h;exact⟨rfl,trivial⟩
 | rv::rvs,(d,sh)::l,xs,h,r=>by
  simp only[Gl] at h
  split at h
  ·rename_i hok
   split at h
   ·rename_i v hv
    split at h
    ·rename_i xs1 hx
     split at h
     ·rename_i ys hy
      cases h
      obtain⟨i1,i2⟩:=HD hu ho hy r
      obtain⟨p1,p2⟩:=Bt t.ln hx (ys++r)
      rw[aA]
      simp only[bR]
      rw[p1]
      refine⟨i1,wb.rw ?_ p2,i2⟩
      cases rv with
      | tmp d'=>
       simp only[TG,a7] at hok
       exact wb.tmp (hu d' v hok hv)
      | cell c ty=>
       simp only[TG,ag,a7] at hok
       simp only[Gj] at hv
       split at hv
       ·rename_i h' hc
        rw[hc] at hok
        have hc':AM.get u.er.fr c=some (.loc h' 0):=hu c _ hok.1 hc
        split at hv
        ·rename_i e m vs hb
         have hb':=ho h' e m vs (by simpa using hok.2) hb
         split at hv
         ·rename_i ha
          split at hv
          ·rename_i hs _
           cases hv
           have hl:(TV.er.go t.ln vs).length=vs.length:=by rw[da,aN]
           have:=wb.SS (P:=P) (t:=ty) hc' hb' rfl (ff ha) (cU hs) (by show 0+vs.length≤(TV.er.go t.ln vs).length;omega)
           have e3:(((TO.box e m vs:TO S).er t.ln).cells.drop 0).take vs.length=TV.er.go t.ln vs:=by
            show((TV.er.go t.ln vs).drop 0).take vs.length=_
            rw[iN,di (by omega)]
           rw[e3] at this
           exact this
          ·cases hv
         ·rename_i ha
          split at hv
          ·cases hv
           exact wb.cell (P:=P) (t:=ty) hc' hb' rfl (ff ha) (by cases hq:v.er t.ln <;> simp[ao.out,TO.er,hq])
          ·cases hv
         ·cases hv
        ·cases hv
       ·cases hv
     ·cases h
    ·cases h
   ·cases h
  ·cases h
 | [],_::_,_,h,_=>by cases h
 | _::_,[],_,h,_=>by cases h
theorem A4 (ks:List Nat):∀(l:List (Nat×Sh)) (ls:List (bi S.α)),(∀k,k∈oB l→k∈ks)→∀d v,(d,v)∈(bR l ls).1→v.bad ks=false
 | [],ls,_,d,v,h=>by cases h
 | (d0,sh)::r,ls,hk,d,v,h=>by
  simp only[bR] at h
  rcases bf.1 h with e | h
  ·cases e;exact ym ks sh ls fun k hk'=>hk k (cE _ hk')
  ·exact A4 ks r _ (fun k hk'=>hk k (cQ _ hk')) d v h
theorem EI {P:Program}{t:aj S}{rvs:List ResultVar}{al:List (Nat×Sh)}{outs:List (Nat×Oh)}{q:aU S.α (JH.cn ⟨al,outs⟩)}(hl:aO t) (h:yq P t rvs al outs=some q):
  ∃u:aj S,Gh t.er u.er∧u.er.df=[]∧vb P u.er rvs (((bR al (leaves _ q)).1.map (·.2)).map (TV.er (bI (bK outs (bR al (leaves _ q)).2).1)))∧
   ∃O',u.bj=(bK outs (bR al (leaves _ q)).2).1++O'∧(∀k,k∈aG outs→u.ln k=bI (bK outs (bR al (leaves _ q)).2).1 k)∧∀k,k∈qn outs→k∈aG outs:=by
 unfold yq at h
 split at h
 ·rename_i t1 hp1
  obtain⟨a1,a2,a3⟩:=OS hl hp1
  split at h
  ·rename_i t2 hp2
   obtain⟨b1,b2,b3⟩:=nn a2 hp2
   split at h
   ·rename_i hc
    simp only[ag] at hc
    obtain⟨c1,c2⟩:=hc
    have c2:=nS c2
    split at h
    ·rename_i xs hx
     split at h
     ·rename_i ys hy
      have hq:=gf h
      have hdf:t2.df=[]:=by
       cases hd:t2.df with
       | nil=>rfl
       | cons x r=>rw[hd] at c1;cases c1
      let O':=bS (aG outs++sG (aG outs) t2.bj) t2.bj
      let F':=bS (sH (aG outs) t2.bV) t2.bV
      let u:aj S:={fr:=F',lo:=[],st:=(bK outs ys).1++O',bM:=[],df:=[],nx:=0,last:=[]}
      have eu:u.bj=(bK outs ys).1++O':=bL _
      have ef:u.bV=F':=bL _
      have hks:∀k,k∈aG outs→t2.ln k=u.ln k∧u.ln k=bI (bK outs ys).1 k:=by
       intro k hk
       obtain⟨o,o',e1,e2,e3⟩:=zo hy k hk
       have e4:u.ln k=bI (bK outs ys).1 k:=by
        show bI u.bj k=_
        rw[eu];unfold bI;rw[dV,e1]
       refine⟨?_,e4⟩
       rw[e4]
       show bI t2.bj k=_
       unfold bI;rw[e1,e2];exact e3.symm
      have hg:Gh t2.er u.er:=told (al:=[]) (xs:=[]) (ks:=aG outs) (O':=O') (F':=F') rfl hy ef eu
       (fun d v hv=>by
        have hv:bp (bS (sH (aG outs) t2.bV) t2.bV) d=some v:=hv
        rw[kU] at hv
        split at hv
        ·cases hv
        ·rename_i hm;exact⟨hv,Eo hv hm⟩)
       (fun d o ho=>by
        have ho:aF (bS (aG outs++sG (aG outs) t2.bj) t2.bj) d=some o:=ho
        rw[jV] at ho
        split at ho
        ·cases ho
        ·rename_i hm;exact⟨ho,En ho (HQ hm).2⟩)
       (fun k hk=>(hks k hk).1) (fun k hk=>by cases hk) (fun k hk=>c2 k (cQ _ hk)) hdf.symm (by rw[hdf];rfl)
      obtain⟨r1,r2⟩:=HD (P:=P) (u:=u) (t:=t2) (fun d v hm hv=>by
        have e:bp u.bV d=some v:=by rw[ef];show bp (bS _ t2.bV) d=_;rw[kU,hm];exact hv
        rw[show AM.get u.er.fr d=_ from fG e]
        rw[lM (fun k hk=>(hks k hk).1) v (Eo hv hm)])
       (fun k e m cs hm ho=>by
        obtain⟨m1,m2⟩:=HQ hm
        have hout:aF (bK outs ys).1 k=none:=by
         cases hh:aF (bK outs ys).1 k with
         | none=>rfl
         | some o=>
          have:k∈aG (bK outs ys).1:=s6 hh
          rw[jY] at this
          rw[bQ.2 this] at m1;cases m1
        have e2:aF u.bj k=some (.box e m cs):=by
         rw[eu,dV,hout]
         show aF (bS _ t2.bj) k=_
         rw[jV,hm];exact ho
        rw[show az u.er.st k=_ from kL e2]
        exact congrArg some (TO.lM (fun k hk=>(hks k hk).1) _ (En ho m2)).symm) hx ys
      refine⟨u,a1.trans (b1.trans hg),rfl,?_,O',?_,?_⟩
      ·rw[hq,r1]
       have:∀(l:List (Nat×TV S)),(∀d v,(d,v)∈l→v.bad (aG outs)=false)→(l.map (·.2)).map (TV.er (bI (bK outs ys).1))=(l.map (·.2)).map (TV.er t2.ln):=by
        intro l hl
        induction l with
        | nil=>rfl
        | cons x r ih=>
         simp only[aB]
         rw[ih fun d v hm=>hl d v (ap _ hm),lM (fun k hk=>((hks k hk).1.trans (hks k hk).2).symm) x.2 (hl x.1 x.2 au)]
       rw[this _ (A4 (aG outs) al _ fun k hk=>c2 k (cE _ hk))]
       exact r2
      ·rw[hq,r1];exact eu
      ·rw[hq,r1];exact⟨fun k hk=>(hks k hk).2,fun k hk=>c2 k (cQ _ hk)⟩
     ·cases h
    ·cases h
   ·cases h
  ·cases h
 ·cases h
def na {α:Type}:List α→Nat→List (Nat×α)
 | [],_=>[]
 | x::r,j=>(j,x)::na r (j+1)
def cM (args:List Sh) (aJ:List Oh) (ls:List (bi S.α)):aj S:={fr:=na (cw args ls).1 0,lo:=[],st:=(bK (na aJ 1000) (cw args ls).2).1,bM:=[],df:=[],nx:=300,last:=[]}
def ic (args:List Sh) (aJ:List Oh):List Ty:=xw args++CP (na aJ 1000)
theorem yj (ln:Nat→Nat):∀(args:List (TV S)) (j:Nat),gX ln (na args j)=kF (TV.er.go ln args) j
 | [],_=>rfl
 | x::r,j=>by simp only[na,gX,TV.er.go,kF,yj ln r (j+1)]
def mo (al:List (Nat×Sh)) (ls:List (bi S.α)):TV S:=match (bR al ls).1 with
 | [(_,v)]=>v
 | l=>.aU (l.map (·.2))
def sf (P:Program):List ResultVar→List (Nat×Sh)→aj S→aj S
 | rv::r,(_,.own h _)::l,s=>match Gj P s rv with
  | some (.aK h' _)=>match Nat.beq h h' with
   | true=>sf P r l s
   | false=>match (sN s h).free h with
    | true=>sf P r l ((sN s h).move h' h)
    | false=>sf P r l s
  | _=>sf P r l s
 | _::r,_::l,s=>sf P r l s
 | _,_,s=>s
def Gw (s t:St):Prop:=∀(N:Nat) (cx:Cx) (μ:Mu) (a:Act) (w:World),Rel N cx μ s a w→∃μ',Rel N cx μ' t a w
theorem Gh.w {s t:St}(h:Gh s t):Gw s t:=fun N cx μ a w hr=>let ⟨μ',h1,_⟩:=h N cx μ a w hr;⟨μ',h1⟩
theorem Gw.trans {a b c:St}(h:Gw a b) (h':Gw b c):Gw a c:=fun N cx μ ac w hr=>let ⟨μ1,h1⟩:=h N cx μ ac w hr;h' N cx μ1 ac w h1
theorem fW {P:Program}:∀{rvs:List ResultVar}{l:List (Nat×Sh)}{s:aj S},aO s→Gw s.er (sf P rvs l s).er∧aO (sf P rvs l s)
 | rv::r,(_,.own h _)::l,s,hl=>by
  simp only[sf]
  split
  ·rename_i h' _ _
   cases hb:Nat.beq h h' with
   | true=>exact fW hl
   | false=>
    dsimp only
    split
    ·rename_i hf
     obtain⟨a1,a2,_⟩:=Iu h hl
     obtain⟨b1,b2⟩:=fW (P:=P) (rvs:=r) (l:=l) (s:=(sN s h).move h' h) (gQ rfl)
     refine⟨a1.w.trans (Gw.trans (fun N cx μ a w hr=>?_) b1),b2⟩
     rw[JV hf]
     exact⟨_,hr.move h' h (jX hf) hb⟩
    ·exact fW hl
  ·exact fW hl
 | [],_,s,hl=>by simp only[sf];exact⟨(Gh.refl _).w,hl⟩
 | _::_,[],s,hl=>by simp only[sf];exact⟨(Gh.refl _).w,hl⟩
 | _::r,(_,.ab _ _)::l,s,hl=>fW (rvs:=r) (l:=l) hl
 | _::r,(_,.ptr _ _)::l,s,hl=>fW (rvs:=r) (l:=l) hl
 | _::r,(_,.loc _ _)::l,s,hl=>fW (rvs:=r) (l:=l) hl
 | _::r,(_,.aP _ _)::l,s,hl=>fW (rvs:=r) (l:=l) hl
 | _::r,(_,.agg _)::l,s,hl=>fW (rvs:=r) (l:=l) hl
 | _::r,(_,.cA _)::l,s,hl=>fW (rvs:=r) (l:=l) hl
 | _::r,(_,.bT _ _)::l,s,hl=>fW (rvs:=r) (l:=l) hl
 | _::r,(_,.mp _)::l,s,hl=>fW (rvs:=r) (l:=l) hl
 | _::r,(_,.fX _ _)::l,s,hl=>fW (rvs:=r) (l:=l) hl
 | _::r,(_,.ks _ _)::l,s,hl=>fW (rvs:=r) (l:=l) hl
 | _::r,(_,.any)::l,s,hl=>fW (rvs:=r) (l:=l) hl
 | _::r,(_,.nr)::l,s,hl=>fW (rvs:=r) (l:=l) hl
 | _::r,(_,.sub _ _)::l,s,hl=>fW (rvs:=r) (l:=l) hl
theorem GW.R3 {P:Program}{N:Nat}{cx:Cx}{c:Code}{Q Q':Exit→St→Prop}{s:St}(h:GW P N cx c Q' s) (hq:∀e s,Q' e s→∃t,Gw s t∧Q e t):GW P N cx c Q s:=fun μ a w hr=>
 wpIn_mono (h μ a w hr) fun e a' w' hl=>by
  cases e with
  | outgrown=>exact hl.elim
  | _=>
   obtain⟨μ',s',hr',h4⟩:=hl
   obtain⟨t,h5,h6⟩:=hq _ _ h4
   obtain⟨μ2,h7⟩:=h5 N cx μ' a' w' hr'
   exact⟨μ2,t,h7,h6⟩
noncomputable def EL (P:Program) (N fu:Nat) (H:List (Nat×Hint)) (cl:Cl S) (c:Code) (mvs:List Nat) (rvs:List ResultVar) (args:List Sh) (aJ:List Oh) (al:List (Nat×Sh)) (outs:List (Nat×Oh)) (q:aU S.α (ic args aJ)):Option (aU S.α (JH.cn ⟨al,outs⟩)):=
 match Au mvs (cM args aJ (leaves _ q)) with
 | some s=>gg P N fu H cl c 0 s _ fun e t=>match e with
  | .ret=>yq P (sf P rvs al t) rvs al outs
  | .normal=>yq P (sf P rvs al t) rvs al outs
  | _=>none
 | none=>none
theorem Kk (st st':List (Nat×ao)) (f:Bool){τ:Ty}(h:τ.fU=false) (a:S.D τ):iI st st' (dc f (du S τ a))=some (dc f (du S τ a)):=by
 cases τ with
 | st n=>cases h
 | _=>cases f <;> rfl
theorem Ua (st st':List (Nat×ao)) (f:Bool) (τ:Ty) (a:S.D τ):iI st st' (nZ f τ a)=some (nZ f τ a):=by
 cases τ with
 | st n=>
  show(iI.go st st' ((aW S (.st n) a).map (dc f))).map G.agg=_
  have:iI.go st st' ((aW S (.st n) a).map (dc f))=some ((aW S (.st n) a).map (dc f)):=by
   rw[gJ]
   have h:=la n a
   generalize S.cells n a=l at h
   induction l with
   | nil=>rfl
   | cons x r ih=>
    simp only[aB,iI.go]
    rw[Kk st st' f (h x au) x.a,ih fun y hy=>h y (ap _ hy)]
  rw[this];rfl
 | _=>exact Kk st st' f rfl a
theorem xr {ln:Nat→Nat}{st:List (Nat×ao)}:∀{l:List (Nat×TO S)},(∀j o,(j,o)∈l→az st j=some (o.er ln))→j9 st (bG ln l)
 | [],_=>trivial
 | (j,o)::r,h=>⟨h j o au,xr fun j o hm=>h j o (ap _ hm)⟩
def TV.still (ks:List Nat):TV S→Bool
 | .ab _ _ _=>true
 | .ptr _ _ _=>true
 | .loc h _=>bz h ks
 | .aK h _=>bz h ks
 | .sub h _ _ _=>bz h ks
 | .agg l=>go ks l
 | .aU l=>go ks l
 | .aP _ l=>go ks l
 | .val (.slice none 0 0)=>false
 | .val _=>true
 | .any=>true
 | .fX _ h _ _ _=>bz h ks
 | .bT _ h _=>bz h ks
 | .ks h _ _ _=>bz h ks
 | .mp h=>bz h ks
 | _=>false
where go (ks:List Nat):List (TV S)→Bool
 | []=>true
 | x::r=>x.still ks&&go ks r
theorem vz {ln:Nat→Nat}{l:List (Nat×TO S)}{h:Nat}(hk:h∈aG l):∃k,az (bG ln l) h=some k:=by
 obtain⟨o,ho⟩:=oE hk
 exact⟨_,kL ho⟩
mutual
theorem Bh {ln lo:Nat→Nat}{st:List (Nat×ao)}{l:List (Nat×TO S)}:∀v:TV S,v.still (aG l)=true→iI st (bG lo l) (v.er ln)=some (v.er ln)
 | .ab f τ a,_=>Ua st _ f τ a
 | .ptr f τ a,_=>by cases f <;> rfl
 | .loc h o,e=>by
  obtain⟨k,hk⟩:=vz (ln:=lo) (bQ.1 e)
  simp only[TV.er,iI,hk]
 | .aK h τ,e=>by
  obtain⟨k,hk⟩:=vz (ln:=lo) (bQ.1 e)
  simp only[TV.er,iI,hk]
 | .agg vs,e=>by
  show(iI.go st (bG lo l) (TV.er.go ln vs)).map G.agg=_
  rw[vu vs e];rfl
 | .aU vs,e=>by
  show(iI.go st (bG lo l) (TV.er.go ln vs)).map G.aU=_
  rw[vu vs e];rfl
 | .aP f vs,e=>by
  show(iI.go st (bG lo l) (TV.er.go ln vs)).map (G.aP f)=_
  rw[vu vs e];rfl
 | .val u,e=>by
  have key:Ao u=.val u:=by
   unfold TV.still at e
   unfold Ao
   split
   ·cases e
   ·rfl
  show some (Ao u)=some (.val u)
  rw[key]
 | .any,_=>rfl
 | .sub h τ o n,e=>by
  obtain⟨k,hk⟩:=vz (ln:=lo) (bQ.1 e)
  simp only[TV.er,iI,hk]
 | .gY _ _ _ _,e=>by cases e
 | .cA _,e=>by cases e
 | .mp _,_=>rfl
 | .ks _ _ _ _,_=>rfl
 | .kp _ _ _ _,e=>by cases e
 | .fX b _ _ _ _,e=>by cases b <;> rfl
 | .bT b h o,e=>by
  cases b with
  | true=>rfl
  | false=>
   obtain⟨k,hk⟩:=vz (ln:=lo) (bQ.1 e)
   show iI st (bG lo l) (.loc h o)=_
   simp only[iI,hk]
   rfl
theorem vu {ln lo:Nat→Nat}{st:List (Nat×ao)}{l:List (Nat×TO S)}:∀vs:List (TV S),TV.still.go (aG l) vs=true→iI.go st (bG lo l) (TV.er.go ln vs)=some (TV.er.go ln vs)
 | [],_=>rfl
 | x::r,e=>by
  simp only[TV.still.go,ag] at e
  simp only[TV.er.go,iI.go,Bh x e.1,vu r e.2]
end
mutual
def Sh.still (ks:List Nat):Sh→Bool
 | .ab _ _=>true
 | .ptr _ _=>true
 | .own h _=>bz h ks
 | .loc h _=>bz h ks
 | .aP _ l=>wH ks l
 | .agg l=>wH ks l
 | .cA _=>false
 | .mp h=>bz h ks
 | .fX h _=>bz h ks
 | .bT h _=>bz h ks
 | .ks h _=>bz h ks
 | .any=>true
 | .nr=>true
 | .sub h _=>bz h ks
def wH (ks:List Nat):List Sh→Bool
 | []=>true
 | x::r=>x.still ks&&wH ks r
end
def sV (ks:List Nat):List (Nat×Sh)→Bool
 | []=>true
 | (_,x)::r=>x.still ks&&sV ks r
mutual
theorem A2 (ks:List Nat):∀(sh:Sh) (ls:List (bi S.α)),sh.still ks=true→(gW sh ls).1.still ks=true
 | .ab f τ,ls,_=>by cases ls <;> rfl
 | .ptr f τ,ls,_=>by cases ls <;> rfl
 | .own k τ,ls,h=>h
 | .loc _ _,ls,h=>h
 | .aP f l,ls,h=>wv ks l ls h
 | .agg l,ls,h=>wv ks l ls h
 | .cA _,ls,h=>by cases h
 | .mp _,ls,h=>h
 | .ks _ _,ls,h=>by
  simp only[gW]
  split
  ·exact h
  ·rfl
 | .fX _ _,ls,h=>by
  simp only[gW]
  split
  ·exact h
  ·rfl
 | .bT _ _,ls,h=>by
  simp only[gW]
  split
  ·exact h
  ·rfl
 | .any,ls,_=>rfl
 | .nr,ls,_=>by
  simp only[gW]
  split <;> rfl
 | .sub _ _,ls,h=>by
  simp only[gW]
  split
  ·exact h
  ·rfl
theorem wv (ks:List Nat):∀(l:List Sh) (ls:List (bi S.α)),wH ks l=true→TV.still.go ks (cw l ls).1=true
 | [],_,_=>rfl
 | sh::r,ls,h=>by
  simp only[wH,ag] at h
  simp only[cw,TV.still.go,A2 ks sh ls h.1,wv ks r _ h.2,gu]
end
theorem A3 (ks:List Nat):∀(l:List (Nat×Sh)) (ls:List (bi S.α)),sV ks l=true→TV.still.go ks ((bR l ls).1.map (·.2))=true
 | [],_,_=>rfl
 | (d,sh)::r,ls,h=>by
  simp only[sV,ag] at h
  simp only[bR,aB,TV.still.go,A2 ks sh ls h.1,A3 ks r _ h.2,gu]
theorem CH {ks:List Nat}{al:List (Nat×Sh)}(ls:List (bi S.α)) (h:sV ks al=true):(mo al ls).still ks=true:=by
 have:=A3 ks al ls h
 unfold mo
 generalize (bR al ls).1=l at this
 match l with
 | []=>rfl
 | [(_,v)]=>simpa[TV.still.go] using this
 | (_,v)::(_,v')::r=>exact this
def NB:List Nat→Bool
 | []=>true
 | x::r=>!(bz x r)&&NB r
theorem Ap:∀{l:List (Nat×TO S)},NB (aG l)=true→∀j o,(j,o)∈l→aF l j=some o
 | [],_,_,_,h=>by cases h
 | (k,x)::r,hn,j,o,hm=>by
  simp only[aG,NB,ag,a7] at hn
  rcases bf.1 hm with e | hm
  ·cases e;simp only[aF,aQ,cond_true]
  ·have ih:=Ap hn.2 j o hm
   rw[kB _ _ fun e=>?_]
   ·exact ih
   ·subst e
    have:=bQ.2 (s6 ih)
    rw[hn.1] at this;cases this
theorem C7:∀(ts:List Ty) (q:aU S.α ts),(leaves ts q).length=ts.length
 | [],_=>rfl
 | [_],_=>rfl
 | _::u::r,q=>by simp only[leaves,aZ,C7 (u::r) q.2]
theorem uk (ln:Nat→Nat) (al:List (Nat×Sh)) (ls:List (bi S.α)):pack (((bR al ls).1.map (·.2)).map (TV.er ln))=(mo al ls).er ln:=by
 unfold mo
 generalize (bR al ls).1=l
 match l with
 | []=>rfl
 | [(_,v)]=>rfl
 | (_,v)::(_,v')::r=>
  simp only[aB,pack,TV.er,da]
def fJ (N:Nat) (args:List Sh) (al:List (Nat×Sh)) (outs:List (Nat×Oh)):Bool:=
 Nat.ble args.length N&&(sV (aG outs) al&&NB (aG outs))
theorem vT:∀(l:List Sh) (ls:List (bi S.α)),(cw l ls).1.length=l.length
 | [],_=>rfl
 | x::r,ls=>by simp only[cw,aZ,vT r]
def O1 (al:List (Nat×Sh)) (outs:List (Nat×Oh)) (r:aU S.α (JH.cn ⟨al,outs⟩)) (g:G) (st:List (Nat×ao)):Prop:=
 g=(mo al (leaves _ r)).er (bI (bK outs (bR al (leaves _ r)).2).1)∧st=bG (bI (bK outs (bR al (leaves _ r)).2).1) (bK outs (bR al (leaves _ r)).2).1
theorem Kw {P : Program} {N fu : Nat} {H : List (Nat × Hint)} {cl : Cl S} (hm : P.follows .mixedOrders = true) (hcl : rK P N cl)
    {f : FuncId} {fn : Func} {c : Code} {args : List Sh} {aJ : List Oh} {al : List (Nat × Sh)} {outs : List (Nat × Oh)} {q : aU S.α (ic args aJ)} {r : aU S.α (JH.cn ⟨al, outs⟩)} (hf : P.funcs[f]? = some fn) (hb : fn.body = some c) (hN : fn.ntmps = N)
    (hr : fJ N args al outs = true) (hrg : ou S N H (lE c 0)) {mvs : List Nat} (h : EL P N fu H cl c mvs fn.results.toList args aJ al outs q = some r) {cx : Cx} (hro : cx.ro = none) :
    GW P N cx c (sJ P fn (O1 al outs r)) { fr := kF (TV.er.go (cM args aJ (leaves _ q)).ln (cw args (leaves _ q)).1) 0, st := (cM args aJ (leaves _ q)).er.st, df := [] } := by
  simp only [fJ, ag] at hr
  obtain ⟨hle, hr3, hr4⟩ := hr
  have e0 : (⟨kF (TV.er.go (cM args aJ (leaves _ q)).ln (cw args (leaves _ q)).1) 0, (cM args aJ (leaves _ q)).er.st, []⟩ : St) = (cM args aJ (leaves _ q)).er := by
    rw [← yj]
    show St.mk _ _ _ = St.mk (gX _ (na (cw args (leaves _ q)).1 0 ++ [])) _ _
    rw [bL]; rfl
  rw [e0]
  unfold EL at h
  split at h
  rotate_left
  · cases h
  rename_i s0 hmv
  refine xS (gQ rfl) hmv fun hl0 => ?_
  refine GW.R3 (Q' := fun e s' => (e = .ret ∨ e = .normal) ∧ ∃ t : aj S, Gw s' t.er ∧ aO t ∧ yq P t fn.results.toList al outs = some r) (jK hm hcl c 0 hrg (.inr hro) _ _ _ r hl0 h _ fun e t hlt hk hK => ?_) fun e s' hq => ?_
  · split at hK
    · obtain ⟨g1, g2⟩ := fW (P := P) (rvs := fn.results.toList) (l := al) hlt
      exact ⟨.inl rfl, _, g1, g2, hK⟩
    · obtain ⟨g1, g2⟩ := fW (P := P) (rvs := fn.results.toList) (l := al) hlt
      exact ⟨.inr rfl, _, g1, g2, hK⟩
    · cases hK
  · obtain ⟨he, t, hg0, hlt, hE⟩ := hq
    obtain ⟨u, hg, hdf, r1, O', eu, hln, hown⟩ := EI hlt hE
    refine ⟨_, hg0.trans hg.w, ?_⟩
    have hk : aG (bK outs (bR al (leaves (JH.cn ⟨al, outs⟩) r)).2).1 = aG outs := jY _ _
    refine sJ.mk he _ ((mo al (leaves _ r)).er (bI (bK outs (bR al (leaves _ r)).2).1)) _ r1 (xr (ln := bI (bK outs (bR al (leaves _ r)).2).1) (l := (bK outs (bR al (leaves _ r)).2).1) fun j o hm => ?_) ?_ ⟨rfl, rfl⟩ hdf
    · have e1 : aF (bK outs (bR al (leaves _ r)).2).1 j = some o := Ap (by rw [hk]; exact hr4) j o hm
      have e2 : aF u.bj j = some o := by rw [eu, dV, e1]
      rw [show az u.er.st j = _ from kL e2]
      have hj : o.er u.ln = o.er (bI (bK outs (bR al (leaves _ r)).2).1) := TO.lM hln o (rl (aG outs) outs _ hown j o e1)
      rw [hj]
    · rw [uk]
      refine Bh _ ?_
      rw [hk]
      exact CH _ hr3
theorem SO {P : Program} {N fu : Nat} {H : List (Nat × Hint)} {cl : Cl S} (hm : P.follows .mixedOrders = true) (hcl : rK P N cl)
  {f : FuncId} {fn : Func} {c : Code} {args : List Sh} {aJ : List Oh} {al : List (Nat × Sh)} {outs : List (Nat × Oh)} {q : aU S.α (ic args aJ)} {r : aU S.α (JH.cn ⟨al, outs⟩)} (hf : P.funcs[f]? = some fn) (hb : fn.body = some c) (hN : fn.ntmps = N)
  (hr : fJ N args al outs = true) (hrg : ou S N H (lE c 0)) {mvs : List Nat} (h : EL P N fu H cl c mvs fn.results.toList args aJ al outs q = some r) :
  GM P f (TV.er.go (cM args aJ (leaves _ q)).ln (cw args (leaves _ q)).1) (cM args aJ (leaves _ q)).er.st (O1 al outs r) := by
 have hr0 := hr
 simp only [fJ, ag] at hr0
 exact GM.of hf hb hN (by rw [da, aN, vT]; exact hr0.1) fun cx hro => Kw hm hcl hf hb hN hr hrg h hro
end
end Go.DN
/-
 DN,part U:calls that lend nothing.
-/
namespace Go.DN
open Go.AM
section
variable {S:dx}
def xp (s:aj S) (τ:Ty):TV S→Option (S.D τ)
 | .ab _ τ' a=>match τ'.fU with
  | true=>none
  | false=>iW τ' τ a
 | .val (.slice none 0 0)=>match τ with
  | .list _=>some []
  | _=>none
 | .aK h τ2=>match aF s.bj h with
  | some (.arr _ _ _ τ' l)=>match decEq τ' τ2 with
   | isTrue _=>iW (.list τ') τ l
   | isFalse _=>none
  | _=>none
 | _=>none
def Cn (s:aj S):List Ty→List (TV S)→Option (List (bi S.α))
 | [],[]=>some []
 | τ::ts,v::vs=>match xp s τ v with
  | some a=>match Cn s ts vs with
   | some l=>some (⟨τ,a⟩::l)
   | none=>none
  | none=>none
 | _,_=>none
def KP (s:aj S) (τ:Ty) (v:TV S):Option (S.D τ):=
 match v with
 | .ab _ τ' a=>iW τ' τ a
 | .agg vs=>match τ with
  | .st n=>match Cn s (S.cn n) vs with
   | some l=>S.put n l
   | none=>none
  | _=>none
 | v=>xp s τ v
def KN (s:aj S) (τ:Ty) (v:TV S):Option (S.D τ):=
 match v with
 | .ptr _ τ' a=>iW τ' τ a
 | .loc h 0=>match aF s.bj h with
  | some (.box _ _ vs)=>match τ with
   | .st n=>match Cn s (S.cn n) vs with
    | some l=>S.put n l
    | none=>none
   | τ=>match vs with
    | [v]=>xp s τ v
    | _=>none
  | _=>none
 | _=>none
mutual
def eY (s:aj S):Sh→TV S→Option (List (bi S.α))
 | .ab false τ,v=>match KP s τ v with
  | some a=>some [⟨τ,a⟩]
  | none=>none
 | .ptr false τ,v=>match KN s τ v with
  | some a=>some [⟨τ,a⟩]
  | none=>none
 | .aP f l,v=>match v with
  | .aP f' vs=>match Nat.beq f' f with
   | true=>lg s l vs
   | false=>none
  | _=>none
 | _,_=>none
def lg (s:aj S):List Sh→List (TV S)→Option (List (bi S.α))
 | [],[]=>some []
 | x::r,v::vs=>match eY s x v with
  | some a=>match lg s r vs with
   | some l=>some (a++l)
   | none=>none
  | none=>none
 | _,_=>none
end
theorem E0 (n:Nat) (st:List (Nat×ao)) (f:Bool){τ:Ty}(h:τ.fU=false) (a:S.D τ):view (n+1) st (dc f (du S τ a))=some (du S τ a):=by
 cases τ with
 | st n=>cases h
 | _=>cases f <;> rfl
theorem Bc {s:aj S}{τ:Ty}{v:TV S}{a:S.D τ}(n:Nat) (h:xp s τ v=some a):view (n+1) s.er.st (v.er s.ln)=some (du S τ a)∧τ.fU=false:=by
 unfold xp at h
 split at h
 ·split at h
  ·cases h
  ·rename_i hs
   have:=dU h
   cases this
   refine⟨?_,hs⟩
   rw[pf hs]
   exact E0 n _ _ hs _
 ·split at h
  ·cases h;exact⟨rfl,rfl⟩
  ·cases h
 ·rename_i hh τ2
  split at h
  ·rename_i e m f τ' l ho
   split at h
   ·rename_i e1 _
    subst e1
    have:=dU h
    cases this
    refine⟨?_,rfl⟩
    show view (n+1) s.er.st (.aK hh (S.sz τ') 0 (s.ln hh))=_
    simp only[view,dX ho,TO.er]
    rw[oG ho,iN,di (by rw[ku];exact aq _)]
    rfl
   ·cases h
  ·cases h
 ·cases h
theorem Bb {s:aj S}(n:Nat):∀{ts:List Ty}{vs:List (TV S)}{l:List (bi S.α)},Cn s ts vs=some l→dS (view (n+1) s.er.st) (TV.er.go s.ln vs)=some (l.map fun x=>du S x.τ x.a)
 | [],[],_,h=>by cases h;rfl
 | τ::ts,v::vs,l,h=>by
  simp only[Cn] at h
  split at h
  ·rename_i a ha
   split at h
   ·rename_i l' hl
    cases h
    simp only[TV.er.go,dS,(Bc n ha).1,Bb n hl,aB]
   ·cases h
  ·cases h
 | [],_::_,_,h=>by cases h
 | _::_,[],_,h=>by cases h
theorem GO {n:Nat}{st:List (Nat×ao)}{gs gs':List G}(h:dS (view n st) gs=some gs'):view (n+1) st (.agg gs)=some (.agg gs'):=by
 show(match dS (view n st) gs with | some gs'=>some (G.agg gs') | none=>none)=_
 rw[h]
theorem GN {n:Nat}{st:List (Nat×ao)}{h:Nat}{k:ao}{gs':List G}(hk:az st h=some k) (hlp:k.lp=none) (hp:k.pure=false) (hm:dS (view n st) k.cells=some gs'):view (n+1) st (.loc h 0)=some (.ptr gs'):=by
 show(match az st h with
  | some k=>match k.lp with
   | some _=>none
   | none=>match k.pure with
    | true=>some (G.ptr (k.cells.drop 0))
    | false=>match dS (view n st) (k.cells.drop 0) with
     | some cs=>some (.ptr cs)
     | none=>none
  | none=>none)=_
 rw[hk]
 dsimp only
 rw[hlp]
 dsimp only
 rw[hp,iN]
 dsimp only
 rw[hm]
theorem GR {s:aj S}{τ:Ty}{v:TV S}{a:S.D τ}(n:Nat) (h:KP s τ v=some a) (ln:Nat→Nat):view (n+2) s.er.st (v.er s.ln)=some ((TV.ab false τ a:TV S).er ln):=by
 have one:xp s τ v=some a→view (n+2) s.er.st (v.er s.ln)=some ((TV.ab false τ a:TV S).er ln):=by
  intro h
  obtain⟨h1,h2⟩:=Bc (n+1) h
  rw[h1,pf h2];rfl
 unfold KP at h
 split at h
 ·rename_i f τ' a'
  have:=dU h
  cases this
  cases τ with
  | st k=>
   show view (n+2) s.er.st (.agg ((aW S (.st k) a).map (dc f)))=some (.agg ((aW S (.st k) a).map (dc false)))
   have key:dS (view (n+1) s.er.st) ((aW S (.st k) a).map (dc f))=some ((aW S (.st k) a).map (dc false)):=by
    rw[gJ]
    have h:=la k a
    generalize S.cells k a=l at h
    induction l with
    | nil=>rfl
    | cons x r ih=>
     simp only[aB,dS]
     rw[E0 n _ f (h x au) x.a,ih fun y hy=>h y (ap _ hy)]
     rfl
   exact GO key
  | _=>exact one (by unfold xp;exact h)
 ·rename_i vs
  split at h
  ·rename_i k
   split at h
   ·rename_i l hl
    have hp:=S.lY _ _ _ h
    show view (n+2) s.er.st (.agg (TV.er.go s.ln vs))=some (.agg ((aW S (.st k) a).map (dc false)))
    have e:(dc false)=(id:G→G):=rfl
    rw[e,List.map_id,gJ,hp]
    exact GO (Bb n hl)
   ·cases h
  ·cases h
 ·exact one h
theorem GQ {s:aj S}{τ:Ty}{v:TV S}{a:S.D τ}(n:Nat) (h:KN s τ v=some a) (ln:Nat→Nat):view (n+2) s.er.st (v.er s.ln)=some ((TV.ptr false τ a:TV S).er ln):=by
 unfold KN at h
 split at h
 ·rename_i f τ' a'
  have:=dU h
  cases this
  cases f <;> rfl
 ·rename_i hh
  split at h
  ·rename_i e m vs ho
   split at h
   ·rename_i k
    split at h
    ·rename_i l hl
     have hp:=S.lY _ _ _ h
     show view (n+2) s.er.st (.loc hh 0)=some (.ptr (aW S (.st k) a))
     rw[gJ,hp]
     exact GN (dX ho) rfl rfl (Bb n hl)
    ·cases h
   ·split at h
    ·obtain⟨h1,h2⟩:=Bc n h
     show view (n+2) s.er.st (.loc hh 0)=some (.ptr (aW S τ a))
     rw[kN S h2]
     refine GN (dX ho) rfl rfl ?_
     simp only[TO.er,TV.er.go,dS,h1]
    ·cases h
  ·cases h
 ·cases h
theorem GS {n:Nat}{st:List (Nat×ao)}{g g':G}(h:view (n+2) st g=some g'):sK (n+2) st g=some g':=by
 cases g with
 | aP f l=>simp[view] at h
 | _=>exact h
def Sh.flat:Sh→Bool
 | .aP _ _=>false
 | _=>true
def Gt:List Sh→Bool
 | []=>true
 | x::r=>x.flat&&Gt r
def VF:Sh→Bool
 | .aP _ l=>Gt l
 | _=>true
def CM:List Sh→Bool
 | []=>true
 | x::r=>VF x&&CM r
theorem E1 {s:aj S}(n:Nat) (ln:Nat→Nat):∀{l:List Sh}{vs:List (TV S)}{xs:List (bi S.α)},Gt l=true→lg s l vs=some xs→∀r,(cw l (xs++r)).2=r∧dS (view (n+2) s.er.st) (TV.er.go s.ln vs)=some (TV.er.go ln (cw l (xs++r)).1)
 | [],[],_,_,h,r=>by simp[lg] at h;subst h;exact⟨rfl,rfl⟩
 | x::l,v::vs,xs,hf,h,r=>by
  simp only[Gt,ag] at hf
  simp only[lg] at h
  split at h
  ·rename_i a ha
   split at h
   ·rename_i l' hl
    cases h
    rw[aA]
    obtain⟨i1,i2⟩:=E1 n ln hf.2 hl r
    cases x with
    | aP f l0=>cases hf.1
    | own _ _=>simp[eY] at ha
    | loc _ _=>simp[eY] at ha
    | agg _=>simp[eY] at ha
    | cA _=>simp[eY] at ha
    | mp _=>simp[eY] at ha
    | fX _ _=>simp[eY] at ha
    | bT _ _=>simp[eY] at ha
    | ks _ _=>simp[eY] at ha
    | nr=>simp[eY] at ha
    | sub _ _=>simp[eY] at ha
    | any=>simp[eY] at ha
    | ab f τ=>
     cases f with
     | true=>simp[eY] at ha
     | false=>
     simp only[eY] at ha
     split at ha
     ·rename_i b hb
      cases ha
      refine⟨i1,?_⟩
      simp only[TV.er.go,dS,GR n hb ln,i2]
      rfl
     ·cases ha
    | ptr f τ=>
     cases f with
     | true=>simp[eY] at ha
     | false=>
     simp only[eY] at ha
     split at ha
     ·rename_i b hb
      cases ha
      refine⟨i1,?_⟩
      simp only[TV.er.go,dS,GQ n hb ln,i2]
      rfl
     ·cases ha
   ·cases h
  ·cases h
 | [],_::_,_,_,h,_=>by simp[lg] at h
 | _::_,[],_,_,h,_=>by simp[lg] at h
theorem vq {s:aj S}(n:Nat) (ln:Nat→Nat):∀{l:List Sh}{vs:List (TV S)}{xs:List (bi S.α)},CM l=true→lg s l vs=some xs→∀r,(cw l (xs++r)).2=r∧dS (sK (n+2) s.er.st) (TV.er.go s.ln vs)=some (TV.er.go ln (cw l (xs++r)).1)
 | [],[],_,_,h,r=>by simp[lg] at h;subst h;exact⟨rfl,rfl⟩
 | x::l,v::vs,xs,hf,h,r=>by
  simp only[CM,ag] at hf
  simp only[lg] at h
  split at h
  ·rename_i a ha
   split at h
   ·rename_i l' hl
    cases h
    rw[aA]
    obtain⟨i1,i2⟩:=vq n ln hf.2 hl r
    cases x with
    | own _ _=>simp[eY] at ha
    | loc _ _=>simp[eY] at ha
    | agg _=>simp[eY] at ha
    | cA _=>simp[eY] at ha
    | mp _=>simp[eY] at ha
    | fX _ _=>simp[eY] at ha
    | bT _ _=>simp[eY] at ha
    | ks _ _=>simp[eY] at ha
    | nr=>simp[eY] at ha
    | sub _ _=>simp[eY] at ha
    | any=>simp[eY] at ha
    | aP f l0=>
     simp only[eY] at ha
     split at ha
     ·rename_i f' vs'
      split at ha
      ·rename_i hb
       have e:=af hb
       subst e
       obtain⟨j1,j2⟩:=E1 n ln hf.1 ha (l'++r)
       simp only[cw,gW]
       rw[j1]
       refine⟨i1,?_⟩
       simp only[TV.er.go,dS,i2]
       have hv:sK (n+2) s.er.st ((TV.aP f' vs':TV S).er s.ln)=some (.aP f' (TV.er.go ln (cw l0 (a++(l'++r))).1)):=by
        show(match dS (view (n+2) s.er.st) (TV.er.go s.ln vs') with | some c=>some (G.aP f' c) | none=>none)=_
        rw[j2]
       rw[hv]
       rfl
      ·cases ha
     ·cases ha
    | ab f τ=>
     cases f with
     | true=>simp[eY] at ha
     | false=>
     simp only[eY] at ha
     split at ha
     ·rename_i b hb
      cases ha
      refine⟨i1,?_⟩
      simp only[TV.er.go,dS,GS (GR n hb ln),i2]
      rfl
     ·cases ha
    | ptr f τ=>
     cases f with
     | true=>simp[eY] at ha
     | false=>
     simp only[eY] at ha
     split at ha
     ·rename_i b hb
      cases ha
      refine⟨i1,?_⟩
      simp only[TV.er.go,dS,GS (GQ n hb ln),i2]
      rfl
     ·cases ha
   ·cases h
  ·cases h
 | [],_::_,_,_,h,_=>by simp[lg] at h
 | _::_,[],_,_,h,_=>by simp[lg] at h
end
end Go.DN
/-
 DN,part V:contracts;calls by dM.
-/
namespace Go.DN
open Go.AM
structure dC (S:dx) where
 f:FuncId
 args:List Sh
 aJ:List Oh
 vw:Bool
 al:List (Nat×Sh)
 outs:List (Nat×Oh)
 F:aU S.α (ic args aJ)→Option (aU S.α (JH.cn ⟨al,outs⟩))
section
variable {S:dx}
structure bE (P:Program) (con:dC S):Prop where
 call:∀args w,(callFunc con.f args).run P w=.ok (.enter con.f args) w
 ok:∀q r,con.F q=some r→GM P con.f (TV.er.go (cM con.args con.aJ (leaves _ q)).ln (cw con.args (leaves _ q)).1) (cM con.args con.aJ (leaves _ q)).er.st (O1 con.al con.outs r)
def nq:List (Nat×Sh)→Bool
 | []=>true
 | (_,.ab _ _)::r=>nq r
 | _=>false
def rj:List (Nat×Sh)→Bool
 | []=>true
 | (_,.ab f _)::r=>f&&rj r
 | _=>false
theorem Dm {g:G}(h:Pl g):kT (dc true g)=true:=by
 rcases h with ⟨u,rfl⟩ | ⟨n,cs,rfl⟩ | ⟨b,rfl⟩ <;> rfl
theorem LY (τ:Ty) (a:S.D τ):kT (nZ true τ a)=true:=by
 cases τ with
 | st n=>
  show kT.go ((aW S (.st n) a).map (dc true))=true
  have h:=td (S:=S) (.st n) a
  generalize aW S (.st n) a=l at h
  induction l with
  | nil=>rfl
  | cons x r ih=>
   simp only[aB,kT.go,Dm (h x au),ih fun y hy=>h y (ap _ hy),gu]
 | _=>exact Dm (w9 rfl a)
theorem Dl (ln:Nat→Nat):∀(al:List (Nat×Sh)) (ls:List (bi S.α)),rj al=true→ls.length=(jf al).length→kT.go (((bR al ls).1.map (·.2)).map (TV.er ln))=true
 | [],_,_,_=>rfl
 | (d,.ab f τ)::r,ls,h,hl=>by
  simp only[rj,ag] at h
  cases ls with
  | nil=>simp[jf,Sh.cn] at hl
  | cons x xs=>
   simp only[bR,gW,aB,kT.go]
   rw[h.1,Dl ln r xs h.2 (by simpa[jf,Sh.cn] using hl),jQ]
   exact LY x.τ x.a
 | (d,.own h τ)::r,ls,h',_=>by cases h'
 | (d,.ptr _ _)::r,ls,h',_=>by cases h'
 | (d,.loc _ _)::r,ls,h',_=>by cases h'
 | (d,.aP _ _)::r,ls,h',_=>by cases h'
 | (d,.agg _)::r,ls,h',_=>by cases h'
 | (d,.cA _)::r,ls,h',_=>by cases h'
 | (d,.mp _)::r,ls,h',_=>by cases h'
 | (d,.fX _ _)::r,ls,h',_=>by cases h'
 | (d,.bT _ _)::r,ls,h',_=>by cases h'
 | (d,.ks _ _)::r,ls,h',_=>by cases h'
 | (d,.any)::r,ls,h',_=>by cases h'
 | (d,.nr)::r,ls,h',_=>by cases h'
 | (d,.sub _ _)::r,ls,h',_=>by cases h'
theorem Fw {al:List (Nat×Sh)}{ls:List (bi S.α)}(h:rj al=true) (hl:ls.length=(jf al).length) (ln:Nat→Nat):kT ((mo al ls).er ln)=true:=by
 have:=Dl (S:=S) ln al ls h hl
 rw[←uk]
 revert this
 generalize (((bR al ls).1.map (·.2)).map (TV.er ln))=gs
 intro hg
 match gs with
 | []=>rfl
 | [g]=>simpa[kT.go,pack] using hg
 | g::g'::r=>exact hg
theorem Kp (ln ln':Nat→Nat):∀(al:List (Nat×Sh)) (ls:List (bi S.α)),nq al=true→((bR al ls).1.map (·.2)).map (TV.er ln)=((bR al ls).1.map (·.2)).map (TV.er ln')
 | [],_,_=>rfl
 | (d,.ab f τ)::r,ls,h=>by
  simp only[bR,aB]
  rw[Kp ln ln' r _ h]
  cases ls <;> rfl
 | (d,.own h τ)::r,ls,h'=>by cases h'
 | (d,.ptr _ _)::r,ls,h'=>by cases h'
 | (d,.loc _ _)::r,ls,h'=>by cases h'
 | (d,.aP _ _)::r,ls,h'=>by cases h'
 | (d,.agg _)::r,ls,h'=>by cases h'
 | (d,.cA _)::r,ls,h'=>by cases h'
 | (d,.mp _)::r,ls,h'=>by cases h'
 | (d,.fX _ _)::r,ls,h'=>by cases h'
 | (d,.bT _ _)::r,ls,h'=>by cases h'
 | (d,.ks _ _)::r,ls,h'=>by cases h'
 | (d,.any)::r,ls,h'=>by cases h'
 | (d,.nr)::r,ls,h'=>by cases h'
 | (d,.sub _ _)::r,ls,h'=>by cases h'
theorem Hq (ln ln':Nat→Nat){al:List (Nat×Sh)}{ls:List (bi S.α)}(h:nq al=true):(mo al ls).er ln=(mo al ls).er ln':=by
 rw[←uk,←uk,Kp ln ln' al ls h]
def TV.imp:TV S→Bool
 | .ab _ _ _=>true
 | .ptr _ _ _=>true
 | .val _=>true
 | .agg l=>go l
 | .aP _ l=>go l
 | _=>false
where go:List (TV S)→Bool
 | []=>true
 | x::r=>x.imp&&go r
def oa:G→Bool
 | .val _=>true
 | .cH _=>true
 | .sl _ _=>true
 | .ptr _=>true
 | .fr _=>true
 | .agg gs=>go gs
 | .aP _ gs=>go gs
 | _=>false
where go:List G→Bool
 | []=>true
 | g::r=>oa g&&go r
mutual
theorem NT (ln:Nat→Nat):∀v:TV S,v.imp=true→oa (v.er ln)=true
 | .ab f τ a,_=>by
  cases τ with
  | st n=>
   show oa.go ((aW S (.st n) a).map (dc f))=true
   have h:=td (S:=S) (.st n) a
   generalize aW S (.st n) a=l at h
   induction l with
   | nil=>rfl
   | cons x r ih=>
    have h1:oa (dc f x)=true:=by
     rcases h x au with ⟨u,rfl⟩ | ⟨n,cs,rfl⟩ | ⟨b,rfl⟩ <;> cases f <;> rfl
    simp only[aB,oa.go,h1,ih fun y hy=>h y (ap _ hy),gu]
  | _=>cases f <;> rfl
 | .ptr f τ a,_=>by cases f <;> rfl
 | .val _,_=>rfl
 | .agg l,h=>pb ln l h
 | .aP _ l,h=>pb ln l h
 | .aU _,h=>by cases h
 | .loc _ _,h=>by cases h
 | .gY _ _ _ _,h=>by cases h
 | .aK _ _,h=>by cases h
 | .sub _ _ _ _,h=>by cases h
 | .cA _,h=>by cases h
 | .mp _,h=>by cases h
 | .ks _ _ _ _,h=>by cases h
 | .kp _ _ _ _,h=>by cases h
 | .fX _ _ _ _ _,h=>by cases h
 | .bT _ _ _,h=>by cases h
 | .any,h=>by cases h
theorem pb (ln:Nat→Nat):∀l:List (TV S),TV.imp.go l=true→oa.go (TV.er.go ln l)=true
 | [],_=>rfl
 | x::r,h=>by
  simp only[TV.imp.go,ag] at h
  simp only[TV.er.go,oa.go,NT ln x h.1,pb ln r h.2,gu]
end
theorem xU {f:G→Option G}:∀{gs gs':List G},(∀g g',g∈gs→f g=some g'→fL g=some g')→dS f gs=some gs'→fL.go gs=some gs'
 | [],_,_,h=>by cases h;rfl
 | g::r,gs',hf,h=>by
  simp only[dS] at h
  split at h
  ·rename_i g1 r1 h1 h2
   cases h
   simp only[fL.go,hf g g1 au h1,xU (fun x x' hx=>hf x x' (ap _ hx)) h2]
  ·cases h
theorem zt:∀{gs:List G}{g:G},oa.go gs=true→g∈gs→oa g=true
 | x::r,g,h,hm=>by
  simp only[oa.go,ag] at h
  rcases bf.1 hm with e | hm
  ·subst e;exact h.1
  ·exact zt h.2 hm
theorem Ba {st:List (Nat×ao)}:∀(n:Nat){g g':G},oa g=true→view n st g=some g'→fL g=some g'
 | 0,_,_,_,h=>by cases h
 | n+1,g,g',ho,h=>by
  cases g with
  | val v=>exact h
  | cH b=>exact h
  | sl m cs=>exact h
  | ptr cs=>exact h
  | fr g=>exact h
  | agg gs=>
   have h:(match dS (view n st) gs with | some gs'=>some (G.agg gs') | none=>none)=some g':=h
   split at h
   ·rename_i gs' hm
    cases h
    show(fL.go gs).map G.agg=_
    rw[xU (fun x x' hx hv=>Ba n (zt ho hx) hv) hm];rfl
   ·cases h
  | aP f gs=>simp[view] at h
  | _=>cases ho
theorem MH {n:Nat}{st:List (Nat×ao)}{g g':G}(ho:oa g=true) (h:sK n st g=some g'):fL g=some g':=by
 cases g with
 | aP f gs=>
  have h:(match dS (view n st) gs with | some c=>some (G.aP f c) | none=>none)=some g':=h
  split at h
  ·rename_i gs' hm
   cases h
   show(fL.go gs).map (G.aP f)=_
   rw[xU (fun x x' hx hv=>Ba n (zt ho hx) hv) hm];rfl
  ·cases h
 | _=>exact Ba n ho h
theorem xV {n:Nat}{st:List (Nat×ao)}:∀{gs gs':List G},oa.go gs=true→dS (sK n st) gs=some gs'→dS fL gs=some gs'
 | [],_,_,h=>by cases h;rfl
 | g::r,gs',ho,h=>by
  simp only[oa.go,ag] at ho
  simp only[dS] at h
  split at h
  ·rename_i g1 r1 h1 h2
   cases h
   simp only[dS,MH ho.1 h1,xV ho.2 h2]
  ·cases h
theorem P8 (f:Bool) (τ:Ty) (a:S.D τ):mN (nZ f τ a)=true:=by
 cases τ with
 | st n=>
  show mN.go ((aW S (.st n) a).map (dc f))=true
  have h:=td (S:=S) (.st n) a
  generalize aW S (.st n) a=l at h
  induction l with
  | nil=>rfl
  | cons x r ih=>
   have h1:mN (dc f x)=true:=by
    rcases h x au with ⟨u,rfl⟩ | ⟨n,cs,rfl⟩ | ⟨b,rfl⟩ <;> cases f <;> rfl
   simp only[aB,mN.go,h1,ih fun y hy=>h y (ap _ hy),gu]
 | _=>cases f <;> rfl
theorem Im (ln:Nat→Nat):∀(al:List (Nat×Sh)) (ls:List (bi S.α)),nq al=true→ls.length=(jf al).length→mN.go (((bR al ls).1.map (·.2)).map (TV.er ln))=true
 | [],_,_,_=>rfl
 | (d,.ab f τ)::r,ls,h,hl=>by
  cases ls with
  | nil=>simp[jf,Sh.cn] at hl
  | cons x xs=>
   simp only[bR,gW,aB,mN.go]
   rw[Im ln r xs h (by simpa[jf,Sh.cn] using hl),jQ]
   exact P8 f x.τ x.a
 | (d,.own h τ)::r,ls,h',_=>by cases h'
 | (d,.ptr _ _)::r,ls,h',_=>by cases h'
 | (d,.loc _ _)::r,ls,h',_=>by cases h'
 | (d,.aP _ _)::r,ls,h',_=>by cases h'
 | (d,.agg _)::r,ls,h',_=>by cases h'
 | (d,.cA _)::r,ls,h',_=>by cases h'
 | (d,.mp _)::r,ls,h',_=>by cases h'
 | (d,.fX _ _)::r,ls,h',_=>by cases h'
 | (d,.bT _ _)::r,ls,h',_=>by cases h'
 | (d,.ks _ _)::r,ls,h',_=>by cases h'
 | (d,.any)::r,ls,h',_=>by cases h'
 | (d,.nr)::r,ls,h',_=>by cases h'
 | (d,.sub _ _)::r,ls,h',_=>by cases h'
theorem Ey {al:List (Nat×Sh)}{ls:List (bi S.α)}(h:nq al=true) (hl:ls.length=(jf al).length) (ln:Nat→Nat):mN ((mo al ls).er ln)=true:=by
 have:=Im (S:=S) ln al ls h hl
 rw[←uk]
 revert this
 generalize (((bR al ls).1.map (·.2)).map (TV.er ln))=gs
 intro hg
 match gs with
 | []=>rfl
 | [g]=>simpa[mN.go,pack] using hg
 | g::g'::r=>exact hg
def pA (con:dC S):Bool:=isNil con.aJ&&(isNil con.outs&&(CM con.args&&nq con.al))
def yz (con:dC S) (s:aj S) (d:Nat) (vs:List (TV S)){A:Type}(k:aj S→Option A):Option A:=
 match pA con&&(rj con.al||TV.imp.go vs) with
 | true=>match lg s con.args vs with
  | some ls=>match n6 (ic con.args con.aJ) ls with
   | some q=>(con.F q).bind fun r=>k (s.put d (mo con.al (leaves _ r)))
   | none=>none
  | none=>none
 | false=>none
theorem qt (ln:Nat→Nat):∀(l l':List (TV S)),TV.er.go ln (l++l')=TV.er.go ln l++TV.er.go ln l'
 | [],_=>rfl
 | x::r,l'=>by simp only[bd,TV.er.go,qt ln r l']
theorem BP {α:Type}:∀{l:List α},isNil l=true→l=[]
 | [],_=>rfl
 | _::_,h=>by cases h
theorem xB {P:Program}{con:dC S}(C:bE P con) (h:pA con=true):CM con.args=true∧nq con.al=true∧
  ∀q r,con.F q=some r→GM P con.f (TV.er.go (fun _=>0) (cw con.args (leaves _ q)).1) [] (fun g st=>g=(mo con.al (leaves _ r)).er (fun _=>0)∧st=[]):=by
 simp only[pA,ag] at h
 obtain⟨h1,h2,h3,h4⟩:=h
 refine⟨h3,h4,fun q r hr=>?_⟩
 have:=C.ok q r hr
 obtain⟨f,args,aJ,vw,al,outs,F⟩:=con
 have h1':aJ=[]:=BP h1
 have h2':outs=[]:=BP h2
 subst h1';subst h2'
 have e1:(cM args [] (leaves (ic args []) q)).ln=fun _=>0:=rfl
 rw[e1] at this
 exact this
theorem Aj {al:List (Nat×Sh)}{outs:List (Nat×Oh)}(r:aU S.α (JH.cn ⟨al,outs⟩)) (h:outs=[]):(leaves _ r).length=(jf al).length:=by
 subst h
 rw[C7];simp[JH.cn,CP]
theorem tU {con:dC S}(h:pA con=true):con.outs=[]:=by
 simp only[pA,ag] at h
 exact BP h.2.1
theorem QA {P:Program}{N:Nat}{W:List Nat}{con:dC S}(C:bE P con){s:aj S}{d:Nat}{vs:List (TV S)}{A:Type}{k:aj S→Option A}{r:A}(hl:aO s) (h:yz con s d vs k=some r)
  {xs:Array Operand}{ts:Array TypeId}{ty:TypeId}{pos:String}{after:Array Edge}{guard:Option (Nat×Bool)}(hv:tC s xs.toList=some vs):
  ∃T:St→Prop,bJ P W s.er ⟨some d,.call ⟨.value (.func con.f),xs,ts⟩,ty,pos,after,guard⟩ T∧∀s',T s'→∃t:aj S,Gh s' t.er∧aO t∧bA s t∧k t=some r:=by
 unfold yz at h
 split at h
 ·rename_i hc
  rw[ag] at hc
  obtain⟨hp,hfr⟩:=hc
  obtain⟨C1,C2,C3⟩:=xB C hp
  split at h
  ·rename_i ls hls
   split at h
   ·rename_i q hq
    obtain⟨res,h1,h2⟩:=bind_some h
    have hview:=(vq 1 (fun _=>0) C1 hls []).2
    rw[bL,←gf hq] at hview
    have fin:∀s',(∃g st,(g=(mo con.al (leaves _ res)).er (fun _=>0)∧st=([]:List (Nat×ao)))∧s'=s.er.put d g)→∃t:aj S,Gh s' t.er∧aO t∧bA s t∧k t=some r:=by
     intro s' hs'
     obtain⟨g,st,⟨hg,_⟩,e⟩:=hs'
     subst e;subst hg
     refine⟨_,?_,hl.put d _,⟨rfl,rfl,rfl⟩,h2⟩
     rw[iT,Hq s.ln (fun _=>0) C2]
     exact Gh.refl _
    have hlen:=Aj res (tU hp)
    cases hfs:rj con.al with
    | true=>exact⟨_,EF.call (P:=P) (W:=W) 3 C.call (lK hv).2 hview (C3 q res h1) (fun g st hg=>by rw[hg.1];exact Fw hfs hlen _),fin⟩
    | false=>
     rw[hfs] at hfr
     have himp:=pb s.ln vs hfr
     exact⟨_,EF.U7 (P:=P) (W:=W) C.call (lK hv).2 (xV himp hview) (C3 q res h1) (fun g st hg=>⟨by rw[hg.1];exact Ey C2 hlen _,hg.2⟩),fin⟩
   ·cases h
  ·cases h
 ·cases h
theorem EF.Uq {P:Program}{W:List Nat}{s:St}{d:Nat}{ty:TypeId}{pos:String}{after:Array Edge}{guard:Option (Nat×Bool)}{f:FuncId}{x:Operand}{xs:Array Operand}{ts:Array TypeId}{gs caps gs':List G}{Q:G→List (Nat×ao)→Prop}(hb:ry f xs.toList=true) (hc:∀args w,(callFunc f args).run P w=.ok (.enter f args) w)
  (hf:ev s x=some (.aP f caps)) (hx:tc s xs.toList=some gs) (hv:dS fL (gs++caps)=some gs') (hcon:GM P f gs' [] Q) (hres:∀r st',Q r st'→mN r=true∧st'=[]):
  bJ P W s ⟨some d,.call ⟨.value x,xs,ts⟩,ty,pos,after,guard⟩ (fun s'=>∃r st',Q r st'∧s'=s.put d r):=by
 refine⟨(fun _ h=>by cases h),?_⟩
 intro N cx μ a w hr hN K Q' hK
 obtain⟨h1,h2⟩:=lL hx
 have hcl:=hr.ev hf
 generalize hav:a.eval x=vf at hcl
 cases hcl with
 | aC h=>cases h
 | aP _ _ us hl hrc=>
  have hcall:=DH (vs:=xs.toList.map a.eval++us) (W:=W) hr hv (by simp[h1,hl]) (fun j g v hg hv=>by
   rw[ba] at hg hv
   rw[aN,←h1] at hv
   split at hg
   ·rename_i hj
    rw[if_pos hj] at hv
    obtain⟨x,hxj,he⟩:=h2 j g hg
    rw[ar,hxj] at hv
    cases hv
    exact hr.ev he
   ·rename_i hj
    rw[if_neg hj] at hv
    exact hrc _ g v hg hv) hcon hres
  unfold Oper.wp
  have:=sX (P:=P) (w:=w) (d:=d) (ty:=ty) (pos:=pos) (after:=after) (guard:=guard) (ts:=ts) hb hc hav
  rw[this]
  refine hcall.mono ?_
  rintro e w' ⟨v,r,st',rfl,hq,hr',hrv,hst⟩
  exact hK μ _ _ w' (hr'.put (hN d rfl) hrv) ⟨r,st',hq,rfl⟩ hst
theorem IS {P:Program}{N:Nat}{W:List Nat}{con:dC S}(C:bE P con){s:aj S}{d:Nat}{vs caps:List (TV S)}{A:Type}{k:aj S→Option A}{r:A}(hl:aO s) (h:yz con s d (vs++caps) k=some r)
  {x:Operand}{xs:Array Operand}{ts:Array TypeId}{ty:TypeId}{pos:String}{after:Array Edge}{guard:Option (Nat×Bool)}(hx:cG s x=some (.aP con.f caps)) (hb:ry con.f xs.toList=true) (hv:tC s xs.toList=some vs):
  ∃T:St→Prop,bJ P W s.er ⟨some d,.call ⟨.value x,xs,ts⟩,ty,pos,after,guard⟩ T∧∀s',T s'→∃t:aj S,Gh s' t.er∧aO t∧bA s t∧k t=some r:=by
 unfold yz at h
 split at h
 ·rename_i hc
  rw[ag] at hc
  obtain⟨hp,hfr⟩:=hc
  obtain⟨C1,C2,C3⟩:=xB C hp
  split at h
  ·rename_i ls hls
   split at h
   ·rename_i q hq
    obtain⟨res,h1,h2⟩:=bind_some h
    have hview:=(vq 1 (fun _=>0) C1 hls []).2
    rw[bL,←gf hq,qt] at hview
    have fin:∀s',(∃g st,(g=(mo con.al (leaves _ res)).er (fun _=>0)∧st=([]:List (Nat×ao)))∧s'=s.er.put d g)→∃t:aj S,Gh s' t.er∧aO t∧bA s t∧k t=some r:=by
     intro s' hs'
     obtain⟨g,st,⟨hg,_⟩,e⟩:=hs'
     subst e;subst hg
     refine⟨_,?_,hl.put d _,⟨rfl,rfl,rfl⟩,h2⟩
     rw[iT,Hq s.ln (fun _=>0) C2]
     exact Gh.refl _
    cases hfs:rj con.al with
    | true=>exact⟨_,EF.U6 (P:=P) (W:=W) 3 hb C.call (bu hx) (lK hv).2 hview (C3 q res h1) (fun g st hg=>by rw[hg.1];exact Fw hfs (Aj res (tU hp)) _),fin⟩
    | false=>
     rw[hfs] at hfr
     have himp:=pb s.ln (vs++caps) hfr
     rw[qt] at himp
     exact⟨_,EF.Uq (P:=P) (W:=W) hb C.call (bu hx) (lK hv).2 (xV himp hview) (C3 q res h1) (fun g st hg=>⟨by rw[hg.1];exact Ey C2 (Aj res (tU hp)) _,hg.2⟩),fin⟩
   ·cases h
  ·cases h
 ·cases h
theorem bE.VZ {P:Program}{N fu:Nat}{H:List (Nat×Hint)}{cl:Cl S}{con:dC S}{fn:Func}{c:Code}(hm:P.follows .mixedOrders=true) (hcl:rK P N cl)
  (hf:P.funcs[con.f]?=some fn) (hcall:∀args w,(callFunc con.f args).run P w=.ok (.enter con.f args) w) (hb:fn.body=some c) (hN:fn.ntmps=N)
  (hle:fJ N con.args con.al con.outs=true) (hrg:ou S N H (lE c 0))
  {mvs:List Nat}(h:∀q,EL P N fu H cl c mvs fn.results.toList con.args con.aJ con.al con.outs q=con.F q):bE P con:=
 ⟨hcall,fun q r hr=>SO hm hcl hf hb hN hle hrg ((h q).trans hr)⟩
end
end Go.DN
