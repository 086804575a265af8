/-
  DN, second half.
-/
import Derived.Test.YtmhbeopldeccmaaDoorMgG
set_option linter.unusedSectionVars false
set_option linter.unusedSimpArgs false
set_option linter.unusedVariables false
/-
 DN,part O:what a loop or a join carries.
-/
namespace Go.DN
open Go.AM
inductive Sh where
 | ae (f:Bool) (τ:Ty)
 | ptr (f:Bool) (τ:Ty)
 | own (h:Nat) (τ:Ty)
 | loc (h off:Nat)
 | aR (f:FuncId) (l:List Sh)
 | agg (l:List Sh)
 | cT (h:Nat)
 | mp (h:Nat)
 | any
 | mu
 | sub (h:Nat) (τ:Ty)
 | gH (h:Nat) (τ:Ty)
 | ks (h:Nat) (τ:Ty)
 | bP (h off:Nat)
inductive Oh where
 | arr (e:TypeId) (m f:Bool) (τ:Ty)
 | box (e:TypeId) (m:Bool) (cs:List Sh)
 | lp (key:Nat) (lv:Bool) (cs:List Sh)
 | deep (e:TypeId) (m f:Bool) (dk:Dk) (τ:Ty)
structure JH where
 aj:List (Nat×Sh)
 aI:List (Nat×Oh)
mutual
def Sh.cg:Sh→List Ty
 | .ae _ τ=>[τ]
 | .ptr _ τ=>[τ]
 | .own _ _=>[]
 | .loc _ _=>[]
 | .aR _ l=>vO l
 | .agg l=>vO l
 | .cT _=>[]
 | .mp _=>[]
 | .any=>[]
 | .mu=>[.int .i64]
 | .sub _ _=>[.int .i64,.int .i64]
 | .gH _ _=>[.bool,.int .i64,.int .i64]
 | .ks _ _=>[.int .i64,.int .i64]
 | .bP _ _=>[.bool]
def vO:List Sh→List Ty
 | []=>[]
 | x::r=>x.cg++vO r
end
def Oh.cg:Oh→List Ty
 | .arr _ _ _ τ=>[.list τ]
 | .box _ _ cs=>vO cs
 | .lp _ lv cs=>match lv with
  | true=>.int .i64::vO cs
  | false=>vO cs
 | .deep _ _ _ _ τ=>[τ]
def jb:List (Nat×Sh)→List Ty
 | []=>[]
 | (_,x)::r=>x.cg++jb r
def AN:List (Nat×Oh)→List Ty
 | []=>[]
 | (_,x)::r=>x.cg++AN r
def JH.cg (j:JH):List Ty:=jb j.aj++AN j.aI
@[reducible] def aT (α:Nat→Type):List Ty→Type
 | []=>Unit
 | [t]=>t.den α
 | t::r=>t.den α×aT α r
section
variable {S:dr}
def nz:(ts:List Ty)→List (aY S.α)→Option (aT S.α ts)
 | [],[]=>some ()
 | [t],[x]=>iN x.τ t x.a
 | t::u::r,x::xs=>match iN x.τ t x.a with
  | some a=>match nz (u::r) xs with
   | some b=>some (a,b)
   | none=>none
  | none=>none
 | _,_=>none
def leaves:(ts:List Ty)→aT S.α ts→List (aY S.α)
 | [],_=>[]
 | [t],q=>[⟨t,q⟩]
 | t::u::r,q=>⟨t,q.1⟩::leaves (u::r) q.2
theorem gP:∀{ts:List Ty}{xs:List (aY S.α)}{q:aT S.α ts},nz ts xs=some q→leaves ts q=xs
 | [],[],_,_=>rfl
 | [t],[x],q,h=>by
  obtain⟨τ,a⟩:=x
  have:=dW h
  show[(⟨t,q⟩:aY S.α)]=_
  rw[this]
 | t::u::r,x::xs,q,h=>by
  simp only[nz] at h
  split at h
  ·rename_i a h1
   split at h
   ·rename_i b h2
    cases h
    show(⟨t,a⟩:aY S.α)::leaves (u::r) b=_
    rw[gP h2]
    obtain⟨τ,a'⟩:=x
    rw[dW h1]
   ·cases h
  ·cases h
 | [],_::_,_,h=>by cases h
 | [_],[],_,h=>by cases h
 | [_],_::_::_,_,h=>by simp[nz] at h
 | _::_::_,[],_,h=>by cases h
mutual
def kV:Sh→TV S→Option (List (aY S.α))
 | .ae f τ,v=>match Aq τ v with
  | some (f',a)=>match !f||f' with
   | true=>some [⟨τ,a⟩]
   | false=>none
  | none=>none
 | .ptr f τ,v=>match v with
  | .ptr f' τ' a=>match !f||f' with
   | true=>match iN τ' τ a with
    | some b=>some [⟨τ,b⟩]
    | none=>none
   | false=>none
  | _=>none
 | .own h τ,v=>match v with
  | .aM h' τ'=>match Nat.beq h' h with
   | true=>match decEq τ' τ with
    | isTrue _=>some []
    | isFalse _=>none
   | false=>none
  | _=>none
 | .loc h o,v=>match v with
  | .loc h' o'=>match Nat.beq h' h&&Nat.beq o' o with
   | true=>some []
   | false=>none
  | _=>none
 | .aR f l,v=>match v with
  | .aR f' vs=>match Nat.beq f' f with
   | true=>qk l vs
   | false=>none
  | _=>none
 | .agg l,v=>match v with
  | .agg vs=>qk l vs
  | _=>none
 | .cT h,v=>match v with
  | .cT h'=>match Nat.beq h' h with
   | true=>some []
   | false=>none
  | _=>none
 | .mp h,v=>match v with
  | .mp h'=>match Nat.beq h' h with
   | true=>some []
   | false=>none
  | _=>none
 | .any,_=>some []
 | .mu,v=>match v with
  | .aR f []=>some [⟨.int .i64,(f:Int)⟩]
  | _=>none
 | .sub h τ,v=>match v with
  | .sub h' τ' o n=>match Nat.beq h' h with
   | true=>match decEq τ' τ with
    | isTrue _=>some [⟨.int .i64,(o:Int)⟩,⟨.int .i64,(n:Int)⟩]
    | isFalse _=>none
   | false=>none
  | _=>none
 | .ks h τ,v=>match v with
  | .ks h' τ' z n=>match Nat.beq h' h with
   | true=>match decEq τ' τ with
    | isTrue _=>some [⟨.int .i64,(z:Int)⟩,⟨.int .i64,(n:Int)⟩]
    | isFalse _=>none
   | false=>none
  | _=>none
 | .bP h o,v=>match v with
  | .val (.pointer none)=>some [⟨.bool,true⟩]
  | .loc h' o'=>match Nat.beq h' h&&Nat.beq o' o with
   | true=>some [⟨.bool,false⟩]
   | false=>none
  | .bP b h' o'=>match Nat.beq h' h&&Nat.beq o' o with
   | true=>some [⟨.bool,b⟩]
   | false=>none
  | _=>none
 | .gH h τ,v=>match v with
  | .val (.pointer none)=>some [⟨.bool,true⟩,⟨.int .i64,(0:Int)⟩,⟨.int .i64,(0:Int)⟩]
  | .kp h' τ' i j=>match Nat.beq h' h with
   | true=>match decEq τ' τ with
    | isTrue _=>some [⟨.bool,false⟩,⟨.int .i64,(i:Int)⟩,⟨.int .i64,(j:Int)⟩]
    | isFalse _=>none
   | false=>none
  | .gH b h' τ' i j=>match Nat.beq h' h with
   | true=>match decEq τ' τ with
    | isTrue _=>some [⟨.bool,b⟩,⟨.int .i64,(i:Int)⟩,⟨.int .i64,(j:Int)⟩]
    | isFalse _=>none
   | false=>none
  | _=>none
def qk:List Sh→List (TV S)→Option (List (aY S.α))
 | [],[]=>some []
 | sh::r,v::vs=>match kV sh v with
  | some xs=>match qk r vs with
   | some ys=>some (xs++ys)
   | none=>none
  | none=>none
 | _,_=>none
end
mutual
def gI:Sh→List (aY S.α)→TV S×List (aY S.α)
 | .ae f _,ls=>match ls with
  | x::r=>(.ae f x.τ x.a,r)
  | []=>(.any,[])
 | .ptr f _,ls=>match ls with
  | x::r=>(.ptr f x.τ x.a,r)
  | []=>(.any,[])
 | .own h τ,ls=>(.aM h τ,ls)
 | .loc h o,ls=>(.loc h o,ls)
 | .aR f l,ls=>(.aR f (cw l ls).1,(cw l ls).2)
 | .agg l,ls=>(.agg (cw l ls).1,(cw l ls).2)
 | .cT h,ls=>(.cT h,ls)
 | .mp h,ls=>(.mp h,ls)
 | .any,ls=>(.any,ls)
 | .mu,ls=>match ls with
  | ⟨.int _,a⟩::r=>(.aR (Int.toNat a) [],r)
  | r=>(.any,r)
 | .sub h τ,ls=>match ls with
  | ⟨.int _,a⟩::⟨.int _,b⟩::r=>(.sub h τ (Int.toNat a) (Int.toNat b),r)
  | r=>(.any,r)
 | .ks h τ,ls=>match ls with
  | ⟨.int _,a⟩::⟨.int _,b⟩::r=>(.ks h τ (Int.toNat a) (Int.toNat b),r)
  | r=>(.any,r)
 | .bP h o,ls=>match ls with
  | ⟨.bool,b⟩::r=>(.bP b h o,r)
  | r=>(.any,r)
 | .gH h τ,ls=>match ls with
  | ⟨.bool,b⟩::⟨.int _,i⟩::⟨.int _,j⟩::r=>(.gH b h τ (Int.toNat i) (Int.toNat j),r)
  | r=>(.any,r)
def cw:List Sh→List (aY S.α)→List (TV S)×List (aY S.α)
 | [],ls=>([],ls)
 | sh::r,ls=>((gI sh ls).1::(cw r (gI sh ls).2).1,(cw r (gI sh ls).2).2)
end
theorem RW.any (g:G):RW g .any:=fun _ _ _ _ _ _=>.aD (.any _)
theorem RW.aR {f:FuncId}{gs gs':List G}(hl:gs'.length=gs.length) (h:∀(j:Nat) (g':G),gs'[j]?=some g'→∃g,gs[j]?=some g∧RW g g'):RW (.aR f gs) (.aR f gs'):=by
 intro O base w μ v hv
 cases hv with
 | aD hv=>cases hv
 | aR _ _ us h1 h2=>exact .aR f _ us (h1.trans hl.symm) fun j g' v hg' hv=>(by
   obtain⟨g,hg,hw⟩:=h j g' hg'
   exact hw _ _ _ _ _ (h2 j g v hg hv))
theorem RW.ae (f f':Bool) (τ:Ty) (a:S.D τ) (hc:(!f||f')=true):RW (nh f' τ a) (nh f τ a):=by
 cases f with
 | true=>
  have:f'=true:=by simpa using hc
  subst this
  exact RW.refl _
 | false=>
  unfold nh
  split
  ·rename_i n a
   refine RW.agg (by simp) fun j g' hg'=>?_
   rw[ak] at hg'⊢
   obtain⟨g,hg,rfl⟩:=au.1 hg'
   exact⟨_,by rw[hg];rfl,RW.dc _ _ _ (fun e=>by cases e)⟩
  ·exact RW.dc _ _ _ (fun e=>by cases e)
theorem RW.RF (f f':Bool) (τ:Ty) (a:S.D τ) (hc:(!f||f')=true):RW (My f' τ a) (My f τ a):=by
 cases f with
 | true=>
  have:f'=true:=by simpa using hc
  subst this
  exact RW.refl _
 | false=>
  cases f' with
  | false=>exact RW.refl _
  | true=>exact RW.PR (.ptr (aP S τ a))
theorem Oi {ln:Nat→Nat}{vs vs':List (TV S)}(hl:vs'.length=vs.length) (h:∀(j:Nat) (v':TV S),vs'[j]?=some v'→∃v,vs[j]?=some v∧RW (v.er ln) (v'.er ln)):
  (TV.er.go ln vs').length=(TV.er.go ln vs).length∧∀(j:Nat) (g':G),(TV.er.go ln vs')[j]?=some g'→∃g,(TV.er.go ln vs)[j]?=some g∧RW g g':=by
 rw[cS,cS]
 refine⟨by simp[hl],fun j g' hg'=>?_⟩
 rw[ak] at hg'
 obtain⟨v',h1,rfl⟩:=au.1 hg'
 obtain⟨v,h2,h3⟩:=h j v' h1
 exact⟨v.er ln,by rw[ak,h2];rfl,h3⟩
mutual
theorem zE (ln:Nat→Nat):∀{sh:Sh}{v:TV S}{xs:List (aY S.α)},kV sh v=some xs→∀(r:List (aY S.α)),(gI sh (xs++r)).2=r∧RW (v.er ln) ((gI sh (xs++r)).1.er ln)
 | .ae f τ,v,xs,h,r=>by
  simp only[kV] at h
  split at h
  ·rename_i f' a ha
   split at h
   ·rename_i hc
    cases h
    exact⟨rfl,(PU ha ln).trans (RW.ae _ _ _ _ hc)⟩
   ·cases h
  ·cases h
 | .ptr f τ,v,xs,h,r=>by
  simp only[kV] at h
  split at h
  ·rename_i f' τ' a
   split at h
   ·rename_i hc
    split at h
    ·rename_i b hb
     cases h
     have:=dW hb
     cases this
     exact⟨rfl,RW.RF _ _ _ _ hc⟩
    ·cases h
   ·cases h
  ·cases h
 | .own h0 τ,v,xs,h,r=>by
  simp only[kV] at h
  split at h
  ·split at h
   ·rename_i hb
    split at h
    ·rename_i e _
     cases h
     subst e
     have:=ab hb
     subst this
     exact⟨rfl,RW.refl _⟩
    ·cases h
   ·cases h
  ·cases h
 | .loc h0 o,v,xs,h,r=>by
  simp only[kV] at h
  split at h
  ·split at h
   ·rename_i hb
    simp only[ah] at hb
    cases h
    have e1:=ab hb.1
    have e2:=ab hb.2
    subst e1;subst e2
    exact⟨rfl,RW.refl _⟩
   ·cases h
  ·cases h
 | .aR f l,v,xs,h,r=>by
  simp only[kV] at h
  split at h
  ·rename_i f' vs
   split at h
   ·rename_i hb
    have e:=ab hb
    subst e
    obtain⟨i1,i2,i3⟩:=qZ ln h r
    obtain⟨j1,j2⟩:=Oi i2 i3
    exact⟨i1,RW.aR j1 j2⟩
   ·cases h
  ·cases h
 | .agg l,v,xs,h,r=>by
  simp only[kV] at h
  split at h
  ·rename_i vs
   obtain⟨i1,i2,i3⟩:=qZ ln h r
   obtain⟨j1,j2⟩:=Oi i2 i3
   exact⟨i1,RW.agg j1 j2⟩
  ·cases h
 | .cT h0,v,xs,h,r=>by
  simp only[kV] at h
  split at h
  ·split at h
   ·rename_i hb
    cases h
    have:=ab hb
    subst this
    exact⟨rfl,RW.refl _⟩
   ·cases h
  ·cases h
 | .mp h0,v,xs,h,r=>by
  simp only[kV] at h
  split at h
  ·split at h
   ·rename_i hb
    cases h
    have:=ab hb
    subst this
    exact⟨rfl,RW.refl _⟩
   ·cases h
  ·cases h
 | .any,v,xs,h,r=>by
  simp only[kV] at h
  cases h
  exact⟨rfl,RW.any _⟩
 | .mu,v,xs,h,r=>by
  simp only[kV] at h
  split at h
  ·cases h
   exact⟨rfl,RW.refl _⟩
  ·cases h
 | .sub h0 τ,v,xs,h,r=>by
  simp only[kV] at h
  split at h
  ·split at h
   ·rename_i hb
    split at h
    ·rename_i e _
     cases h
     subst e
     have:=ab hb
     subst this
     exact⟨rfl,RW.refl _⟩
    ·cases h
   ·cases h
  ·cases h
 | .ks h0 τ,v,xs,h,r=>by
  simp only[kV] at h
  split at h
  ·split at h
   ·rename_i hb
    split at h
    ·rename_i e _
     cases h
     subst e
     have:=ab hb
     subst this
     exact⟨rfl,RW.refl _⟩
    ·cases h
   ·cases h
  ·cases h
 | .bP h0 o,v,xs,h,r=>by
  simp only[kV] at h
  split at h
  ·cases h
   exact⟨rfl,RW.refl _⟩
  ·split at h
   ·rename_i hb
    rw[ah] at hb
    cases h
    have e1:=ab hb.1
    have e2:=ab hb.2
    subst e1;subst e2
    exact⟨rfl,RW.refl _⟩
   ·cases h
  ·split at h
   ·rename_i hb
    rw[ah] at hb
    cases h
    have e1:=ab hb.1
    have e2:=ab hb.2
    subst e1;subst e2
    exact⟨rfl,RW.refl _⟩
   ·cases h
  ·cases h
 | .gH h0 τ,v,xs,h,r=>by
  simp only[kV] at h
  split at h
  ·cases h
   exact⟨rfl,RW.refl _⟩
  ·split at h
   ·rename_i hb
    split at h
    ·rename_i e _
     cases h
     subst e
     have:=ab hb
     subst this
     exact⟨rfl,RW.refl _⟩
    ·cases h
   ·cases h
  ·split at h
   ·rename_i hb
    split at h
    ·rename_i e _
     cases h
     subst e
     have:=ab hb
     subst this
     exact⟨rfl,RW.refl _⟩
    ·cases h
   ·cases h
  ·cases h
theorem qZ (ln:Nat→Nat):∀{l:List Sh}{vs:List (TV S)}{xs:List (aY S.α)},qk l vs=some xs→∀(r:List (aY S.α)),(cw l (xs++r)).2=r∧(cw l (xs++r)).1.length=vs.length∧
  ∀(j:Nat) (v':TV S),(cw l (xs++r)).1[j]?=some v'→∃v,vs[j]?=some v∧RW (v.er ln) (v'.er ln)
 | [],[],xs,h,r=>by simp only[qk] at h;cases h;exact⟨rfl,rfl,fun j v' h=>by cases h⟩
 | sh::l,v::vs,xs,h,r=>by
  simp only[qk] at h
  split at h
  ·rename_i x1 h1
   split at h
   ·rename_i ys h2
    cases h
    rw[aL]
    obtain⟨e1,e2⟩:=zE ln h1 (ys++r)
    obtain⟨i1,i2,i3⟩:=qZ ln h2 r
    simp only[cw]
    rw[e1]
    refine⟨i1,by simp[i2],fun j v' hj=>?_⟩
    cases j with
    | zero=>cases hj;exact⟨v,rfl,e2⟩
    | succ j=>exact i3 j v' hj
   ·cases h
  ·cases h
 | [],_::_,_,h,_=>by simp[qk] at h
 | _::_,[],_,h,_=>by simp[qk] at h
end
def AF (fr:List (Nat×TV S)):List (Nat×Sh)→Option (List (aY S.α))
 | []=>some []
 | (d,sh)::r=>match bd fr d with
  | some v=>match kV sh v with
   | some xs=>match AF fr r with
    | some ys=>some (xs++ys)
    | none=>none
   | none=>none
  | none=>none
def bT:List (Nat×Sh)→List (aY S.α)→List (Nat×TV S)×List (aY S.α)
 | [],ls=>([],ls)
 | (d,sh)::r,ls=>((d,(gI sh ls).1)::(bT r (gI sh ls).2).1,(bT r (gI sh ls).2).2)
theorem vV {fr:List (Nat×TV S)}(ln:Nat→Nat):∀{l:List (Nat×Sh)}{xs:List (aY S.α)},AF fr l=some xs→∀(r:List (aY S.α)),(bT l (xs++r)).2=r∧
  ∀d v',bd (bT l (xs++r)).1 d=some v'→∃v,bd fr d=some v∧RW (v.er ln) (v'.er ln)
 | [],xs,h,r=>by cases h;exact⟨rfl,fun d v' h=>by cases h⟩
 | (d0,sh)::l,xs,h,r=>by
  simp only[AF] at h
  split at h
  ·rename_i v hv
   split at h
   ·rename_i x1 h1
    split at h
    ·rename_i ys h2
     cases h
     rw[aL]
     obtain⟨e1,e2⟩:=zE ln h1 (ys++r)
     obtain⟨i1,i2⟩:=vV ln h2 r
     simp only[bT]
     rw[e1]
     refine⟨i1,fun d v' hd=>?_⟩
     simp only[bd] at hd
     cases hb:Nat.beq d0 d with
     | true=>
      rw[hb] at hd
      cases hd
      have:=ab hb
      subst this
      exact⟨v,hv,e2⟩
     | false=>rw[hb] at hd;exact i2 d v' hd
    ·cases h
   ·cases h
  ·cases h
def HN:Ty→Bool
 | .list (.list t)=>t.gW
 | .map=>true
 | _=>false
def IJ (oh:Oh) (o:TO S):Option (List (aY S.α)):=
 match oh with
 | .arr e m f τ=>match o with
  | .arr e' m' f' τ' l=>match Nat.beq e' e&&((!m||m')&&(!f||(f'||τ'.gW))) with
   | true=>match iN (.list τ') (.list τ) l with
    | some l=>some [⟨.list τ,l⟩]
    | none=>none
   | false=>none
  | _=>none
 | .box e m cs=>match o with
  | .box e' m' vs=>match Nat.beq e' e&&(!m||m') with
   | true=>qk cs vs
   | false=>none
  | _=>none
 | .lp key lv cs=>match o with
  | .lp key' n vs=>match Nat.beq key' key with
   | true=>match lv with
    | true=>match qk cs vs with
     | some xs=>some (⟨.int .i64,n⟩::xs)
     | none=>none
    | false=>match decEq n 0 with
     | isTrue _=>qk cs vs
     | isFalse _=>none
   | false=>none
  | _=>none
 | .deep e m f dk τ=>match o with
  | .deep e' m' f' dk' τ' a=>match Nat.beq e' e&&((!m||m')&&(!f||(f'||HN τ'))) with
   | true=>match decEq dk' dk with
    | isTrue _=>match iN τ' τ a with
     | some a=>some [⟨τ,a⟩]
     | none=>none
    | isFalse _=>none
   | false=>none
  | _=>none
def lO (oh:Oh) (ls:List (aY S.α)):TO S×List (aY S.α):=
 match oh with
 | .arr e m f _=>match ls with
  | ⟨.list τ,l⟩::r=>(.arr e m f τ l,r)
  | r=>(.box e m [],r)
 | .box e m cs=>(.box e m (cw cs ls).1,(cw cs ls).2)
 | .lp key lv cs=>match lv with
  | true=>match ls with
   | ⟨.int _,n⟩::r=>(.lp key n (cw cs r).1,(cw cs r).2)
   | r=>(.box 0 false [],r)
  | false=>(.lp key 0 (cw cs ls).1,(cw cs ls).2)
 | .deep e m f dk _=>match ls with
  | x::r=>(.deep e m f dk x.τ x.a,r)
  | r=>(.box e m [],r)
theorem Jf {st st':List (Nat×aq)}{vs vs':List (TV S)}(ln ln':Nat→Nat) (hl:vs'.length=vs.length) (h:∀(j:Nat) (v':TV S),vs'[j]?=some v'→∃v,vs[j]?=some v∧CV st st' (v.er ln) (v'.er ln')):LV st st' (TV.er.go ln vs) (TV.er.go ln' vs'):=by
 rw[cS,cS]
 refine⟨by simp[hl],fun j g' hg'=>?_⟩
 rw[ak] at hg'
 obtain⟨v',h1,rfl⟩:=au.1 hg'
 obtain⟨v,h2,h3⟩:=h j v' h1
 exact⟨v.er ln,by rw[ak,h2];rfl,h3⟩
theorem DA {τ:Ty}(hs:τ.gW=true):∀(l:List (S.D τ)) (g:G),g∈List.flatMap (aP S τ) l→∃v,g=.val v
 | l,g,hg=>by
  obtain⟨a,_,hg⟩:=ob.1 hg
  cases τ with
  | int _=>exact⟨_,kI.1 hg⟩
  | bool=>exact⟨_,kI.1 hg⟩
  | str=>exact⟨_,kI.1 hg⟩
  | list _=>cases hs
  | st _=>cases hs
  | map=>cases hs
  | cQ=>cases hs
  | pt _=>cases hs
theorem G9 (dk:Dk) (e:TypeId){τ:Ty}(hs:HN τ=true) (a:S.D τ) (O O':Nat→Prop) (w:World) (b:Nat) (m:Mm) (h:(dk.dp e τ a).φ O w b m):(dk.dp e τ a).φ O' w b m:=by
 cases dk with
 | tH kty=>
  obtain⟨cs,h⟩:=h
  refine⟨cs,{len:=h.len,root:=h.root,inj:=h.inj,heap:=h.heap,size:=h.size,le:=h.le,max:=h.max,row:=fun i n gs hi=>?_}⟩
  obtain⟨u,x,h1,h2,h3⟩:=h.row i n gs hi
  refine⟨u,x,h1,h2,?_⟩
  cases x with
  | none=>exact h3
  | some ck=>
   obtain⟨cap,cs',q1,q2,q3,q4,q5,q6,q7,q8⟩:=h3
   refine⟨cap,cs',q1,q2,q3,q4,q5,q6,q7,fun j g hg=>?_⟩
   obtain⟨v,hv,hr⟩:=q8 j g hg
   refine⟨v,hv,?_⟩
   cases τ with
   | list t=>cases t with
    | list t=>
     have hi:(List.map (fun l=>(List.length l,List.flatMap (aP S t) l)) a)[i]?=some (n,gs):=hi
     rw[ak] at hi
     obtain⟨l,_,e⟩:=au.1 hi
     cases e
     obtain⟨u,rfl⟩:=DA (τ:=t) hs l g (aQ hg)
     cases hr
     exact .val _
    | _=>cases hs
   | map=>
    have hi:([]:List (Nat×List G))[i]?=some (n,gs):=hi
    simp at hi
   | _=>cases hs
 | rows kty ho=>
  obtain⟨cs,h⟩:=h
  have hno:(Ee τ a).2.2=[]:=by
   cases τ with
   | list t=>cases t with
    | list t=>rfl
    | _=>cases hs
   | map=>rfl
   | _=>cases hs
  refine⟨cs,{len:=h.len,root:=h.root,inj:=h.inj,heap:=h.heap,size:=h.size,le:=h.le,max:=h.max,row:=fun i n gs hi _=>?_,hole:=h.hole}⟩
  rw[hno] at hi
  cases hi
 | sm=>
  have h:CP Value.string (o8 τ a) O w b m:=h
  show CP Value.string (o8 τ a) O' w b m
  have hno:o8 τ a=[]:=by
   cases τ with
   | list t=>cases t with
    | list t=>rfl
    | _=>cases hs
   | map=>rfl
   | _=>cases hs
  rw[hno] at h⊢
  obtain⟨ms,cl,h1,h2,_⟩:=h.heap
  exact {sq:=h.sq,len:=h.len,nd:=h.nd,heap:=⟨ms,cl,h1,h2,fun i e x he=>by simp at he⟩}
 | map q kty tty=>
  have h:Ey q kty tty (mapOf τ a).n ((mapOf τ a).es.map (kS.me q)) (KF q (mapOf τ a).pd) O w b m:=h
  show Ey q kty tty (mapOf τ a).n ((mapOf τ a).es.map (kS.me q)) (KF q (mapOf τ a).pd) O' w b m
  have val:∀(l:List Int) (j:Nat) (g:G) (v:Value),(nU q l)[j]?=some g→bp O w g v→bp O' w g v:=by
   intro l j g v hg hr
   unfold nU at hg
   rw[ak] at hg
   obtain⟨x,_,rfl⟩:=au.1 hg
   cases hr
   exact .val _
  refine {len:=h.len,Hz:=h.Hz,sq:=h.sq,heap:=h.heap,root:=h.root,C0:=fun e he=>?_,inj:=h.inj,Hq:=fun sr x gs hp=>?_}
  ·obtain⟨c,cs,h1,h2,h3,h4⟩:=h.C0 e he
   refine⟨c,cs,h1,h2,h3,fun j p hp=>?_⟩
   obtain⟨u,h5,h6⟩:=h4 j p hp
   refine⟨u,h5,?_⟩
   obtain⟨e0,_,rfl⟩:=gq.1 he
   have hp:(e0.f.map fun p=>(p.1,nU q p.2))[j]?=some p:=hp
   rw[ak] at hp
   obtain⟨p0,_,rfl⟩:=au.1 hp
   refine h6.imp id fun ⟨h0,c',k',r1,cap,cs',q1,q2,q3,q4,q5,q6,q7,q8⟩=>⟨h0,c',k',r1,cap,cs',q1,q2,q3,q4,q5,q6,q7,fun j g hg=>?_⟩
   obtain⟨v,hv,hr⟩:=q8 j g hg
   exact⟨v,hv,val _ _ _ _ hg hr⟩
  ·obtain⟨h0,⟨c,k,cs,h1,h2,h3,h4,h5,h6⟩,h7⟩:=h.Hq sr x gs hp
   refine⟨h0,⟨c,k,cs,h1,h2,h3,h4,h5,fun i g hg=>?_⟩,h7⟩
   obtain⟨v,hv,hr⟩:=h6 i g hg
   refine⟨v,hv,?_⟩
   cases hd:(mapOf τ a).pd with
   | none=>rw[hd] at hp;cases hp
   | some p=>
    obtain⟨sr',x',l⟩:=p
    rw[hd] at hp
    cases hp
    exact val _ _ _ _ hg hr
theorem GG {a b:Bool}(h:(!a||b)=true) (ha:a=true):b=true:=by subst ha;simpa using h
theorem MB {st st':List (Nat×aq)}{oh:Oh}{o:TO S}{xs:List (aY S.α)}(h:IJ oh o=some xs) (ln:Nat→Nat) (r:List (aY S.α)):(lO oh (xs++r)).2=r∧(lO oh (xs++r)).1.len=o.len∧uR st st' (o.er ln) ((lO oh (xs++r)).1.er ln):=by
 unfold IJ at h
 split at h
 ·split at h
  ·split at h
   ·rename_i hc
    simp only[ah] at hc
    obtain⟨c1,c2,c3⟩:=hc
    split at h
    ·rename_i l' hl
     cases h
     obtain⟨e,hl⟩:=qC hl
     subst e
     cases hl
     have c1:=ab c1
     subst c1
     refine⟨rfl,rfl,rfl,GG c2,rfl,rfl,rfl,rfl,.inl ⟨rfl,rfl,fun hf=>?_⟩⟩
     have c4:=GG c3 hf
     rw[cf] at c4
     exact c4.imp id fun hs=>.inl ⟨rfl,DA hs _⟩
    ·cases h
   ·cases h
  ·cases h
 ·split at h
  ·split at h
   ·rename_i hc
    simp only[ah] at hc
    have c1:=ab hc.1
    have c2:=hc.2
    subst c1
    obtain⟨i1,i2,i3⟩:=qZ ln h r
    refine⟨i1,rfl,rfl,GG c2,rfl,rfl,rfl,?_,.inr ⟨rfl,?_⟩⟩
    ·show(TV.er.go ln _).length=(TV.er.go ln _).length
     rw[cS,cS,aU,aU,i2]
    ·exact(Jf ln ln i2 fun j v' hj=>let ⟨v,h1,h2⟩:=i3 j v' hj;⟨v,h1,CV.rw h2⟩).2
   ·cases h
  ·cases h
 ·split at h
  ·split at h
   ·rename_i hc
    have c1:=ab hc
    subst c1
    split at h
    ·split at h
     ·rename_i xs' hx
      cases h
      obtain⟨i1,i2,i3⟩:=qZ ln hx r
      refine⟨i1,rfl,rfl,id,rfl,rfl,rfl,?_,.inr ⟨rfl,?_⟩⟩
      ·show(TV.er.go ln _).length=(TV.er.go ln _).length
       rw[cS,cS,aU,aU]
       exact i2
      ·exact(Jf ln ln i2 fun j v' hj=>let ⟨v,h1,h2⟩:=i3 j v' hj;⟨v,h1,CV.rw h2⟩).2
     ·cases h
    ·split at h
     ·rename_i hn _
      subst hn
      obtain⟨i1,i2,i3⟩:=qZ ln h r
      refine⟨i1,rfl,rfl,id,rfl,rfl,rfl,?_,.inr ⟨rfl,?_⟩⟩
      ·show(TV.er.go ln _).length=(TV.er.go ln _).length
       rw[cS,cS,aU,aU,i2]
      ·exact(Jf ln ln i2 fun j v' hj=>let ⟨v,h1,h2⟩:=i3 j v' hj;⟨v,h1,CV.rw h2⟩).2
     ·cases h
   ·cases h
  ·cases h
 ·split at h
  ·rename_i e' m' f' dk' τ' a
   split at h
   ·rename_i hc
    simp only[ah] at hc
    obtain⟨c1,c2,c3⟩:=hc
    split at h
    ·rename_i e1 _
     subst e1
     split at h
     ·rename_i a' ha
      cases h
      cases dW ha
      have c1:=ab c1
      subst c1
      refine⟨rfl,rfl,rfl,GG c2,rfl,rfl,rfl,rfl,.inl ⟨rfl,rfl,fun hf=>?_⟩⟩
      have c4:=GG c3 hf
      rw[cf] at c4
      exact c4.imp id fun hs=>.inr ⟨_,rfl,fun O O' w b m=>G9 _ _ hs _ O O' w b m⟩
     ·cases h
    ·cases h
   ·cases h
  ·cases h
def vT (st:List (Nat×TO S)):List (Nat×Oh)→Option (List (aY S.α))
 | []=>some []
 | (h,oh)::r=>match aA st h with
  | some o=>match IJ oh o with
   | some xs=>match vT st r with
    | some ys=>some (xs++ys)
    | none=>none
   | none=>none
  | none=>none
def bS:List (Nat×Oh)→List (aY S.α)→List (Nat×TO S)×List (aY S.α)
 | [],ls=>([],ls)
 | (h,oh)::r,ls=>((h,(lO oh ls).1)::(bS r (lO oh ls).2).1,(bS r (lO oh ls).2).2)
theorem zF {st:List (Nat×TO S)}(ln:Nat→Nat) (gst gst':List (Nat×aq)):∀{l:List (Nat×Oh)}{xs:List (aY S.α)},vT st l=some xs→∀(r:List (aY S.α)),(bS l (xs++r)).2=r∧
  (∀h,(∃o',aA (bS l (xs++r)).1 h=some o')∨(aA (bS l (xs++r)).1 h=none∧h∉l.map (·.1)))∧
  ∀h o',aA (bS l (xs++r)).1 h=some o'→∃o,aA st h=some o∧o'.len=o.len∧uR gst gst' (o.er ln) (o'.er ln)
 | [],xs,h,r=>by
  cases h
  refine⟨rfl,fun h=>.inr (And.intro rfl (fun e=>nomatch e)),fun d v' h=>nomatch h⟩
 | (h0,oh)::l,xs,h,r=>by
  simp only[vT] at h
  split at h
  ·rename_i o ho
   split at h
   ·rename_i x1 h1
    split at h
    ·rename_i ys h2
     cases h
     rw[aL]
     obtain⟨e1,e2,e3⟩:=MB (st:=gst) (st':=gst') h1 ln (ys++r)
     obtain⟨i1,i2,i3⟩:=zF ln gst gst' h2 r
     simp only[bS]
     rw[e1]
     refine⟨i1,fun h=>?_,fun h o' hd=>?_⟩
     ·simp only[aA]
      cases hb:Nat.beq h0 h with
      | true=>exact .inl ⟨_,rfl⟩
      | false=>
       rcases i2 h with h3 | ⟨h3,h4⟩
       ·exact .inl h3
       ·refine .inr ⟨h3,?_⟩
        simp only[az,bU,not_or]
        exact⟨fun e=>(by subst e;rw[aK] at hb;cases hb),h4⟩
     ·simp only[aA] at hd
      cases hb:Nat.beq h0 h with
      | true=>
       rw[hb] at hd
       cases hd
       have:=ab hb
       subst this
       exact⟨o,ho,e2,e3⟩
      | false=>rw[hb] at hd;exact i3 h o' hd
    ·cases h
   ·cases h
  ·cases h
end
end Go.DN
/-
 DN,part P:into a loop or a join,and out of it.
-/
namespace Go.DN
open Go.AM
section
variable {S:dr}
def TV.bad (ks:List Nat):TV S→Bool
 | .aM h _=>!(bo h ks)
 | .agg l=>go ks l
 | .aT l=>go ks l
 | .aR _ l=>go ks l
 | _=>false
where go (ks:List Nat):List (TV S)→Bool
 | []=>false
 | x::r=>x.bad ks||go ks r
mutual
theorem lW {ln ln':Nat→Nat}{ks:List Nat}(h:∀k,k∈ks→ln k=ln' k):∀v:TV S,v.bad ks=false→v.er ln=v.er ln'
 | .ae f τ a,_=>rfl
 | .ptr f τ a,_=>rfl
 | .agg l,e=>congrArg G.agg (pu h l e)
 | .aT l,e=>congrArg G.aT (pu h l e)
 | .aR f l,e=>congrArg (G.aR f) (pu h l e)
 | .loc _ _,_=>rfl
 | .ia _ _ _ _,_=>rfl
 | .aM k τ,e=>congrArg (G.aM k (S.sz τ) 0) (h k (bJ.1 (by simpa[TV.bad] using e)))
 | .sub _ _ _ _,_=>rfl
 | .cT _,_=>rfl
 | .mp _,_=>rfl
 | .ks _ _ _ _,_=>rfl
 | .kp _ _ _ _,_=>rfl
 | .gH _ _ _ _ _,_=>rfl
 | .bP _ _ _,_=>rfl
 | .val _,_=>rfl
 | .any,_=>rfl
theorem pu {ln ln':Nat→Nat}{ks:List Nat}(h:∀k,k∈ks→ln k=ln' k):∀l:List (TV S),TV.bad.go ks l=false→TV.er.go ln l=TV.er.go ln' l
 | [],_=>rfl
 | x::r,e=>by
  simp only[TV.bad.go,bO] at e
  simp only[TV.er.go]
  rw[lW h x e.1,pu h r e.2]
end
def TO.bad (ks:List Nat):TO S→Bool
 | .box _ _ cs=>TV.bad.go ks cs
 | .arr ..=>false
 | .lp _ _ cs=>TV.bad.go ks cs
 | .deep ..=>false
theorem TO.lW {ln ln':Nat→Nat}{ks:List Nat}(h:∀k,k∈ks→ln k=ln' k) (o:TO S) (e:o.bad ks=false):o.er ln=o.er ln':=by
 cases o with
 | box e' m cs=>simp only[TO.er];rw[pu h cs e]
 | arr e' m f τ l=>rfl
 | lp p n cs=>simp only[TO.er];rw[pu h cs e]
 | deep=>rfl
def bL {α:Type}(D:List Nat):List (Nat×α)→List (Nat×α)
 | []=>[]
 | x::r=>match bo x.1 D with
  | true=>bL D r
  | false=>x::bL D r
theorem km {D:List Nat}:∀{fr:List (Nat×TV S)}{d:Nat},bd (bL D fr) d=match bo d D with | true=>none | false=>bd fr d
 | [],d=>by simp only[bL,bd];cases bo d D <;> rfl
 | (t,v)::r,d=>by
  simp only[bL]
  cases hb:Nat.beq t d with
  | true=>
   have:=ab hb
   subst this
   cases hm:bo t D with
   | true=>simp only;rw[km,hm]
   | false=>simp only[bd,hb,cond_true]
  | false=>
   cases hm:bo t D with
   | true=>simp only;rw[km];simp only[bd,hb,cond_false]
   | false=>simp only[bd,hb,cond_false];exact km
theorem jH {D:List Nat}:∀{st:List (Nat×TO S)}{d:Nat},aA (bL D st) d=match bo d D with | true=>none | false=>aA st d
 | [],d=>by simp only[bL,aA];cases bo d D <;> rfl
 | (t,v)::r,d=>by
  simp only[bL]
  cases hb:Nat.beq t d with
  | true=>
   have:=ab hb
   subst this
   cases hm:bo t D with
   | true=>simp only;rw[jH,hm]
   | false=>simp only[aA,hb,cond_true]
  | false=>
   cases hm:bo t D with
   | true=>simp only;rw[jH];simp only[aA,hb,cond_false]
   | false=>simp only[aA,hb,cond_false];exact jH
mutual
def Sh.owns:Sh→List Nat
 | .ae _ _=>[]
 | .ptr _ _=>[]
 | .own h _=>[h]
 | .loc _ _=>[]
 | .aR _ l=>rN l
 | .agg l=>rN l
 | .cT _=>[]
 | .mp _=>[]
 | .any=>[]
 | .mu=>[]
 | .sub _ _=>[]
 | .gH _ _=>[]
 | .bP _ _=>[]
 | .ks _ _=>[]
def rN:List Sh→List Nat
 | []=>[]
 | x::r=>x.owns++rN r
end
def nL:List (Nat×Sh)→List Nat
 | []=>[]
 | (_,x)::r=>x.owns++nL r
def Oh.owns:Oh→List Nat
 | .arr ..=>[]
 | .box _ _ cs=>rN cs
 | .lp _ _ cs=>rN cs
 | .deep ..=>[]
def pJ:List (Nat×Oh)→List Nat
 | []=>[]
 | (_,x)::r=>x.owns++pJ r
mutual
theorem wB (ks:List Nat):∀(sh:Sh) (ls:List (aY S.α)),(∀k,k∈sh.owns→k∈ks)→(gI sh ls).1.bad ks=false
 | .ae f τ,ls,_=>by cases ls <;> rfl
 | .ptr f τ,ls,_=>by cases ls <;> rfl
 | .own k τ,ls,h=>by
  show(!(bo k ks))=false
  rw[bJ.2 (h k (by simp[Sh.owns]))];rfl
 | .loc _ _,ls,_=>rfl
 | .aR f l,ls,h=>oq ks l ls h
 | .agg l,ls,h=>oq ks l ls h
 | .cT _,ls,_=>rfl
 | .mp _,ls,_=>rfl
 | .any,ls,_=>rfl
 | .bP _ _,ls,_=>by
  simp only[gI]
  split <;> rfl
 | .mu,ls,_=>by
  simp only[gI]
  split <;> rfl
 | .sub _ _,ls,_=>by
  simp only[gI]
  split <;> rfl
 | .ks _ _,ls,_=>by
  simp only[gI]
  split <;> rfl
 | .gH _ _,ls,_=>by
  simp only[gI]
  split <;> rfl
theorem oq (ks:List Nat):∀(l:List Sh) (ls:List (aY S.α)),(∀k,k∈rN l→k∈ks)→TV.bad.go ks (cw l ls).1=false
 | [],_,_=>rfl
 | sh::r,ls,hk=>by
  simp only[cw,TV.bad.go,wB ks sh ls fun k hk'=>hk k (by simp[rN,hk']),oq ks r _ fun k hk'=>hk k (by simp[rN,hk']),Bool.or_self]
end
theorem Bh (ks:List Nat):∀(l:List (Nat×Sh)) (ls:List (aY S.α)),(∀k,k∈nL l→k∈ks)→∀d v,bd (bT l ls).1 d=some v→v.bad ks=false
 | [],ls,_,d,v,h=>by cases h
 | (d0,sh)::r,ls,hk,d,v,h=>by
  simp only[bT,bd] at h
  cases hb:Nat.beq d0 d with
  | true=>rw[hb] at h;cases h;exact wB ks sh ls fun k hk'=>hk k (by simp[nL,hk'])
  | false=>rw[hb] at h;exact Bh ks r _ (fun k hk'=>hk k (by simp[nL,hk'])) d v h
theorem Jp (ks:List Nat) (oh:Oh) (ls:List (aY S.α)) (h:∀k,k∈oh.owns→k∈ks):(lO oh ls).1.bad ks=false:=by
 cases oh with
 | arr e m f τ=>
  unfold lO
  dsimp only
  split <;> rfl
 | box e m cs=>exact oq ks cs ls h
 | lp key lv cs=>
  unfold lO
  dsimp only
  split
  ·split
   ·exact oq ks cs _ h
   ·rfl
  ·exact oq ks cs ls h
 | deep e m f dk τ=>
  unfold lO
  dsimp only
  split <;> rfl
theorem sM (ks:List Nat):∀(l:List (Nat×Oh)) (ls:List (aY S.α)),(∀k,k∈pJ l→k∈ks)→∀h o,aA (bS l ls).1 h=some o→o.bad ks=false
 | [],ls,_,d,v,h=>by cases h
 | (d0,oh)::r,ls,hk,d,v,h=>by
  simp only[bS,aA] at h
  cases hb:Nat.beq d0 d with
  | true=>rw[hb] at h;cases h;exact Jp ks oh ls fun k hk'=>hk k (by simp[pJ,hk'])
  | false=>rw[hb] at h;exact sM ks r _ (fun k hk'=>hk k (by simp[pJ,hk'])) d v h
theorem told {t u:ag S}{aj:List (Nat×Sh)}{aI:List (Nat×Oh)}{xs ys:List (aY S.α)}{F':List (Nat×TV S)}{O':List (Nat×TO S)}{ks:List Nat}
  (hp:AF t.bN aj=some xs) (hq:vT t.a7 aI=some ys) (hf:u.bN=(bT aj (xs++ys)).1++F') (ho:u.a7=(bS aI ys).1++O')
  (hF:∀d v,bd F' d=some v→bd t.bN d=some v∧v.bad ks=false) (hO:∀h o,aA O' h=some o→aA t.a7 h=some o∧o.bad ks=false)
  (hk:∀k,k∈ks→t.ln k=u.ln k) (h1:∀k,k∈nL aj→k∈ks) (h2:∀k,k∈pJ aI→k∈ks) (hdf:u.df=t.df) (hdg:TV.bad.go ks t.df=false):Gh t.er u.er:=by
 obtain⟨p1,p2⟩:=vV t.ln hp ys
 obtain⟨q1,_,q2⟩:=zF t.ln t.er.st u.er.st hq []
 rw[cH] at q2
 refine Gh.typed (fun d v' hv'=>?_) (fun h o' ho'=>?_) ?_
 ·rw[hf,pg] at hv'
  split at hv'
  ·rename_i v1 e
   cases hv'
   obtain⟨v,e1,e2⟩:=p2 d _ e
   refine⟨v,e1,CV.rw ?_⟩
   rw[←lW hk _ (Bh ks aj _ h1 d _ e)]
   exact e2
  ·obtain⟨e1,e2⟩:=hF d v' hv'
   refine⟨v',e1,?_⟩
   rw[lW hk v' e2]
   exact CV.refl _ _ _
 ·rw[ho,eo] at ho'
  split at ho'
  ·rename_i v1 e
   cases ho'
   obtain⟨o,e1,e2,e3⟩:=q2 h _ e
   refine⟨o,e1,?_⟩
   rw[←TO.lW hk _ (sM ks aI _ h2 h _ e)]
   exact e3
  ·obtain⟨e1,e2⟩:=hO h o' ho'
   refine⟨o',e1,?_⟩
   rw[TO.lW hk o' e2]
   exact uR.refl _ _ _
 ·rw[hdf]
  exact pu hk _ hdg
def ry (ks:List Nat):List (Nat×TV S)→List Nat
 | []=>[]
 | (t,v)::r=>match v.bad ks with
  | true=>t::ry ks r
  | false=>ry ks r
def ru (ks:List Nat):List (Nat×TO S)→List Nat
 | []=>[]
 | (t,o)::r=>match o.bad ks with
  | true=>t::ru ks r
  | false=>ru ks r
def stay (H:List Nat):List (Nat×TO S)→List Nat
 | []=>[]
 | (t,o)::r=>match o with
  | .arr ..=>match bo t H with
   | true=>stay H r
   | false=>t::stay H r
  | .deep ..=>match bo t H with
   | true=>stay H r
   | false=>t::stay H r
  | _=>stay H r
theorem wV {ks:List Nat}:∀{fr:List (Nat×TV S)}{d:Nat}{v:TV S},bd fr d=some v→bo d (ry ks fr)=false→v.bad ks=false
 | [],_,_,h,_=>by cases h
 | (t,v')::r,d,v,h,hm=>by
  simp only[bd] at h
  simp only[ry] at hm
  cases hb:v'.bad ks with
  | true=>
   rw[hb] at hm
   simp only[bo] at hm
   cases ht:Nat.beq t d with
   | true=>rw[ht] at hm;cases hm
   | false=>rw[ht] at hm h;exact wV h hm
  | false=>
   rw[hb] at hm
   cases ht:Nat.beq t d with
   | true=>rw[ht] at h;cases h;exact hb
   | false=>rw[ht] at h;exact wV h hm
theorem wU {ks:List Nat}:∀{st:List (Nat×TO S)}{d:Nat}{o:TO S},aA st d=some o→bo d (ru ks st)=false→o.bad ks=false
 | [],_,_,h,_=>by cases h
 | (t,v')::r,d,v,h,hm=>by
  simp only[aA] at h
  simp only[ru] at hm
  cases hb:v'.bad ks with
  | true=>
   rw[hb] at hm
   simp only[bo] at hm
   cases ht:Nat.beq t d with
   | true=>rw[ht] at hm;cases hm
   | false=>rw[ht] at hm h;exact wU h hm
  | false=>
   rw[hb] at hm
   cases ht:Nat.beq t d with
   | true=>rw[ht] at h;cases h;exact hb
   | false=>rw[ht] at h;exact wU h hm
end
end Go.DN
/-
 DN,part Q:states taken apart and put together again.
-/
namespace Go.DN
open Go.AM
section
variable {S:dr}
theorem yj {ks ks':List Nat}(h:∀k,k∈ks→k∈ks'):∀v:TV S,v.bad ks=false→v.bad ks'=false:=by
 intro v
 exact TV.rec (motive_1:=fun v=>v.bad ks=false→v.bad ks'=false) (motive_2:=fun l=>TV.bad.go ks l=false→TV.bad.go ks' l=false)
  (fun _ _ _ _=>rfl) (fun _ _ _ _=>rfl) (fun l ih e=>ih e) (fun l ih e=>ih e) (fun _ _ _=>rfl) (fun _ _ _ _ _=>rfl)
  (fun k τ e=>by
   have:bo k ks=true:=by simpa[TV.bad] using e
   show(!(bo k ks'))=false
   rw[bJ.2 (h k (bJ.1 this))];rfl)
  (fun _ _ _ _ _=>rfl) (fun _ l ih e=>ih e) (fun _ _=>rfl) (fun _ _=>rfl) (fun _ _ _ _ _=>rfl) (fun _ _ _ _ _=>rfl) (fun _ _ _ _ _ _=>rfl) (fun _ _ _ _=>rfl) (fun _ _=>rfl) (fun _=>rfl) (fun _=>rfl)
  (fun x r i1 i2 e=>by
   simp only[TV.bad.go,bO] at e⊢
   exact⟨i1 e.1,i2 e.2⟩) v
theorem sd {ks ks':List Nat}(h:∀k,k∈ks→k∈ks'):∀l:List (TV S),TV.bad.go ks l=false→TV.bad.go ks' l=false
 | [],_=>rfl
 | x::r,e=>by
  simp only[TV.bad.go,bO] at e⊢
  exact⟨yj h x e.1,sd h r e.2⟩
theorem DU {ks ks':List Nat}(h:∀k,k∈ks→k∈ks') (o:TO S) (e:o.bad ks=false):o.bad ks'=false:=by
 cases o with
 | box e' m cs=>exact sd h cs e
 | arr=>rfl
 | lp p n cs=>exact sd h cs e
 | deep=>rfl
def aH {α:Type}:List (Nat×α)→List Nat
 | []=>[]
 | x::r=>x.1::aH r
def apart (a b:List Nat):Bool:=match a with
 | []=>true
 | x::r=>match bo x b with
  | true=>false
  | false=>apart r b
theorem apart_spec {b:List Nat}:∀{a:List Nat},apart a b=true→∀x,x∈a→x∉b
 | [],_,x,h=>by cases h
 | y::r,h,x,hx=>by
  simp only[apart] at h
  cases hm:bo y b with
  | true=>rw[hm] at h;cases h
  | false=>
   rw[hm] at h
   rcases bU.1 hx with e | hx
   ·subst e;intro hb;rw[bJ.2 hb] at hm;cases hm
   ·exact apart_spec h x hx
def within (a b:List Nat):Bool:=match a with
 | []=>true
 | x::r=>match bo x b with
  | true=>within r b
  | false=>false
theorem mU {b:List Nat}:∀{a:List Nat},within a b=true→∀x,x∈a→x∈b
 | [],_,x,h=>by cases h
 | y::r,h,x,hx=>by
  simp only[within] at h
  cases hm:bo y b with
  | false=>rw[hm] at h;cases h
  | true=>
   rw[hm] at h
   rcases bU.1 hx with e | hx
   ·subst e;exact bJ.1 hm
   ·exact mU h x hx
theorem xq:∀{fr:List (Nat×TV S)}{d:Nat}{v:TV S},bd fr d=some v→d∈aH fr
 | [],_,_,h=>by cases h
 | (t,v')::r,d,v,h=>by
  simp only[bd] at h
  cases hb:Nat.beq t d with
  | true=>have:=ab hb;subst this;exact aC
  | false=>rw[hb] at h;exact aw _ (xq h)
theorem rS:∀{st:List (Nat×TO S)}{d:Nat}{o:TO S},aA st d=some o→d∈aH st
 | [],_,_,h=>by cases h
 | (t,v')::r,d,v,h=>by
  simp only[aA] at h
  cases hb:Nat.beq t d with
  | true=>have:=ab hb;subst this;exact aC
  | false=>rw[hb] at h;exact aw _ (rS h)
theorem EN {fr:List (Nat×TV S)}{d:Nat}(h:d∉aH fr):bd fr d=none:=by
 cases e:bd fr d with
 | none=>rfl
 | some v=>exact absurd (xq e) h
theorem qn {st:List (Nat×TO S)}{d:Nat}(h:d∉aH st):aA st d=none:=by
 cases e:aA st d with
 | none=>rfl
 | some v=>exact absurd (rS e) h
theorem nO:∀{st:List (Nat×TO S)}{k:Nat},k∈aH st→∃o,aA st k=some o
 | [],_,h=>by cases h
 | (y,g)::r,k,h=>by
  simp only[aA]
  cases hb:Nat.beq y k with
  | true=>exact⟨g,rfl⟩
  | false=>
   rcases bU.1 h with e2 | h2
   ·subst e2;rw[aK] at hb;cases hb
   ·exact nO h2
theorem ku:∀(l:List (Nat×Oh)) (ls:List (aY S.α)),aH (bS l ls).1=aH l
 | [],_=>rfl
 | (d,sh)::r,ls=>by simp only[bS,aH,ku r]
structure Cut where
 D:List Nat
 DO:List Nat
 ks:List Nat
def dV (s:ag S) (A H B:List Nat):Cut:=
 {D:=A++(B++ry (stay H s.a7) s.bN),DO:=H++ru (stay H s.a7) s.a7,ks:=stay H s.a7}
def JA (s:ag S) (c:Cut):Bool:=
 apart c.ks c.DO&&(!(TV.bad.go c.ks s.df)&&(apart (aH s.lo) c.D&&apart (aH s.bF) c.DO))
theorem EW {H:List Nat}:∀{st:List (Nat×TO S)}{k:Nat},k∈stay H st→k∉H∧k∈aH st
 | [],_,h=>by cases h
 | (t,o)::r,k,h=>by
  have key:k∈stay H r→k∉H∧k∈aH ((t,o)::r):=fun h=>let ⟨h1,h2⟩:=EW h;⟨h1,aw _ h2⟩
  cases o with
  | arr e m f τ l=>
   simp only[stay] at h
   cases hm:bo t H with
   | true=>rw[hm] at h;exact key h
   | false=>
    rw[hm] at h
    rcases bU.1 h with e | h
    ·subst e
     exact⟨fun hh=>(by rw[bJ.2 hh] at hm;cases hm),aC⟩
    ·exact key h
  | deep e m f dk τ l=>
   simp only[stay] at h
   cases hm:bo t H with
   | true=>rw[hm] at h;exact key h
   | false=>
    rw[hm] at h
    rcases bU.1 h with e | h
    ·subst e
     exact⟨fun hh=>(by rw[bJ.2 hh] at hm;cases hm),aC⟩
    ·exact key h
  | _=>exact key h
def o9 {α:Type}(D:List Nat):List (Nat×α)→List (Nat×α)
 | []=>[]
 | x::r=>match bo x.1 D with
  | true=>x::o9 D r
  | false=>o9 D r
theorem sA {D:List Nat}:∀{fr:List (Nat×TV S)}{d:Nat},bd (o9 D fr) d=match bo d D with | true=>bd fr d | false=>none
 | [],d=>by simp only[o9,bd];cases bo d D <;> rfl
 | (t,v)::r,d=>by
  simp only[o9]
  cases hb:Nat.beq t d with
  | true=>
   have:=ab hb
   subst this
   cases hm:bo t D with
   | true=>simp only[bd,hb,cond_true]
   | false=>simp only;rw[sA,hm]
  | false=>
   cases hm:bo t D with
   | true=>simp only[bd,hb,cond_false];exact sA
   | false=>simp only;rw[sA];simp only[bd,hb,cond_false]
theorem sF {D:List Nat}:∀{fr:List (Nat×TO S)}{d:Nat},aA (o9 D fr) d=match bo d D with | true=>aA fr d | false=>none
 | [],d=>by simp only[o9,aA];cases bo d D <;> rfl
 | (t,v)::r,d=>by
  simp only[o9]
  cases hb:Nat.beq t d with
  | true=>
   have:=ab hb
   subst this
   cases hm:bo t D with
   | true=>simp only[aA,hb,cond_true]
   | false=>simp only;rw[sF,hm]
  | false=>
   cases hm:bo t D with
   | true=>simp only[aA,hb,cond_false];exact sF
   | false=>simp only;rw[sF];simp only[aA,hb,cond_false]
def wJ (s:ag S) (c:Cut):ag S:={fr:=o9 c.D s.bN,lo:=bL c.D s.bN,st:=o9 c.DO s.a7,bF:=bL c.DO s.a7,df:=s.df,nx:=s.nx,last:=s.last}
theorem B4 {s t:ag S}(h1:∀d,bd t.bN d=bd s.bN d) (h2:∀d,aA t.a7 d=aA s.a7 d) (h3:t.df=s.df):Gh s.er t.er:=by
 have hln:t.ln=s.ln:=by
  funext k
  show bG t.a7 k=bG s.a7 k
  unfold bG
  rw[h2]
 refine Gh.typed (fun d v' hv'=>⟨v',by rw[←h1];exact hv',?_⟩) (fun h o' ho'=>⟨o',by rw[←h2];exact ho',?_⟩) (by rw[h3,hln])
 ·rw[hln];exact CV.refl _ _ _
 ·rw[hln];exact uR.refl _ _ _
theorem C8 {s t:ag S}(h1:∀d,bd t.bN d=bd s.bN d) (h2:∀d,aA t.a7 d=aA s.a7 d) (h3:t.last=s.last) (hl:aJ s):aJ t:=by
 intro d h x hm
 rw[h3] at hm
 obtain⟨i,bs,m,f,τ,l,a,e1,e2,e3⟩:=hl d h x hm
 exact⟨i,bs,m,f,τ,l,a,by rw[h1];exact e1,by rw[h2];exact e2,e3⟩
theorem wI (s:ag S) (c:Cut):∀d,bd (wJ s c).bN d=bd s.bN d:=by
 intro d
 show bd (o9 c.D s.bN++bL c.D s.bN) d=_
 rw[pg,sA,km]
 cases bo d c.D with
 | true=>dsimp only;cases bd s.bN d <;> rfl
 | false=>rfl
theorem Gn (s:ag S) (c:Cut):∀d,aA (wJ s c).a7 d=aA s.a7 d:=by
 intro d
 show aA (o9 c.DO s.a7++bL c.DO s.a7) d=_
 rw[eo,sF,jH]
 cases bo d c.DO with
 | true=>dsimp only;cases aA s.a7 d <;> rfl
 | false=>rfl
theorem Gp (s:ag S) (c:Cut) (hl:aJ s):Gh s.er (wJ s c).er∧aJ (wJ s c):=
 ⟨B4 (wI s c) (Gn s c) rfl,C8 (wI s c) (Gn s c) rfl hl⟩
def flat (s:ag S) (c:Cut) (t:ag S):ag S:={fr:=t.fr++bL c.D s.fr,lo:=s.lo,st:=t.st++bL c.DO s.st,bF:=s.bF,df:=s.df,nx:=t.nx,last:=t.last}
theorem zZ {α:Type}{D:List Nat}:∀{l:List (Nat×α)},apart (aH l) D=true→bL D l=l
 | [],_=>rfl
 | x::r,h=>by
  simp only[aH,apart] at h
  simp only[bL]
  cases hm:bo x.1 D with
  | true=>rw[hm] at h;cases h
  | false=>rw[hm] at h;dsimp only;rw[zZ h]
theorem ya {α:Type}{D:List Nat}:∀(l l':List (Nat×α)),bL D (l++l')=bL D l++bL D l'
 | [],_=>rfl
 | x::r,l'=>by
  simp only[ca,bL]
  cases bo x.1 D <;> simp[ya r l']
structure sT (s:ag S) (c:Cut):Prop where
 ks:∀k,k∈c.ks→k∉c.DO
 df:TV.bad.go c.ks s.df=false
 lo:bL c.D s.bN=bL c.D s.fr++s.lo
 bF:bL c.DO s.a7=bL c.DO s.st++s.bF
theorem Jz {s:ag S}{c:Cut}(h:JA s c=true):sT s c:=by
 unfold JA at h
 simp only[ah,aZ] at h
 obtain⟨h1,h2,h3,h4⟩:=h
 exact⟨apart_spec h1,h2,by unfold ag.bN;rw[ya,zZ h3],by unfold ag.a7;rw[ya,zZ h4]⟩
theorem HK {s t:ag S}{c:Cut}(hc:sT s c) (h1:t.lo=bL c.D s.bN) (h2:t.bF=bL c.DO s.a7) (h3:t.df=s.df) (hl:aJ t):Gh t.er (flat s c t).er∧aJ (flat s c t)∧bj s (flat s c t):=by
 have e1:(flat s c t).bN=t.bN:=by
  show(t.fr++bL c.D s.fr)++s.lo=t.fr++t.lo
  rw[h1,hc.lo,aL]
 have e2:(flat s c t).a7=t.a7:=by
  show(t.st++bL c.DO s.st)++s.bF=t.st++t.bF
  rw[h2,hc.bF,aL]
 exact⟨B4 (fun d=>by rw[e1]) (fun d=>by rw[e2]) h3.symm,C8 (s:=t) (t:=flat s c t) (fun d=>by rw[e1]) (fun d=>by rw[e2]) rfl hl,⟨rfl,rfl,rfl⟩⟩
def vU (s:ag S) (j:JH):Option (List (aY S.α)):=
 match AF s.bN j.aj with
 | some xs=>match vT s.a7 j.aI with
  | some ys=>some (xs++ys)
  | none=>none
 | none=>none
def uY:List Nat→Nat→Nat
 | [],n=>n
 | x::r,n=>uY r (bif Nat.ble n x&&Nat.blt x 500 then x+1 else n)
def ly (s:ag S) (c:Cut) (j:JH) (ls:List (aY S.α)):ag S:=
 {fr:=(bT j.aj ls).1,lo:=bL c.D s.bN,st:=(bS j.aI (bT j.aj ls).2).1,bF:=bL c.DO s.a7,df:=s.df,nx:=uY (aH j.aI) s.nx,last:=[]}
def ra (s:ag S) (c:Cut) (j:JH) (ls:List (aY S.α)):ag S:=
 {fr:=(bT j.aj ls).1++bL c.D s.fr,lo:=s.lo,st:=(bS j.aI (bT j.aj ls).2).1++bL c.DO s.st,bF:=s.bF,df:=s.df,nx:=uY (aH j.aI) s.nx,last:=[]}
def yZ (c:Cut) (j:JH):Bool:=within (nL j.aj++pJ j.aI) (c.ks++aH j.aI)&&apart c.ks (aH j.aI)
def GJ (t:ag S):Bool:=apart (aH t.fr) (aH t.lo)&&apart (aH t.st) (aH t.bF)
theorem OV {s:ag S}{c:Cut}(hc:sT s c) (j:JH) (ls:List (aY S.α)):(ra s c j ls).bN=(ly s c j ls).bN:=by
 show((bT j.aj ls).1++bL c.D s.fr)++s.lo=(bT j.aj ls).1++bL c.D s.bN
 rw[hc.lo,aL]
theorem OU {s:ag S}{c:Cut}(hc:sT s c) (j:JH) (ls:List (aY S.α)):(ra s c j ls).a7=(ly s c j ls).a7:=by
 show((bS j.aI (bT j.aj ls).2).1++bL c.DO s.st)++s.bF=(bS j.aI (bT j.aj ls).2).1++bL c.DO s.a7
 rw[hc.bF,aL]
theorem xD {st:List (Nat×TO S)}{l:List (Nat×Oh)}{ys:List (aY S.α)}(h:vT st l=some ys) (k:Nat) (hk:k∈aH l):∃o o',aA (bS l ys).1 k=some o'∧aA st k=some o∧o'.len=o.len:=by
 obtain⟨_,_,q⟩:=zF (fun _=>0) [] [] h []
 rw[cH] at q
 obtain⟨o',e⟩:=nO (st:=(bS l ys).1) (k:=k) (by rw[ku];exact hk)
 obtain⟨o,h1,h2,_⟩:=q k o' e
 exact⟨o,o',e,h1,h2⟩
theorem HG {s:ag S}{c:Cut}{A H B:List Nat}{j:JH}{ls:List (aY S.α)}(hcc:c=dV s A H B) (hc:sT s c) (hj:yZ c j=true) (hp:vU s j=some ls):Gh s.er (ly s c j ls).er:=by
 unfold vU at hp
 split at hp
 ·rename_i xs hx
  split at hp
  ·rename_i ys hy
   cases hp
   obtain⟨p1,_⟩:=vV s.ln hx ys
   unfold yZ at hj
   simp only[ah] at hj
   obtain⟨j1,j2⟩:=hj
   have j1:=mU j1
   have j2:=apart_spec j2
   have hks:∀k,k∈c.ks++aH j.aI→s.ln k=(ly s c j (xs++ys)).ln k:=by
    intro k hk
    show bG s.a7 k=bG (ly s c j (xs++ys)).a7 k
    have est:(ly s c j (xs++ys)).a7=(bS j.aI ys).1++bL c.DO s.a7:=by
     show(bS j.aI (bT j.aj (xs++ys)).2).1++bL c.DO s.a7=_
     rw[p1]
    rw[est]
    unfold bG
    rw[eo]
    rcases mF.1 hk with hk | hk
    ·have:aA (bS j.aI ys).1 k=none:=qn (by rw[ku];exact j2 k hk)
     rw[this]
     dsimp only
     rw[jH]
     have:bo k c.DO=false:=by
      cases hm:bo k c.DO with
      | false=>rfl
      | true=>exact absurd (bJ.1 hm) (hc.ks k hk)
     rw[this]
    ·obtain⟨o,o',e1,e2,e3⟩:=xD hy k hk
     rw[e1,e2]
     exact e3.symm
   refine told (u:=ly s c j (xs++ys)) (F':=bL c.D s.bN) (O':=bL c.DO s.a7) hx hy rfl ?_ (fun d v hv=>?_) (fun h o ho=>?_) hks (fun k hk=>j1 k (cy _ hk)) (fun k hk=>j1 k (cL _ hk)) rfl (sd (fun k hk=>cy _ hk) _ hc.df)
   ·show(bS j.aI (bT j.aj (xs++ys)).2).1++bL c.DO s.a7=_
    rw[p1]
   ·rw[km] at hv
    cases hm:bo d c.D with
    | true=>rw[hm] at hv;cases hv
    | false=>
     rw[hm] at hv
     refine⟨hv,yj (fun k hk=>cy _ hk) v (wV hv ?_)⟩
     subst hcc
     cases hq:bo d (ry (dV s A H B).ks s.bN) with
     | false=>rfl
     | true=>
      rw[bJ.2 (show d∈(dV s A H B).D from cL _ (cL _ (bJ.1 hq)))] at hm
      cases hm
   ·rw[jH] at ho
    cases hm:bo h c.DO with
    | true=>rw[hm] at ho;cases ho
    | false=>
     rw[hm] at ho
     refine⟨ho,DU (fun k hk=>cy _ hk) o (wU ho ?_)⟩
     subst hcc
     cases hq:bo h (ru (dV s A H B).ks s.a7) with
     | false=>rfl
     | true=>
      rw[bJ.2 (show h∈(dV s A H B).DO from cL _ (bJ.1 hq))] at hm
      cases hm
  ·cases hp
 ·cases hp
theorem K5 {s t:ag S}{c:Cut}{A H B:List Nat}{j:JH}{ls:List (aY S.α)}(hcc:c=dV s A H B) (hc:sT s c) (hj:yZ c j=true) (h1:t.lo=bL c.D s.bN) (h2:t.bF=bL c.DO s.a7) (h3:t.df=s.df)
  (ha:GJ t=true) (hp:vU t j=some ls):Gh t.er (ly s c j ls).er:=by
 unfold vU at hp
 split at hp
 ·rename_i xs hx
  split at hp
  ·rename_i ys hy
   cases hp
   obtain⟨p1,_⟩:=vV t.ln hx ys
   unfold yZ at hj
   simp only[ah] at hj
   obtain⟨j1,j2⟩:=hj
   have j1:=mU j1
   have j2:=apart_spec j2
   unfold GJ at ha
   simp only[ah] at ha
   have a1:=apart_spec ha.1
   have a2:=apart_spec ha.2
   have tf:∀{d v},bd t.lo d=some v→bd t.bN d=some v:=by
    intro d v hv
    show bd (t.fr++t.lo) d=_
    rw[pg,EN fun hd=>a1 d hd (xq hv)]
    exact hv
   have of:∀{d o},aA t.bF d=some o→aA t.a7 d=some o:=by
    intro d v hv
    show aA (t.st++t.bF) d=_
    rw[eo,qn fun hd=>a2 d hd (rS hv)]
    exact hv
   have hgood:∀{d v},bd (bL c.D s.bN) d=some v→v.bad c.ks=false:=by
    intro d v hv
    rw[km] at hv
    cases hm:bo d c.D with
    | true=>rw[hm] at hv;cases hv
    | false=>
     rw[hm] at hv
     refine wV hv ?_
     subst hcc
     cases hq:bo d (ry (dV s A H B).ks s.bN) with
     | false=>rfl
     | true=>
      rw[bJ.2 (show d∈(dV s A H B).D from cL _ (cL _ (bJ.1 hq)))] at hm
      cases hm
   have hgoodO:∀{d o},aA (bL c.DO s.a7) d=some o→o.bad c.ks=false:=by
    intro h o ho
    rw[jH] at ho
    cases hm:bo h c.DO with
    | true=>rw[hm] at ho;cases ho
    | false=>
     rw[hm] at ho
     refine wU ho ?_
     subst hcc
     cases hq:bo h (ru (dV s A H B).ks s.a7) with
     | false=>rfl
     | true=>
      rw[bJ.2 (show h∈(dV s A H B).DO from cL _ (bJ.1 hq))] at hm
      cases hm
   have hkst:∀k,k∈c.ks→∃o,aA (bL c.DO s.a7) k=some o:=by
    intro k hk
    rw[jH]
    have:bo k c.DO=false:=by
     cases hm:bo k c.DO with
     | false=>rfl
     | true=>exact absurd (bJ.1 hm) (hc.ks k hk)
    rw[this]
    have hk2:k∈aH s.a7:=by subst hcc;exact(EW hk).2
    exact nO hk2
   have hks:∀k,k∈c.ks++aH j.aI→t.ln k=(ly s c j (xs++ys)).ln k:=by
    intro k hk
    show bG t.a7 k=bG (ly s c j (xs++ys)).a7 k
    have est:(ly s c j (xs++ys)).a7=(bS j.aI ys).1++bL c.DO s.a7:=by
     show(bS j.aI (bT j.aj (xs++ys)).2).1++bL c.DO s.a7=_
     rw[p1]
    rw[est]
    unfold bG
    rw[eo]
    rcases mF.1 hk with hk | hk
    ·have:aA (bS j.aI ys).1 k=none:=qn (by rw[ku];exact j2 k hk)
     rw[this]
     dsimp only
     obtain⟨o,ho⟩:=hkst k hk
     rw[ho]
     rw[of (by rw[h2];exact ho)]
    ·obtain⟨o,o',e1,e2,e3⟩:=xD hy k hk
     rw[e1,e2]
     exact e3.symm
   refine told (u:=ly s c j (xs++ys)) (F':=bL c.D s.bN) (O':=bL c.DO s.a7) hx hy rfl ?_ (fun d v hv=>⟨tf (by rw[h1];exact hv),yj (fun k hk=>cy _ hk) v (hgood hv)⟩)
    (fun h o ho=>⟨of (by rw[h2];exact ho),DU (fun k hk=>cy _ hk) o (hgoodO ho)⟩) hks (fun k hk=>j1 k (cy _ hk)) (fun k hk=>j1 k (cL _ hk)) h3.symm (by rw[h3];exact sd (fun k hk=>cy _ hk) _ hc.df)
   show(bS j.aI (bT j.aj (xs++ys)).2).1++bL c.DO s.a7=_
   rw[p1]
  ·cases hp
 ·cases hp
end
end Go.DN
/-
 DN,part R:code.
-/
namespace Go.DN
open Go.AM
section
variable {S:dr}
def TV.Ra (τ:Ty) (v:TV S):List Nat:=match τ with
 | .pt _=>match v with
  | .loc h 0=>[h]
  | _=>[]
 | _=>v.IL
mutual
def IN:Sh→TV S→List Nat
 | .ae _ τ,v=>v.Ra τ
 | .aR _ l,v=>match v with
  | .aR _ vs=>Ei l vs
  | _=>[]
 | .agg l,v=>match v with
  | .agg vs=>Ei l vs
  | _=>[]
 | _,_=>[]
def Ei:List Sh→List (TV S)→List Nat
 | sh::r,v::vs=>IN sh v++Ei r vs
 | _,_=>[]
end
def IP (fr:List (Nat×TV S)):List (Nat×Sh)→List Nat
 | []=>[]
 | (d,sh)::r=>match bd fr d with
  | some v=>IN sh v++IP fr r
  | none=>IP fr r
def AQ (st:List (Nat×TO S)):List (Nat×Oh)→List Nat
 | []=>[]
 | (h,.box _ _ cs)::r=>match aA st h with
  | some (.box _ _ vs)=>Ei cs vs++AQ st r
  | _=>AQ st r
 | _::r=>AQ st r
def Bi (h:Nat):List (Nat×Oh)→Option TypeId
 | []=>none
 | (k,.arr e _ _ _)::r=>bif Nat.beq k h then some e else Bi h r
 | (k,.deep e _ _ _ _)::r=>bif Nat.beq k h then some e else Bi h r
 | _::r=>Bi h r
def Np (h:Nat):List (Nat×Oh)→Option TypeId
 | []=>none
 | (k,.deep _ _ _ (.tH kty) _)::r=>bif Nat.beq k h then some kty else Np h r
 | _::r=>Np h r
def uD (s:ag S) (h:Nat):ag S:=match s.free h with
 | true=>s
 | false=>match yL s h with
  | some s'=>s'
  | none=>s
theorem Nc {s:ag S}{h:Nat}(hl:aJ s):Gh s.er (uD s h).er∧aJ (uD s h)∧bj s (uD s h):=by
 unfold uD
 split
 ·exact⟨Gh.refl _,hl,bj.refl s⟩
 ·split
  ·rename_i s' hs
   exact Bf hl hs
  ·exact⟨Gh.refl _,hl,bj.refl s⟩
def EU (s:ag S) (d h:Nat):ag S:=match bd s.bN d with
 | some (.aM h' τ)=>match Nat.beq h' h with
  | true=>match aA s.a7 h' with
   | some (.arr _ _ _ τ' l)=>s.put d (.sub h' τ 0 (List.length l))
   | _=>s
  | false=>s
 | _=>s
theorem OF {s:ag S}(d h:Nat) (hl:aJ s):Gh s.er (EU s d h).er∧aJ (EU s d h)∧bj s (EU s d h):=by
 unfold EU
 split
 ·rename_i h' τ hx
  split
  ·split
   ·rename_i τ' l ho
    refine⟨?_,hl.put _ _,⟨rfl,rfl,rfl⟩⟩
    rw[hP]
    have e1:get s.er.fr d=some (.aM h' (S.sz τ) 0 (List.length l)):=by
     rw[show get s.er.fr d=_ from fe hx]
     show some (G.aM _ _ 0 (s.ln h'))=_
     rw[nS ho]
    have e2:(TV.sub h' τ 0 (List.length l):TV S).er s.ln=.aM h' (S.sz τ) 0 (List.length l):=by
     show G.aM _ _ (0*_) _=_
     rw[jE]
    rw[e2]
    refine Gh.gen (s:=s.er) (t:=s.er.put d (.aM h' (S.sz τ) 0 (List.length l))) (fun x g' hg=>?_) (fun x k' hk=>⟨k',hk,uR.refl _ _ _⟩) rfl
    simp only[St.put,fF] at hg
    cases hb:Nat.beq d x with
    | true=>
     rw[hb] at hg
     cases hg
     have:=ab hb
     subst this
     exact⟨_,e1,CV.refl _ _ _⟩
    | false=>
     rw[hb] at hg
     exact⟨g',hg,CV.refl _ _ _⟩
   ·exact⟨Gh.refl _,hl,bj.refl s⟩
  ·exact⟨Gh.refl _,hl,bj.refl s⟩
 ·exact⟨Gh.refl _,hl,bj.refl s⟩
def n9 (aI:List (Nat×Oh)):List (Nat×Sh)→ag S→Option (ag S)
 | [],s=>some s
 | (d,.own h τ)::r,s=>match bd s.bN d with
  | some (.val (.slice none 0 0))=>match Bi h aI with
   | some e=>match bd (uD s h).bN d with
    | some (.val (.slice none 0 0))=>match (uD s h).free h with
     | true=>match Np h aI with
      | none=>n9 aI r ((uD s h).rI h d e τ)
      | some kty=>Eb ((uD s h).rI h d e τ) h kty fun s=>n9 aI r s
     | false=>none
    | _=>none
   | none=>none
  | _=>n9 aI r s
 | (d,.sub h _)::r,s=>n9 aI r (EU s d h)
 | _::r,s=>n9 aI r s
theorem dY {aI:List (Nat×Oh)}:∀{l:List (Nat×Sh)}{s t:ag S},aJ s→n9 aI l s=some t→Gh s.er t.er∧aJ t∧bj s t
 | [],s,t,hl,h=>by cases h;exact⟨Gh.refl _,hl,bj.refl s⟩
 | (d,.ae _ _)::r,s,t,hl,h=>dY (l:=r) hl h
 | (d,.ptr _ _)::r,s,t,hl,h=>dY (l:=r) hl h
 | (d,.loc _ _)::r,s,t,hl,h=>dY (l:=r) hl h
 | (d,.aR _ _)::r,s,t,hl,h=>dY (l:=r) hl h
 | (d,.agg _)::r,s,t,hl,h=>dY (l:=r) hl h
 | (d,.cT _)::r,s,t,hl,h=>dY (l:=r) hl h
 | (d,.bP _ _)::r,s,t,hl,h=>dY (l:=r) hl h
 | (d,.mp _)::r,s,t,hl,h=>dY (l:=r) hl h
 | (d,.any)::r,s,t,hl,h=>dY (l:=r) hl h
 | (d,.mu)::r,s,t,hl,h=>dY (l:=r) hl h
 | (d,.sub hh _)::r,s,t,hl,h=>by
  obtain⟨a1,a2,a3⟩:=OF d hh hl
  obtain⟨b1,b2,b3⟩:=dY (l:=r) a2 h
  exact⟨a1.trans b1,b2,a3.trans b3⟩
 | (d,.gH _ _)::r,s,t,hl,h=>dY (l:=r) hl h
 | (d,.ks _ _)::r,s,t,hl,h=>dY (l:=r) hl h
 | (d,.own hh τ)::r,s,t,hl,h=>by
  simp only[n9] at h
  split at h
  ·rename_i hx
   split at h
   ·rename_i e _
    split at h
    ·rename_i hx2
     split at h
     ·rename_i hf
      obtain⟨z1,z2,z3⟩:=Nc (h:=hh) hl
      obtain⟨a1,a2⟩:=Ah (e:=e) (τ:=τ) z2 hx2 hf
      split at h
      ·obtain⟨b1,b2,b3⟩:=dY (l:=r) a2 h
       exact⟨z1.trans (Gh.trans a1 b1),b2,z3.trans ⟨b3.lo,b3.bF,b3.df⟩⟩
      ·obtain⟨t0,c1,c2,c3,h⟩:=EM a2 h
       obtain⟨b1,b2,b3⟩:=dY (l:=r) c2 h
       exact⟨z1.trans (Gh.trans a1 (Gh.trans c1 b1)),b2,z3.trans ⟨b3.lo.trans c3.lo,b3.bF.trans c3.bF,b3.df.trans c3.df⟩⟩
     ·cases h
    ·cases h
   ·cases h
  ·exact dY hl h
def EV (s:ag S) (h j hd:Nat):ag S:=match aA s.st h with
 | some (.box e m cs)=>match cs[j]? with
  | some (.aM h' τ)=>match Nat.beq h' hd with
   | true=>match aA s.a7 h' with
    | some (.arr _ _ _ τ' l)=>s.set h (.box e m (cs.set j (.sub h' τ 0 (List.length l))))
    | _=>s
   | false=>s
  | _=>s
 | _=>s
theorem OH {s:ag S}(h j hd:Nat) (hl:aJ s):Gh s.er (EV s h j hd).er∧aJ (EV s h j hd)∧bj s (EV s h j hd):=by
 unfold EV
 split
 ·rename_i e m cs ho
  split
  ·rename_i h' τ hj
   split
   ·split
    ·rename_i τ' l ho2
     refine⟨?_,hl.set ho _,⟨rfl,rfl,rfl⟩⟩
     obtain⟨e1,_⟩:=rO (o':=.box e m (cs.set j (.sub h' τ 0 (List.length l)))) ho rfl
     rw[e1]
     have e2:(TV.sub h' τ 0 (List.length l):TV S).er s.ln=(TV.aM h' τ:TV S).er s.ln:=by
      show G.aM _ _ (0*_) _=G.aM _ _ 0 (s.ln h')
      rw[jE,nS ho2]
     have e3:TV.er.go s.ln (cs.set j (.sub h' τ 0 (List.length l)))=TV.er.go s.ln cs:=by
      rw[cS,p9,cS,e2]
      apply jT
      intro q
      rw[gD]
      split
      ·rename_i hq
       subst hq
       rw[ak,hj]
       split
       ·rfl
       ·rename_i hlt
        have:=(av.1 hj).1
        rw[aU] at hlt
        exact absurd this hlt
      ·rfl
     have e4:(TO.box e m (cs.set j (.sub h' τ 0 (List.length l))):TO S).er s.ln=(TO.box e m cs:TO S).er s.ln:=by
      show aq.mk _ _ _ _ _ _ _=aq.mk _ _ _ _ _ _ _
      rw[e3]
     rw[e4,Kk (dJ (gO ho))]
     exact Gh.refl _
    ·exact⟨Gh.refl _,hl,bj.refl s⟩
   ·exact⟨Gh.refl _,hl,bj.refl s⟩
  ·exact⟨Gh.refl _,hl,bj.refl s⟩
 ·exact⟨Gh.refl _,hl,bj.refl s⟩
def oy (aI:List (Nat×Oh)) (h:Nat):Nat→List Sh→ag S→Option (ag S)
 | _,[],s=>some s
 | j,.own hd τ::r,s=>match aA s.st h with
  | some (.box e' m cs)=>match cs[j]? with
   | some (.val (.slice none 0 0))=>match Bi hd aI with
    | some e=>match aA (rD s hd).st h with
     | some (.box e' m cs)=>match cs[j]? with
      | some (.val (.slice none 0 0))=>match (rD s hd).free hd with
       | true=>oy aI h (j+1) r (((rD s hd).add hd (.arr e true true τ [])).set h (.box e' m (cs.set j (.aM hd τ))))
       | false=>none
      | _=>none
     | _=>none
    | none=>none
   | _=>oy aI h (j+1) r s
  | _=>oy aI h (j+1) r s
 | j,.sub hd _::r,s=>oy aI h (j+1) r (EV s h j hd)
 | j,_::r,s=>oy aI h (j+1) r s
theorem ek {aI:List (Nat×Oh)}{h:Nat}:∀{l:List Sh}{j:Nat}{s t:ag S},aJ s→oy aI h j l s=some t→Gh s.er t.er∧aJ t∧bj s t
 | [],_,s,t,hl,h=>by cases h;exact⟨Gh.refl _,hl,bj.refl s⟩
 | .ae _ _::r,_,s,t,hl,h=>ek (l:=r) hl h
 | .ptr _ _::r,_,s,t,hl,h=>ek (l:=r) hl h
 | .loc _ _::r,_,s,t,hl,h=>ek (l:=r) hl h
 | .aR _ _::r,_,s,t,hl,h=>ek (l:=r) hl h
 | .agg _::r,_,s,t,hl,h=>ek (l:=r) hl h
 | .cT _::r,_,s,t,hl,h=>ek (l:=r) hl h
 | .bP _ _::r,_,s,t,hl,h=>ek (l:=r) hl h
 | .mp _::r,_,s,t,hl,h=>ek (l:=r) hl h
 | .any::r,_,s,t,hl,h=>ek (l:=r) hl h
 | .mu::r,_,s,t,hl,h=>ek (l:=r) hl h
 | .sub hd _::r,j,s,t,hl,hh=>by
  obtain⟨a1,a2,a3⟩:=OH h j hd hl
  obtain⟨b1,b2,b3⟩:=ek (l:=r) a2 hh
  exact⟨a1.trans b1,b2,a3.trans b3⟩
 | .gH _ _::r,_,s,t,hl,h=>ek (l:=r) hl h
 | .ks _ _::r,_,s,t,hl,h=>ek (l:=r) hl h
 | .own hd τ::r,j,s,t,hl,h=>by
  simp only[oy] at h
  split at h
  ·rename_i e' m cs ho
   split at h
   ·rename_i hj
    split at h
    ·rename_i e _
     obtain⟨z1,z2,z3⟩:=F5 hd hl
     split at h
     ·rename_i ho2
      split at h
      ·rename_i hj2
       split at h
       ·rename_i hf
        obtain⟨a1,a2⟩:=LS (e:=e) (τ:=τ) z2 ho2 hj2 hf
        obtain⟨b1,b2,b3⟩:=ek (l:=r) a2 h
        exact⟨z1.trans (Gh.trans a1 b1),b2,z3.trans ⟨b3.lo,b3.bF,b3.df⟩⟩
       ·cases h
      ·cases h
     ·cases h
    ·cases h
   ·exact ek (l:=r) hl h
  ·exact ek (l:=r) hl h
def vF (aI:List (Nat×Oh)):List (Nat×Oh)→ag S→Option (ag S)
 | [],s=>some s
 | (h,.box _ _ cs)::r,s=>match oy aI h 0 cs s with
  | some s'=>vF aI r s'
  | none=>none
 | _::r,s=>vF aI r s
theorem qM {aI:List (Nat×Oh)}:∀{l:List (Nat×Oh)}{s t:ag S},aJ s→vF aI l s=some t→Gh s.er t.er∧aJ t∧bj s t
 | [],s,t,hl,h=>by cases h;exact⟨Gh.refl _,hl,bj.refl s⟩
 | (_,.arr _ _ _ _)::r,s,t,hl,h=>qM (l:=r) hl h
 | (_,.deep _ _ _ _ _)::r,s,t,hl,h=>qM (l:=r) hl h
 | (_,.lp _ _ _)::r,s,t,hl,h=>qM (l:=r) hl h
 | (_,.box _ _ cs)::r,s,t,hl,h=>by
  simp only[vF] at h
  split at h
  ·rename_i s' hs
   obtain⟨a1,a2,a3⟩:=ek hl hs
   obtain⟨b1,b2,b3⟩:=qM (l:=r) a2 h
   exact⟨a1.trans b1,b2,a3.trans b3⟩
  ·cases h
def BQ (aj:List (Nat×Sh)) (aI:List (Nat×Oh)) (s:ag S):Option (ag S):=match n9 aI aj s with
 | some s'=>vF aI aI s'
 | none=>none
theorem DY {aj:List (Nat×Sh)}{aI:List (Nat×Oh)}{s t:ag S}(hl:aJ s) (h:BQ aj aI s=some t):Gh s.er t.er∧aJ t∧bj s t:=by
 unfold BQ at h
 split at h
 ·rename_i s' hs
  obtain⟨a1,a2,a3⟩:=dY hl hs
  obtain⟨b1,b2,b3⟩:=qM a2 h
  exact⟨a1.trans b1,b2,a3.trans b3⟩
 ·cases h
def AD (s:ag S) (j:JH):Option (ag S):=match BQ j.aj j.aI s with
 | some s'=>qv (IP s'.bN j.aj++AQ s'.a7 j.aI) s'
 | none=>none
theorem zC {s t:ag S}{j:JH}(hl:aJ s) (h:AD s j=some t):Gh s.er t.er∧aJ t∧bj s t:=by
 unfold AD at h
 split at h
 ·rename_i s' hs
  obtain⟨a1,a2,a3⟩:=DY hl hs
  obtain⟨b1,b2,b3⟩:=mq a2 h
  exact⟨a1.trans b1,b2,a3.trans b3⟩
 ·cases h
def carry (t:ag S) (j:JH):Option (aT S.α j.cg):=
 match AD t j with
 | some t'=>match GJ t' with
  | true=>match vU t' j with
   | some ls=>nz j.cg ls
   | none=>none
  | false=>none
 | none=>none
theorem wN {s t:ag S}{c:Cut}{A H B:List Nat}{j:JH}{q:aT S.α j.cg}(hcc:c=dV s A H B) (hc:sT s c) (hj:yZ c j=true) (h1:t.lo=bL c.D s.bN) (h2:t.bF=bL c.DO s.a7) (h3:t.df=s.df) (hl:aJ t)
  (h:carry t j=some q):Gh t.er (ly s c j (leaves j.cg q)).er:=by
 unfold carry at h
 split at h
 ·rename_i t' hp
  obtain⟨a1,a2,a3⟩:=zC hl hp
  split at h
  ·rename_i ha
   split at h
   ·rename_i ls hls
    rw[gP h]
    exact a1.trans (K5 hcc hc hj (a3.lo.trans h1) (a3.bF.trans h2) (a3.df.trans h3) ha hls)
   ·cases h
  ·cases h
 ·cases h
theorem uM {s t:ag S}{c:Cut}{A H B:List Nat}{j:JH}{q:aT S.α j.cg}(hcc:c=dV s A H B) (hc:sT s c) (hj:yZ c j=true) (h1:t.lo=bL c.D s.bN) (h2:t.bF=bL c.DO s.a7) (h3:t.df=s.df) (hl:aJ t)
  (h:carry t j=some q):Gh t.er (ra s c j (leaves j.cg q)).er:=
 (wN hcc hc hj h1 h2 h3 hl h).trans (B4 (fun d=>by rw[OV hc]) (fun d=>by rw[OU hc]) rfl)
inductive Hint where
 | join (j:JH)
 | om (j:JH)
 | loop (j:JH) (id:Nat) (x:JH)
 | fw (j:JH) (id:Nat) (x:JH)
 | uo (W:List Nat)
 | ez (W:List Nat) (j:JH)
 | fz (l:List Nat)
 | tr (d:Nat)
 | th (h kty:Nat)
 | Rw (key hd:Nat)
def ke:List (Nat×Hint)→Nat→Option Hint
 | [],_=>none
 | (k,h)::r,p=>bif Nat.beq k p then some h else ke r p
def pA:List Oper→List Nat
 | []=>[]
 | o::r=>match o.dst with
  | some d=>d::pA r
  | none=>pA r
def lI:Code→List Nat
 | .region _ ops _=>pA ops.toList
 | .seq a b=>lI a++lI b
 | .cond _ a b=>lI a++lI b
 | .block _ c=>lI c
 | .loop c=>lI c
 | .scope c=>lI c
 | .rangeFunc _ ps a b=>ps.toList++(lI a++lI b)
 | _=>[]
def kX:Code→Nat
 | .seq x y=>kX x+kX y+1
 | .cond _ x y=>kX x+kX y+1
 | .block _ c=>kX c+1
 | .loop c=>kX c+1
 | .scope c=>kX c+1
 | _=>1
abbrev BS (S:dr):=ag S→(B:Type)→(Exit→ag S→Option B)→Option B
def Cw (s:ag S) (c:Cut) (j:JH):Bool:=JA s c&&yZ c j
def yJ:Exit→Bool
 | .panic _=>true
 | _=>false
def wa (s:ag S) (c:Cut) (j:JH) (at_:Exit→Bool) (run:BS S){A:Type}(K:Exit→ag S→Option A):Option A:=
 match Cw s c j with
 | true=>Option.bind (run (wJ s c) (aT S.α j.cg) fun e t=>match at_ e with
   | true=>carry t j
   | false=>none) fun q=>K .normal (ra s c j (leaves j.cg q))
 | false=>none
def yG (s:ag S) (c:Cut) (j:JH) (at_:Exit→Bool) (run:BS S){A:Type}(K:Exit→ag S→Option A):Option A:=
 match Cw s c j with
 | true=>br (fun r=>r) (run (wJ s c) (Ex (aT S.α j.cg) A) fun e t=>match at_ e with
   | true=>match carry t j with
    | some q=>some (.bw q)
    | none=>none
   | false=>match K e (flat s c t) with
     | some r=>some (.ret r)
     | none=>none) fun q=>K .normal (ra s c j (leaves j.cg q))
 | false=>none
def mo:Exit→Bool
 | .normal=>true
 | _=>false
def wq (id:Nat):Exit→Bool
 | .normal=>true
 | .exit id'=>Nat.beq id' id
 | _=>false
def IZ (fu:Nat) (s:ag S) (c:Cut) (j:JH) (id:Nat) (x:JH) (run:BS S){A:Type}(K:Exit→ag S→Option A):Option A:=
 match Cw s c j&&yZ c x with
 | true=>match vU s j with
   | some ls=>match nz j.cg ls with
    | some q0=>Option.bind (aW (fun q=>run (ly s c j (leaves j.cg q)) (aT S.α j.cg⊕aT S.α x.cg) fun e t=>match e with
      | .normal=>match carry t j with
       | some q=>some (.inl q)
       | none=>none
      | .exit id'=>match Nat.beq id' id with
       | true=>match carry t x with
        | some q=>some (.inr q)
        | none=>none
       | false=>none
      | _=>none) fu q0) fun q=>K (.exit id) (ra s c x (leaves x.cg q))
    | none=>none
   | none=>none
 | false=>none
def fw (fu:Nat) (s:ag S) (c:Cut) (j:JH) (id:Nat) (x:JH) (run:BS S){A:Type}(K:Exit→ag S→Option A):Option A:=
 match Cw s c j&&yZ c x with
 | true=>match vU s j with
   | some ls=>match nz j.cg ls with
    | some q0=>br (fun r=>r) (aW (fun q=>run (ly s c j (leaves j.cg q)) (aT S.α j.cg⊕Ex (aT S.α x.cg) A) fun e t=>match e with
      | .normal=>match carry t j with
       | some q=>some (.inl q)
       | none=>none
      | .exit id'=>match Nat.beq id' id with
       | true=>match carry t x with
        | some q=>some (.inr (.bw q))
        | none=>none
       | false=>match K (.exit id') (flat s c t) with
        | some r=>some (.inr (.ret r))
        | none=>none
      | e=>match K e (flat s c t) with
        | some r=>some (.inr (.ret r))
        | none=>none) fu q0) fun q=>K (.exit id) (ra s c x (leaves x.cg q))
    | none=>none
   | none=>none
 | false=>none
def Fk (h:Option Hint) (s:ag S){A:Type}(k:ag S→Option A):Option A:=
 match h with
 | some (.fz l)=>match qv l s with
  | some s'=>k s'
  | none=>none
 | some (.tr d)=>xp s (.tmp d) k
 | some (.th h kty)=>Eb s h kty k
 | _=>k s
theorem Cc {h:Option Hint}{s:ag S}{A:Type}{k:ag S→Option A}{r:A}(hl:aJ s) (e:Fk h s k=some r):∃t,Gh s.er t.er∧aJ t∧bj s t∧k t=some r:=by
 unfold Fk at e
 split at e
 ·split at e
  ·rename_i s' hz
   obtain⟨a1,a2,a3⟩:=mq hl hz
   exact⟨s',a1,a2,a3,e⟩
  ·cases e
 ·exact xn hl e
 ·exact EM hl e
 ·exact⟨s,Gh.refl _,hl,bj.refl s,e⟩
def oD:Code→Nat→List (Nat×Array Tmp×Code×Code)
 | .seq x y,p=>oD x (p+1)++oD y (p+1+kX x)
 | .cond _ x y,p=>oD x (p+1)++oD y (p+1+kX x)
 | .block _ c,p=>oD c (p+1)
 | .loop c,p=>oD c (p+1)
 | .rangeFunc _ ps a b,p=>[(p,ps,a,b)]
 | _,_=>[]
def nH (S:dr) (N:Nat) (H:List (Nat×Hint)):List (Nat×Array Tmp×Code×Code)→Prop
 | []=>True
 | (p,ps,a,b)::r=>(match ke H p with
  | some (.Rw key _)=>(S.uv key).N=N∧(S.uv key).ps=ps∧(S.uv key).LI=a∧(S.uv key).body=b
  | _=>True)∧nH S N H r
theorem nH.fN {N:Nat}{H:List (Nat×Hint)}:∀{a b:List (Nat×Array Tmp×Code×Code)},nH S N H (a++b)→nH S N H a∧nH S N H b
 | [],b,h=>⟨trivial,h⟩
 | x::r,b,h=>⟨⟨h.1,(nH.fN h.2).1⟩,(nH.fN h.2).2⟩
structure Cl (S:dr) where
 call:(Nat→Bool)→(A:Type)→(List PanicEntry→ag S→Option A)→ag S→Option Nat→Call→(ag S→Option A)→Option A
 rf:(key hd:Nat)→ag S→Operand→(A:Type)→(Exit→ag S→Option A)→Option A
def vg (ds:List Nat):List (Nat×TV S)→Bool
 | []=>true
 | (d,_)::r=>!(bo d ds)&&vg ds r
def forget (ds:List Nat) (s:ag S):ag S:={s with fr:=bL ds s.fr,last:=[]}
def yX (ops:Array Oper){A:Type}(K:Exit→ag S→Option A) (ch:List PanicEntry) (t:ag S):Option A:=
 match vg (pA ops.toList) t.lo with
 | true=>K (.panic ch) (forget (pA ops.toList) t)
 | false=>none
noncomputable def gf (P:Program) (N fu:Nat) (H:List (Nat×Hint)) (cl:Cl S):Code→Nat→ag S→(A:Type)→(Exit→ag S→Option A)→Option A
 | .skip,_,s,_,K=>K .normal s
 | .region _ ops draw,p,s,A,K=>match ke H p with
  | some (.ez W j)=>wa s (dV s (pA ops.toList) (aH j.aI) (aH j.aj)) j mo (fun s' B K'=>match draw with
   | true=>uL P N (fun h=>bo h W) W ops (cl.call (fun h=>bo h W) B (yX ops K')) s' (K' .normal)
   | false=>qh P N (fun h=>Nat.blt h 1100) ops.toList (cl.call (fun h=>Nat.blt h 1100) B fun ch=>K' (.panic ch)) ops.toList s' (K' .normal)) K
  | some (.uo W)=>match draw with
   | true=>uL P N (fun h=>bo h W) W ops (cl.call (fun h=>bo h W) A (yX ops K)) s (K .normal)
   | false=>qh P N (fun h=>Nat.blt h 1100) ops.toList (cl.call (fun h=>Nat.blt h 1100) A fun ch=>K (.panic ch)) ops.toList s (K .normal)
  | _=>Fk (ke H p) s fun s=>match draw with
   | true=>uL P N (fun h=>Nat.blt h 1100) (List.range 1100) ops (cl.call (fun h=>Nat.blt h 1100) A (yX ops K)) s (K .normal)
   | false=>qh P N (fun h=>Nat.blt h 1100) ops.toList (cl.call (fun h=>Nat.blt h 1100) A fun ch=>K (.panic ch)) ops.toList s (K .normal)
 | .seq x y,p,s,A,K=>Fk (ke H p) s fun s=>gf P N fu H cl x (p+1) s A fun e s'=>match e with
  | .normal=>gf P N fu H cl y (p+1+kX x) s' A K
  | e=>K e s'
 | .cond o x y,p,s,A,K=>match o with
  | .tmp t=>match bd s.bN t with
   | some (.ae _ .bool b)=>match ke H p with
    | some (.join j)=>wa s (dV s (lI x++lI y) (aH j.aI) (aH j.aj)) j mo (fun s' B K'=>cond b (gf P N fu H cl x (p+1) s' B K') (gf P N fu H cl y (p+1+kX x) s' B K')) K
    | some (.om j)=>yG s (dV s (lI x++lI y) (aH j.aI) (aH j.aj)) j mo (fun s' B K'=>cond b (gf P N fu H cl x (p+1) s' B K') (gf P N fu H cl y (p+1+kX x) s' B K')) K
    | _=>cond b (gf P N fu H cl x (p+1) s A K) (gf P N fu H cl y (p+1+kX x) s A K)
   | _=>none
  | _=>none
 | .block id c,p,s,A,K=>match ke H p with
  | some (.join j)=>wa s (dV s (lI c) (aH j.aI) (aH j.aj)) j (wq id) (fun s' B K'=>gf P N fu H cl c (p+1) s' B K') K
  | some (.om j)=>yG s (dV s (lI c) (aH j.aI) (aH j.aj)) j (wq id) (fun s' B K'=>gf P N fu H cl c (p+1) s' B K') K
  | _=>gf P N fu H cl c (p+1) s A fun e s'=>match e with
   | .exit id'=>match Nat.beq id' id with
    | true=>K .normal s'
    | false=>K (.exit id') s'
   | e=>K e s'
 | .loop c,p,s,A,K=>match ke H p with
  | some (.loop j id x)=>match AD s j with
   | some s'=>IZ fu s' (dV s' (lI c) (aH j.aI) (aH j.aj)) j id x (fun s' B K'=>gf P N fu H cl c (p+1) s' B K') K
   | none=>none
  | some (.fw j id x)=>match AD s j with
   | some s'=>fw fu s' (dV s' (lI c) (aH j.aI) (aH j.aj)) j id x (fun s' B K'=>gf P N fu H cl c (p+1) s' B K') K
   | none=>none
  | _=>none
 | .exit id,_,s,_,K=>K (.exit id) s
 | .ret,_,s,_,K=>K .ret s
 | .rangeFunc g _ _ _,p,s,A,K=>match ke H p with
  | some (.Rw key hd)=>cl.rf key hd s g A K
  | _=>none
 | _,_,_,_,_=>none
section
variable {P:Program}{N:Nat}{cx:Cx}
def GV (P:Program) (N:Nat) (cx:Cx) (c:Code) (run:BS S):Prop:=
 ∀(s:ag S) (B:Type) (K:Exit→ag S→Option B) (r:B),aJ s→run s B K=some r→∀Q:Exit→St→Prop,(∀e t,aJ t→bj s t→K e t=some r→Q e t.er)→GW P N cx c Q s.er
theorem GW.Oa {σ ρ:Type}{c:Code}{Q:Exit→St→Prop}(E:σ→St) (R:ρ→Exit→St→Prop){body:σ→Option (σ⊕ρ)}{n:Nat}{x0:σ}{e:ρ}(hl:AM.aW body n x0=some e)
  (hr:∀x o,body x=some o→GW P N cx c (fun ex s=>match o with | .inl x'=>ex=.normal∧Gh s (E x') | .inr r=>ex≠.normal∧R r ex s) (E x)) (hq:∀ex s,ex≠.normal→R e ex s→Q ex s):GW P N cx (.loop c) Q (E x0):=by
 intro μ a w hrel
 refine H7 (fun k a w=>∃x μ,AM.aW body k x=some e∧Rel N cx μ (E x) a w) n ⟨x0,μ,hl,hrel⟩ ?_
 rintro k a w ⟨x,μ,hI,hrel⟩
 cases k with
 | zero=>exact absurd hI (by simp[AM.aW])
 | succ k=>
  simp only[AM.aW] at hI
  cases hb:body x with
  | none=>rw[hb] at hI;cases hI
  | some o=>
   rw[hb] at hI
   refine wpIn_mono (hr x o hb μ a w hrel) fun ex a' w' hl=>?_
   cases o with
   | inl x'=>
    cases ex with
    | normal=>
     obtain⟨μ',s',hr',_,hg⟩:=hl
     obtain⟨μ2,h1,_⟩:=hg N cx μ' a' w' hr'
     exact⟨k,Nat.lt_succ_self k,x',μ2,hI,h1⟩
    | outgrown=>exact hl.elim
    | _=>obtain⟨μ',s',hr',hq',_⟩:=hl;cases hq'
   | inr r=>
    cases hI
    cases ex with
    | normal=>obtain⟨μ',s',hr',hq',_⟩:=hl;exact absurd rfl hq'
    | outgrown=>exact hl.elim
    | _=>obtain⟨μ',s',hr',hn,hq'⟩:=hl;exact⟨μ',s',hr',hq _ _ hn hq'⟩
theorem uH {s:ag S}{c:Cut}{j:JH}(h:Cw s c j=true):sT s c∧yZ c j=true:=by
 unfold Cw at h
 simp only[ah] at h
 exact⟨Jz h.1,h.2⟩
theorem GW.Fc {c:Code}{Q Q':Exit→St→Prop}{s:St}(h:GW P N cx c Q' s) (hq:∀e s,Q' e s→∃t,Gh s t∧Q e t):GW P N cx c Q s:=fun μ a w hr=>
 wpIn_mono (h μ a w hr) fun e a' w' hl=>by
  cases e with
  | outgrown=>exact hl.elim
  | _=>
   obtain⟨μ',s',hr',h4⟩:=hl
   obtain⟨t,h5,h6⟩:=hq _ _ h4
   obtain⟨μ2,h7,_⟩:=h5 N cx μ' a' w' hr'
   exact⟨μ2,t,h7,h6⟩
theorem Bt {s t:ag S}{c:Cut}(h:bj (wJ s c) t):t.lo=bL c.D s.bN∧t.bF=bL c.DO s.a7∧t.df=s.df:=⟨h.lo,h.bF,h.df⟩
theorem zM {code:Code}{s:ag S}{A H B:List Nat}{j:JH}{at_:Exit→Bool}{run:BS S}{X:Type}{K:Exit→ag S→Option X}{r:X}(hat:∀e,at_ e=true→yJ e=false) (hrun:GV P N cx code run) (hl:aJ s)
  (h:wa s (dV s A H B) j at_ run K=some r){Q:Exit→St→Prop}(hQ:∀e t,aJ t→bj s t→K e t=some r→Q e t.er):
  GW P N cx code (fun e s'=>at_ e=true∧∃t,Gh s' t∧Q .normal t) s.er:=by
 unfold wa at h
 split at h
 ·rename_i hf
  obtain⟨hc,hj⟩:=uH hf
  obtain⟨q,h1,h2⟩:=bind_some h
  obtain⟨g1,g2⟩:=Gp s (dV s A H B) hl
  refine GW.gh g1 (hrun _ _ _ q g2 h1 _ fun e t hlt hk hK=>?_)
  split at hK
  ·rename_i he
   obtain⟨k1,k2,k3⟩:=Bt hk
   exact⟨he,_,uM rfl hc hj k1 k2 k3 hlt hK,hQ _ _ (gY rfl) ⟨rfl,rfl,rfl⟩ h2⟩
  ·cases hK
 ·cases h
theorem FA {code:Code}{s:ag S}{A H B:List Nat}{j:JH}{at_:Exit→Bool}{run:BS S}{X:Type}{K:Exit→ag S→Option X}{r:X}(hat:∀e,at_ e=true→yJ e=false) (hrun:GV P N cx code run) (hl:aJ s)
  (h:yG s (dV s A H B) j at_ run K=some r){Q:Exit→St→Prop}(hQ:∀e t,aJ t→bj s t→K e t=some r→Q e t.er):
  GW P N cx code (fun e s'=>(at_ e=true∧∃t,Gh s' t∧Q .normal t)∨(at_ e=false∧∃t,Gh s' t∧Q e t)) s.er:=by
 unfold yG at h
 split at h
 ·rename_i hf
  obtain⟨hc,hj⟩:=uH hf
  obtain⟨ex,h1,h2,h3⟩:=BO h
  obtain⟨g1,g2⟩:=Gp s (dV s A H B) hl
  refine GW.gh g1 (hrun _ _ _ ex g2 h1 _ fun e t hlt hk hK=>?_)
  obtain⟨k1,k2,k3⟩:=Bt hk
  split at hK
  ·rename_i he
   split at hK
   ·rename_i q hq
    cases hK
    exact .inl ⟨he,_,uM rfl hc hj k1 k2 k3 hlt hq,hQ _ _ (gY rfl) ⟨rfl,rfl,rfl⟩ (h2 q rfl)⟩
   ·cases hK
  ·rename_i he
   split at hK
   ·rename_i r' hr'
    cases hK
    obtain⟨f1,f2,f3⟩:=HK hc k1 k2 k3 hlt
    refine .inr ⟨he,_,f1,hQ e _ f2 f3 ?_⟩
    rw[hr',←h3 r' rfl]
   ·cases hK
 ·cases h
theorem MQ {body:Code}{fu:Nat}{s:ag S}{A H B:List Nat}{j x:JH}{id:Nat}{run:BS S}{X:Type}{K:Exit→ag S→Option X}{r:X}(hrun:GV P N cx body run) (hl:aJ s)
  (h:IZ fu s (dV s A H B) j id x run K=some r){Q:Exit→St→Prop}(hQ:∀e t,aJ t→bj s t→K e t=some r→Q e t.er):
  GW P N cx (.loop body) Q s.er:=by
 unfold IZ at h
 split at h
 ·rename_i hf
  simp only[ah] at hf
  obtain⟨hc,hj⟩:=uH hf.1
  have hx:=hf.2
  split at h
  ·rename_i ls hls
   split at h
   ·rename_i q0 hq0
    obtain⟨q,h1,h2⟩:=bind_some h
    refine GW.gh (HG rfl hc hj hls) ?_
    rw[←gP hq0]
    refine GW.Fc (GW.Oa (fun q=>(ly s (dV s A H B) j (leaves j.cg q)).er) (fun (b:aT S.α x.cg) e s'=>e=.exit id∧∃t,Gh s' t∧t=(ra s (dV s A H B) x (leaves x.cg b)).er) h1 (Q:=fun e s'=>e=.exit id∧∃t,Gh s' t∧t=(ra s (dV s A H B) x (leaves x.cg q)).er) (fun q' o ho=>?_) (fun e s' hne hR=>hR)) (fun e s' hR=>?_)
    ·refine hrun _ _ _ o (gY rfl) ho _ fun e t hlt hk hK=>?_
     have k1:t.lo=bL (dV s A H B).D s.bN:=hk.lo
     have k2:t.bF=bL (dV s A H B).DO s.a7:=hk.bF
     have k3:t.df=s.df:=hk.df
     split at hK
     ·split at hK
      ·rename_i q2 hq2
       cases hK
       exact⟨rfl,wN rfl hc hj k1 k2 k3 hlt hq2⟩
      ·cases hK
     ·split at hK
      ·rename_i hid
       split at hK
       ·rename_i q2 hq2
        cases hK
        have:=ab hid
        subst this
        exact⟨fun e=>(by cases e),rfl,_,uM rfl hc hx k1 k2 k3 hlt hq2,rfl⟩
       ·cases hK
      ·cases hK
     ·cases hK
    ·obtain⟨e1,t,e2,e3⟩:=hR
     subst e1;subst e3
     exact⟨_,e2,hQ _ _ (gY (t:=ra s (dV s A H B) x (leaves x.cg q)) rfl) ⟨rfl,rfl,rfl⟩ h2⟩
   ·cases h
  ·cases h
 ·cases h
def LR {β X:Type}(s:ag S) (K:Exit→ag S→Option X) (id:Nat) (out:β→St) (b:Ex β X) (e:Exit) (s':St):Prop:=
 match b with
 | .bw b=>e=.exit id∧∃t,Gh s' t∧t=out b
 | .ret r'=>∃t:ag S,Gh s' t.er∧aJ t∧bj s t∧K e t=some r'
theorem MP {body:Code}{fu:Nat}{s:ag S}{A H B:List Nat}{j x:JH}{id:Nat}{run:BS S}{X:Type}{K:Exit→ag S→Option X}{r:X}(hrun:GV P N cx body run) (hl:aJ s)
  (h:fw fu s (dV s A H B) j id x run K=some r){Q:Exit→St→Prop}(hQ:∀e t,aJ t→bj s t→K e t=some r→Q e t.er):
  GW P N cx (.loop body) Q s.er:=by
 unfold fw at h
 split at h
 ·rename_i hf
  simp only[ah] at hf
  obtain⟨hc,hj⟩:=uH hf.1
  have hx:=hf.2
  split at h
  ·rename_i ls hls
   split at h
   ·rename_i q0 hq0
    obtain⟨ex,h1,h2,h3⟩:=BO h
    refine GW.gh (HG rfl hc hj hls) ?_
    rw[←gP hq0]
    refine GW.Fc (GW.Oa (fun q=>(ly s (dV s A H B) j (leaves j.cg q)).er)
     (LR s K id fun b=>(ra s (dV s A H B) x (leaves x.cg b)).er) h1
     (Q:=LR s K id (fun b=>(ra s (dV s A H B) x (leaves x.cg b)).er) ex) (fun q' o ho=>?_) (fun e s' hne hR=>hR)) (fun e s' hR=>?_)
    ·refine hrun _ _ _ o (gY rfl) ho _ fun e t hlt hk hK=>?_
     have k1:t.lo=bL (dV s A H B).D s.bN:=hk.lo
     have k2:t.bF=bL (dV s A H B).DO s.a7:=hk.bF
     have k3:t.df=s.df:=hk.df
     obtain⟨f1,f2,f3⟩:=HK hc k1 k2 k3 hlt
     split at hK
     ·split at hK
      ·rename_i q2 hq2
       cases hK
       exact⟨rfl,wN rfl hc hj k1 k2 k3 hlt hq2⟩
      ·cases hK
     ·split at hK
      ·rename_i hid
       split at hK
       ·rename_i q2 hq2
        cases hK
        have:=ab hid
        subst this
        exact⟨fun e=>(by cases e),rfl,_,uM rfl hc hx k1 k2 k3 hlt hq2,rfl⟩
       ·cases hK
      ·split at hK
       ·rename_i r' hr'
        cases hK
        exact⟨fun e=>(by cases e),_,f1,f2,f3,hr'⟩
       ·cases hK
     ·rename_i hn1 hn2
      split at hK
      ·rename_i r' hr'
       cases hK
       exact⟨fun e=>hn1 e,_,f1,f2,f3,hr'⟩
      ·cases hK
    ·cases ex with
     | bw b=>
      obtain⟨e1,t,e2,e3⟩:=hR
      subst e1;subst e3
      exact⟨_,e2,hQ _ _ (gY (t:=ra s (dV s A H B) x (leaves x.cg b)) rfl) ⟨rfl,rfl,rfl⟩ (h2 b rfl)⟩
     | ret r'=>
      obtain⟨t,e2,e3,e4,e5⟩:=hR
      refine⟨_,e2,hQ _ _ e3 e4 ?_⟩
      rw[e5,←h3 r' rfl]
   ·cases h
  ·cases h
 ·cases h
end
end
end Go.DN
/-
 DN,part S:what the code does is what 'denC' says.
-/
namespace Go.DN
open Go.AM
section
variable {S:dr}{P:Program}{N:Nat}{cx:Cx}{fu:Nat}{H:List (Nat×Hint)}{cl:Cl S}
structure qN (P:Program) (N:Nat) (cl:Cl S):Prop where
 call:∀(ok:Nat→Bool) (W:List Nat),(∀h,ok h=true→W.contains h=true)→∀(A:Type) (kp:List PanicEntry→ag S→Option A) (r:A),yt P N W (cl.call ok A kp) kp r
 cT:∀(ok:Nat→Bool) (A:Type) (kp:List PanicEntry→ag S→Option A) (r:A),QQ P N (cl.call ok A kp) r
 rf:∀(cx:Cx),cx.ro=none→∀(key hd:Nat) (g:Operand),(S.uv key).N=N→∀(s:ag S) (B:Type) (K:Exit→ag S→Option B) (r:B),aJ s→cl.rf key hd s g B K=some r→∀Q:Exit→St→Prop,(∀e t,aJ t→bj s t→K e t=some r→Q e t.er)→
  GW P N cx (.rangeFunc g (S.uv key).ps (S.uv key).LI (S.uv key).body) Q s.er
theorem vR:∀h,Nat.blt h 1100=true→(List.range 1100).contains h=true:=fun h hh=>fC.2 (List.mem_range.2 (by simpa[fU] using hh))
theorem Hx (W:List Nat):∀h,bo h W=true→W.contains h=true:=fun h hh=>fC.2 (bJ.1 hh)
theorem Gh.lift {c:Code}{Q:Exit→St→Prop}{s:St}(h:GW P N cx c (fun e s'=>∃t,Gh s' t∧Q e t) s):GW P N cx c Q s:=
 GW.Fc h fun e s' hq=>hq
theorem Ae:∀{l:List Oper}{d:Nat},d∈l.filterMap (·.dst)→d∈pA l
 | [],d,h=>by cases h
 | o::r,d,h=>by
  simp only[pA]
  cases ho:o.dst with
  | none=>
   rw[List.filterMap_cons_none ho] at h
   exact Ae h
  | some x=>
   rw[List.filterMap_cons_some ho] at h
   rcases bU.1 h with e | h
   ·subst e;exact aC
   ·exact aw _ (Ae h)
theorem AO {ds:List Nat}:∀{l:List (Nat×TV S)}{d:Nat},vg ds l=true→d∈ds→bd l d=none
 | [],_,_,_=>rfl
 | (k,v)::r,d,h,hm=>by
  simp only[vg,ah,aZ] at h
  simp only[bd]
  cases hb:Nat.beq k d with
  | true=>
   have:=ab hb
   subst this
   rw[bJ.2 hm] at h;cases h.1
  | false=>exact AO h.2 hm
theorem xQ {ln:Nat→Nat}:∀{fr:List (Nat×TV S)}{t:Nat},bd fr t=none→get (jq ln fr) t=none
 | [],_,_=>rfl
 | (k,g)::r,t,h=>by
  simp only[bd] at h
  simp only[jq,AM.get]
  cases hk:Nat.beq k t with
  | true=>rw[hk] at h;cases h
  | false=>rw[hk] at h;exact xQ h
theorem Jo (ds:List Nat) (s:ag S) (hn:vg ds s.lo=true) (d:Nat):bd (forget ds s).bN d=if bo d ds=true then none else bd s.bN d:=by
 show bd (bL ds s.fr++s.lo) d=if bo d ds=true then none else bd (s.fr++s.lo) d
 rw[pg,pg,km]
 cases h:bo d ds with
 | true=>rw[AO hn (bJ.1 h)];rfl
 | false=>rfl
theorem Gh.Sd {s t:St}(h1:∀d g,get t.fr d=some g→get s.fr d=some g) (h2:t.st=s.st) (h3:t.df=s.df):Gh s t:=by
 obtain⟨fr,st,df⟩:=s
 obtain⟨fr',st',df'⟩:=t
 dsimp only at h1 h2 h3
 subst h2;subst h3
 exact fun N cx μ a w hr=>⟨μ,{st:=hr.st,nd:=hr.nd,sz:=hr.sz,fr:=fun d g hg=>hr.fr d g (h1 d g hg)},Gh.same fun h k b m h4 h5=>⟨k,h4,h5⟩⟩
theorem zb {ln:Nat→Nat}(fr:List (Nat×TV S)) (t:Nat):get (jq ln fr) t=(bd fr t).map (TV.er ln):=by
 cases h:bd fr t with
 | none=>exact xQ h
 | some v=>exact fe h
theorem Lb {ops:Array Oper}{s:ag S}(hn:vg (pA ops.toList) s.lo=true):Gh s.er (forget (pA ops.toList) s).er∧∀d,d∈tL ops→get (forget (pA ops.toList) s).er.fr d=none:=by
 have key:∀d,get (forget (pA ops.toList) s).er.fr d=if bo d (pA ops.toList)=true then none else get s.er.fr d:=by
  intro d
  show get (jq s.ln (forget (pA ops.toList) s).bN) d=if bo d (pA ops.toList)=true then none else get (jq s.ln s.bN) d
  rw[zb,zb,Jo _ _ hn]
  split <;> rfl
 refine⟨Gh.Sd (fun d g hg=>?_) rfl rfl,fun d hd=>?_⟩
 ·rw[key] at hg
  split at hg
  ·cases hg
  ·exact hg
 ·rw[key,if_pos (bJ.2 (Ae hd))]
theorem xB (hm:P.follows .mixedOrders=true) (hcl:qN P N cl) (id:Nat) (ops:Array Oper) (draw:Bool) (W:Option (List Nat)):GV P N cx (.region id ops draw) (fun s B K=>match draw with
  | true=>match W with
   | some W=>uL P N (fun h=>bo h W) W ops (cl.call (fun h=>bo h W) B (yX ops K)) s (K .normal)
   | none=>uL P N (fun h=>Nat.blt h 1100) (List.range 1100) ops (cl.call (fun h=>Nat.blt h 1100) B (yX ops K)) s (K .normal)
  | false=>qh P N (fun h=>Nat.blt h 1100) ops.toList (cl.call (fun h=>Nat.blt h 1100) B fun ch=>K (.panic ch)) ops.toList s (K .normal)):=by
 intro s B K r hl h Q hQ
 have hp:∀ch (t:ag S),aJ t→bj s t→yX ops K ch t=some r→∃u,Gh t.er u∧Q (.panic ch) u∧∀d,d∈tL ops→get u.fr d=none:=by
  intro ch t a b c
  unfold yX at c
  split at c
  ·rename_i hn
   obtain⟨f1,f2⟩:=Lb hn
   exact⟨_,f1,hQ (.panic ch) _ (gY rfl) ⟨b.lo,b.bF,b.df⟩ c,f2⟩
  ·cases c
 cases draw with
 | true=>
  cases W with
  | some W=>exact Gk hm (Hx W) (hcl.call _ _ (Hx W) B (yX ops K) r) hl h (fun t a b c=>hQ .normal t a b c) hp
  | none=>exact Gk hm vR (hcl.call _ _ vR B (yX ops K) r) hl h (fun t a b c=>hQ .normal t a b c) hp
 | false=>
  have:ops=ops.toList.toArray:=by simp
  rw[this]
  exact GW.region (pI vR (hcl.call _ _ vR B _ r) (hcl.cT _ B _ r) hl h (fun t a b c=>hQ .normal t a b c) fun ch t a b c=>⟨_,Gh.refl _,hQ (.panic ch) t a b c⟩)
theorem wo:∀e,mo e=true→yJ e=false:=fun e h=>by cases e <;> first | rfl | cases h
theorem HF (id:Nat):∀e,wq id e=true→yJ e=false:=fun e h=>by cases e <;> first | rfl | cases h
theorem yU {c:Code}{Q:Exit→St→Prop}{s:St}(h:GW P N cx c (fun e s'=>mo e=true∧∃t,Gh s' t∧Q .normal t) s):GW P N cx c Q s:=
 Gh.lift (h.mono fun e s' ⟨h1,t,h2,h3⟩=>by
  cases e with
  | normal=>exact⟨t,h2,h3⟩
  | _=>cases h1)
theorem Fy {c:Code}{Q:Exit→St→Prop}{s:St}(h:GW P N cx c (fun e s'=>(mo e=true∧∃t,Gh s' t∧Q .normal t)∨(mo e=false∧∃t,Gh s' t∧Q e t)) s):GW P N cx c Q s:=
 Gh.lift (h.mono fun e s' hq=>by
  rcases hq with ⟨h1,t,h2,h3⟩ | ⟨h0,t,h2,h3⟩
  ·cases e with
   | normal=>exact⟨t,h2,h3⟩
   | _=>cases h1
  ·exact⟨t,h2,h3⟩)
theorem MM {id:Nat}{c:Code}{Q:Exit→St→Prop}{s:St}(h:GW P N cx c (fun e s'=>wq id e=true∧∃t,Gh s' t∧Q .normal t) s):GW P N cx (.block id c) Q s:=
 GW.block (Gh.lift (h.mono fun e s' ⟨h1,t,h2,h3⟩=>by
  refine⟨t,h2,?_⟩
  cases e with
  | normal=>exact h3
  | exit id'=>
   have:=ab h1
   subst this
   simp only[vG,if_true]
   exact h3
  | _=>cases h1))
theorem KP {id:Nat}{c:Code}{Q:Exit→St→Prop}{s:St}(h:GW P N cx c (fun e s'=>(wq id e=true∧∃t,Gh s' t∧Q .normal t)∨(wq id e=false∧∃t,Gh s' t∧Q e t)) s):GW P N cx (.block id c) Q s:=
 GW.block (Gh.lift (h.mono fun e s' hq=>by
  rcases hq with ⟨h1,t,h2,h3⟩ | ⟨h0,t,h2,h3⟩
  ·refine⟨t,h2,?_⟩
   cases e with
   | normal=>exact h3
   | exit id'=>
    have:=ab h1
    subst this
    simp only[vG,if_true]
    exact h3
   | _=>cases h1
  ·refine⟨t,h2,?_⟩
   cases e with
   | normal=>exact h3
   | exit id'=>
    simp only[wq] at h0
    simp only[vG]
    rw[if_neg (fun e=>by subst e;rw[aK] at h0;cases h0)]
    exact h3
   | _=>exact h3))
theorem Qh {a b:List (Nat×Array Tmp×Code×Code)}(h:a++b=[]∨cx.ro=none):a=[]∨cx.ro=none:=h.imp (fun h=>(List.append_eq_nil_iff.1 h).1) id
theorem Qg {a b:List (Nat×Array Tmp×Code×Code)}(h:a++b=[]∨cx.ro=none):b=[]∨cx.ro=none:=h.imp (fun h=>(List.append_eq_nil_iff.1 h).2) id
theorem kF (hm:P.follows .mixedOrders=true) (hcl:qN P N cl):∀(c:Code) (p:Nat),nH S N H (oD c p)→(oD c p=[]∨cx.ro=none)→GV P N cx c (fun s B K=>gf P N fu H cl c p s B K)
 | .skip,p,_,_=>fun s B K r hl h Q hQ=>GW.skip (hQ _ s hl (bj.refl s) h)
 | .region id ops draw,p,_,_=>fun s B K r hl h Q hQ=>by
  simp only[gf] at h
  split at h
  ·rename_i W j _
   refine yU (zM wo (run:=fun s B K=>match draw with
    | true=>uL P N (fun h=>bo h W) W ops (cl.call (fun h=>bo h W) B (yX ops K)) s (K .normal)
    | false=>qh P N (fun h=>Nat.blt h 1100) ops.toList (cl.call (fun h=>Nat.blt h 1100) B fun ch=>K (.panic ch)) ops.toList s (K .normal)) ?_ hl h hQ)
   intro s B K r hl h Q hQ
   refine xB hm hcl id ops draw (some W) s B K r hl ?_ Q hQ
   cases draw <;> exact h
  ·rename_i W _
   refine xB hm hcl id ops draw (some W) s B K r hl ?_ Q hQ
   cases draw <;> exact h
  ·obtain⟨s1,g1,g2,g3,h⟩:=Cc hl h
   refine GW.gh g1 (xB hm hcl id ops draw none s1 B K r g2 ?_ Q fun e t a b c=>hQ e t a (g3.trans b) c)
   cases draw <;> exact h
 | .seq x y,p,hr,ho=>fun s B K r hl h Q hQ=>by
  simp only[gf] at h
  obtain⟨s1,g1,g2,g3,h⟩:=Cc hl h
  refine GW.gh g1 (GW.seq (kF hm hcl x _ hr.fN.1 (Qh ho) s1 B _ r g2 h _ fun e t hlt hk hK=>?_))
  cases e with
  | normal=>exact kF hm hcl y _ hr.fN.2 (Qg ho) t B K r hlt hK Q fun e' t' a b c=>hQ e' t' a (g3.trans (hk.trans b)) c
  | _=>exact hQ _ t hlt (g3.trans hk) hK
 | .cond o x y,p,hr,ho=>fun s B K r hl h Q hQ=>by
  simp only[gf] at h
  split at h
  ·rename_i t
   split at h
   ·rename_i f b hb
    have hg:get s.er.fr t=some (.val (.bool b)):=by rw[show get s.er.fr t=_ from fe hb];exact congrArg some (gJ f b)
    have sub:∀(s:ag S),(∀d,bd s.bN d=bd s.bN d)→True:=fun _ _=>trivial
    have hrun:GV P N cx (.cond (.tmp t) x y) (fun s' B' K'=>match bd s'.bN t with
     | some (.ae _ .bool b')=>cond b' (gf P N fu H cl x (p+1) s' B' K') (gf P N fu H cl y (p+1+kX x) s' B' K')
     | _=>none):=by
     intro s' B' K' r' hl' h' Q' hQ'
     dsimp only at h'
     split at h'
     ·rename_i f' b' hb'
      have hg':get s'.er.fr t=some (.val (.bool b')):=by rw[show get s'.er.fr t=_ from fe hb'];exact congrArg some (gJ f' b')
      refine GW.cond hg' (fun e=>?_) (fun e=>?_)
      ·subst e;exact kF hm hcl x _ hr.fN.1 (Qh ho) s' B' K' r' hl' h' Q' hQ'
      ·subst e;exact kF hm hcl y _ hr.fN.2 (Qg ho) s' B' K' r' hl' h' Q' hQ'
     ·cases h'
    split at h
    ·rename_i j _
     have h2:wa s (dV s (lI x++lI y) (aH j.aI) (aH j.aj)) j mo (fun s' B' K'=>match bd s'.bN t with
      | some (.ae _ .bool b')=>cond b' (gf P N fu H cl x (p+1) s' B' K') (gf P N fu H cl y (p+1+kX x) s' B' K')
      | _=>none) K=some r:=by
      rw[←h]
      unfold wa
      split
      ·congr 1
       dsimp only
       rw[wI,hb]
      ·rfl
     exact yU (zM wo hrun hl h2 hQ)
    ·rename_i j _
     have h2:yG s (dV s (lI x++lI y) (aH j.aI) (aH j.aj)) j mo (fun s' B' K'=>match bd s'.bN t with
      | some (.ae _ .bool b')=>cond b' (gf P N fu H cl x (p+1) s' B' K') (gf P N fu H cl y (p+1+kX x) s' B' K')
      | _=>none) K=some r:=by
      rw[←h]
      unfold yG
      split
      ·congr 1
       dsimp only
       rw[wI,hb]
      ·rfl
     exact Fy (FA wo hrun hl h2 hQ)
    ·refine GW.cond hg (fun e=>?_) (fun e=>?_)
     ·subst e;exact kF hm hcl x _ hr.fN.1 (Qh ho) s B K r hl h Q hQ
     ·subst e;exact kF hm hcl y _ hr.fN.2 (Qg ho) s B K r hl h Q hQ
   ·cases h
  ·cases h
 | .block id c,p,hr,ho=>fun s B K r hl h Q hQ=>by
  simp only[gf] at h
  split at h
  ·exact MM (zM (HF id) (kF hm hcl c _ hr ho) hl h hQ)
  ·exact KP (FA (HF id) (kF hm hcl c _ hr ho) hl h hQ)
  ·refine GW.block (kF hm hcl c _ hr ho s B _ r hl h _ fun e t hlt hk hK=>?_)
   cases e with
   | exit id'=>
    dsimp only at hK
    simp only[vG]
    split at hK
    ·rename_i he
     rw[if_pos (ab he)]
     exact hQ _ t hlt hk hK
    ·rename_i he
     rw[if_neg (fun e=>by subst e;rw[aK] at he;cases he)]
     exact hQ _ t hlt hk hK
   | _=>exact hQ _ t hlt hk hK
 | .loop c,p,hr,ho=>fun s B K r hl h Q hQ=>by
  simp only[gf] at h
  split at h
  ·split at h
   ·rename_i s' hp
    obtain⟨a1,a2,a3⟩:=zC hl hp
    exact GW.gh a1 (MQ (kF hm hcl c _ hr ho) a2 h fun e t x y z=>hQ e t x (a3.trans y) z)
   ·cases h
  ·split at h
   ·rename_i s' hp
    obtain⟨a1,a2,a3⟩:=zC hl hp
    exact GW.gh a1 (MP (kF hm hcl c _ hr ho) a2 h fun e t x y z=>hQ e t x (a3.trans y) z)
   ·cases h
  ·cases h
 | .exit id,p,_,_=>fun s B K r hl h Q hQ=>GW.exit (hQ _ s hl (bj.refl s) h)
 | .ret,p,_,_=>fun s B K r hl h Q hQ=>GW.ret (hQ _ s hl (bj.refl s) h)
 | .rangeFunc g ps a b,p,hr,ho=>fun s B K r hl h Q hQ=>by
  simp only[gf] at h
  split at h
  ·rename_i key hd hh
   have h1:=hr.1
   rw[hh] at h1
   obtain⟨e1,e2,e3,e4⟩:=h1
   subst e2;subst e3;subst e4
   exact hcl.rf cx (ho.resolve_left fun h=>by cases h) key hd g e1 s B K r hl h Q hQ
  ·cases h
 | .scope _,p,_,_=>fun s B K r hl h Q hQ=>by simp[gf] at h
 | .label _,p,_,_=>fun s B K r hl h Q hQ=>by simp[gf] at h
 | .goto _,p,_,_=>fun s B K r hl h Q hQ=>by simp[gf] at h
 | .refuse _,p,_,_=>fun s B K r hl h Q hQ=>by simp[gf] at h
end
end Go.DN
/-
 DN,part Sb:a lent slice under a number of the call's own.
-/
namespace Go.DN
open Go.AM
mutual
theorem KM {h h':Nat}:∀g:G,g.bR h=false→nQ h h' g=g
 | .loc x off,e=>by
  show G.loc (mv h h' x) off=_
  rw[iH fun e'=>by subst e';simp[G.bR,aK] at e]
 | .aM x sz off n,e=>by
  show G.aM (mv h h' x) sz off n=_
  rw[iH fun e'=>by subst e';simp[G.bR,aK] at e]
 | .cT x,e=>by
  show G.cT (mv h h' x)=_
  rw[iH fun e'=>by subst e';simp[G.bR,aK] at e]
 | .eY x,e=>by
  show G.eY (mv h h' x)=_
  rw[iH fun e'=>by subst e';simp[G.bR,aK] at e]
 | .ks x i sz n,e=>by
  show G.ks (mv h h' x) i sz n=_
  rw[iH fun e'=>by subst e';simp[G.bR,aK] at e]
 | .kp x i off,e=>by
  show G.kp (mv h h' x) i off=_
  rw[iH fun e'=>by subst e';simp[G.bR,aK] at e]
 | .agg gs,e=>congrArg G.agg (yD gs e)
 | .aT gs,e=>congrArg G.aT (yD gs e)
 | .aR f gs,e=>congrArg (G.aR f) (yD gs e)
 | .any,_=>rfl
 | .val _,_=>rfl
 | .cQ _,_=>rfl
 | .sl _ _,_=>rfl
 | .ptr _,_=>rfl
 | .fr _,_=>rfl
theorem yD {h h':Nat}:∀gs:List G,G.bR.go h gs=false→nQ.go h h' gs=gs
 | [],_=>rfl
 | x::r,e=>by
  simp only[G.bR.go,bO] at e
  simp only[nQ.go,KM x e.1,yD r e.2]
end
section
variable {S:dr}
def xH (h h':Nat):TV S→TV S
 | .loc x o=>.loc (mv h h' x) o
 | .ia x τ i j=>.ia (mv h h' x) τ i j
 | .aM x τ=>.aM (mv h h' x) τ
 | .sub x τ o n=>.sub (mv h h' x) τ o n
 | .cT x=>.cT (mv h h' x)
 | .mp x=>.mp (mv h h' x)
 | .ks x τ i n=>.ks (mv h h' x) τ i n
 | .kp x τ i j=>.kp (mv h h' x) τ i j
 | .gH b x τ i j=>.gH b (mv h h' x) τ i j
 | .bP b x o=>.bP b (mv h h' x) o
 | .agg l=>.agg (go l)
 | .aT l=>.aT (go l)
 | .aR f l=>.aR f (go l)
 | v=>v
where go:List (TV S)→List (TV S)
 | []=>[]
 | x::r=>xH h h' x::go r
mutual
theorem KL {h h':Nat}{ln ln':Nat→Nat}(hln:∀x,x≠h'→ln' (mv h h' x)=ln x):∀v:TV S,v.has h'=false→(xH h h' v).er ln'=nQ h h' (v.er ln)
 | .ae f τ a,_=>(KM _ (Gm h f τ a)).symm
 | .ptr f τ a,_=>by cases f <;> rfl
 | .loc _ _,_=>rfl
 | .ia _ _ _ _,_=>rfl
 | .aM x τ,e=>by
  show G.aM _ _ _ (ln' (mv h h' x))=G.aM _ _ _ (ln x)
  rw[hln x fun e'=>by subst e';simp[TV.has,aK] at e]
 | .sub _ _ _ _,_=>rfl
 | .cT _,_=>rfl
 | .mp _,_=>rfl
 | .ks _ _ _ _,_=>rfl
 | .kp _ _ _ _,_=>rfl
 | .gH b _ _ _ _,_=>by cases b <;> rfl
 | .bP b _ _,_=>by cases b <;> rfl
 | .val _,_=>rfl
 | .any,_=>rfl
 | .agg l,e=>congrArg G.agg (re hln l e)
 | .aT l,e=>congrArg G.aT (re hln l e)
 | .aR f l,e=>congrArg (G.aR f) (re hln l e)
theorem re {h h':Nat}{ln ln':Nat→Nat}(hln:∀x,x≠h'→ln' (mv h h' x)=ln x):∀l:List (TV S),TV.has.go h' l=false→TV.er.go ln' (xH.go h h' l)=nQ.go h h' (TV.er.go ln l)
 | [],_=>rfl
 | x::r,e=>by
  simp only[TV.has.go,bO] at e
  simp only[xH.go,TV.er.go,nQ.go,KL hln x e.1,re hln r e.2]
end
def Qm (h h':Nat):TO S→TO S
 | .box e m cs=>.box e m (xH.go h h' cs)
 | .lp l n cs=>.lp l n (xH.go h h' cs)
 | o=>o
def KN (h h':Nat):List (Nat×TV S)→List (Nat×TV S)
 | []=>[]
 | (t,v)::r=>(t,xH h h' v)::KN h h' r
def Dh (h h':Nat):List (Nat×TO S)→List (Nat×TO S)
 | []=>[]
 | (k,o)::r=>(mv h h' k,Qm h h' o)::Dh h h' r
def ag.move (s:ag S) (h h':Nat):ag S:={fr:=KN h h' s.bN,lo:=[],st:=Dh h h' s.a7,bF:=[],df:=xH.go h h' s.df,nx:=s.nx,last:=[]}
theorem Ql {h h' x y:Nat}(hx:x≠h') (hy:y≠h'):Nat.beq (mv h h' x) (mv h h' y)=Nat.beq x y:=by
 cases hb:Nat.beq x y with
 | true=>have:=ab hb;subst this;exact aK _
 | false=>
  cases hc:Nat.beq (mv h h' x) (mv h h' y) with
  | false=>rfl
  | true=>
   have e:=ab hc
   have hne:x≠y:=fun e=>by subst e;rw[aK] at hb;cases hb
   by_cases h1:x=h
   ·subst h1
    by_cases h2:y=x
    ·exact absurd h2.symm hne
    ·rw[tc,iH h2] at e;exact absurd e.symm hy
   ·by_cases h2:y=h
    ·subst h2;rw[tc,iH h1] at e;exact absurd e hx
    ·rw[iH h1,iH h2] at e;exact absurd e hne
theorem Fv {h h':Nat}:∀{st:List (Nat×TO S)}{x:Nat},aA st h'=none→x≠h'→aA (Dh h h' st) (mv h h' x)=(aA st x).map (Qm h h')
 | [],_,_,_=>rfl
 | (k,o)::r,x,hn,hx=>by
  simp only[aA] at hn
  cases hb:Nat.beq k h' with
  | true=>rw[hb] at hn;cases hn
  | false=>
   rw[hb] at hn
   have hk:k≠h':=fun e=>by subst e;rw[aK] at hb;cases hb
   simp only[Dh,aA,Ql hk hx]
   cases Nat.beq k x with
   | true=>rfl
   | false=>exact Fv hn hx
theorem O3 (h h':Nat) (o:TO S):(Qm h h' o).len=o.len:=by cases o <;> rfl
theorem Hw {s:ag S}{h h':Nat}(hf:s.free h'=true):(s.move h h').er={fr:=xI h h' s.er.fr,st:=tB h h' s.er.st,df:=nQ.go h h' s.er.df}:=by
 obtain⟨f1,f2,f3,f4,_⟩:=free_spec hf
 have hln:∀x,x≠h'→(s.move h h').ln (mv h h' x)=s.ln x:=by
  intro x hx
  show bG (Dh h h' s.a7++[]) (mv h h' x)=bG s.a7 x
  rw[cH]
  unfold bG
  rw[Fv f1 hx]
  cases aA s.a7 x with
  | none=>rfl
  | some o=>exact O3 h h' o
 have e1:∀fr:List (Nat×TV S),fT h' fr=false→jq (s.move h h').ln (KN h h' fr)=xI h h' (jq s.ln fr):=by
  intro fr
  induction fr with
  | nil=>intro _;rfl
  | cons x r ih=>
   obtain⟨t,v⟩:=x
   intro e
   simp only[fT,bO] at e
   simp only[KN,jq,xI,ih e.2,KL hln v e.1]
 have e2:∀st:List (Nat×TO S),cW h' st=false→bA (s.move h h').ln (Dh h h' st)=tB h h' (bA s.ln st):=by
  intro st
  induction st with
  | nil=>intro _;rfl
  | cons x r ih=>
   obtain⟨t,o⟩:=x
   intro e
   simp only[cW,bO] at e
   simp only[Dh,bA,tB,ih e.2]
   congr 2
   cases o with
   | arr e m f τ l=>rfl
   | deep e m f dk τ a=>rfl
   | box e' m cs=>
    show aq.mk _ _ _ _ _ (TV.er.go _ (xH.go h h' cs)) _=aq.mk _ _ _ _ _ (nQ.go h h' (TV.er.go s.ln cs)) _
    rw[re hln cs e.1];rfl
   | lp l n cs=>
    show aq.mk _ _ _ _ _ (TV.er.go _ (xH.go h h' cs)) _=aq.mk _ _ _ _ _ (nQ.go h h' (TV.er.go s.ln cs)) _
    rw[re hln cs e.1];rfl
 show St.mk (jq _ (KN h h' s.bN++[])) (bA _ (Dh h h' s.a7++[])) (TV.er.go _ (xH.go h h' s.df))=_
 rw[cH,cH,e1 _ f2,e2 _ f3,re hln s.df f4]
 rfl
def yF:List Nat→ag S→Option (ag S)
 | [],s=>some s
 | r::rs,s=>match s.free (r-520)&&!(Nat.beq (r-520) r) with
  | true=>yF rs (s.move r (r-520))
  | false=>none
theorem zL {P:Program}{N:Nat}{cx:Cx}{c:Code}{Q:Exit→St→Prop}:∀{l:List Nat}{s t:ag S},aJ s→yF l s=some t→(aJ t→GW P N cx c Q t.er)→GW P N cx c Q s.er
 | [],s,t,hl,h,hk=>by cases h;exact hk hl
 | r::rs,s,t,hl,h,hk=>by
  simp only[yF] at h
  split at h
  ·rename_i hc
   simp only[ah,aZ] at hc
   refine GW.move r (r-520) (iM hc.1) hc.2 ?_
   rw[←Hw hc.1]
   exact zL (gY rfl) h hk
  ·cases h
end
end Go.DN
/-
 DN,part T:functions:what they hand back;contracts;calls that lend nothing.
-/
namespace Go.DN
open Go.AM
section
variable {S:dr}
def isNil {α:Type}:List α→Bool
 | []=>true
 | _=>false
def Ef (P:Program) (t:ag S):ResultVar→Option (TV S)
 | .tmp d=>bd t.bN d
 | .cell c ty=>match bd t.bN c with
  | some (.loc h 0)=>match aA t.a7 h with
   | some (.box _ _ vs)=>match CO P ty with
    | some true=>match decEq (nc P ty) (some vs.length) with
     | isTrue _=>some (.agg vs)
     | isFalse _=>none
    | some false=>match vs with
     | [v]=>some v
     | _=>none
    | none=>none
   | _=>none
  | _=>none
def Qe (D DO:List Nat) (t:ag S):ResultVar→Bool
 | .tmp d=>!(bo d D)
 | .cell c _=>!(bo c D)&&match bd t.bN c with
  | some (.loc h _)=>!(bo h DO)
  | _=>false
def N7 (P:Program) (t:ag S):List ResultVar→List (Nat×Sh)→List Nat
 | rv::r,(_,sh)::l=>(match Ef P t rv with | some v=>IN sh v | none=>[])++N7 P t r l
 | _,_=>[]
def Eh (P:Program) (D DO:List Nat) (t:ag S):List ResultVar→List (Nat×Sh)→Option (List (aY S.α))
 | [],[]=>some []
 | rv::r,(_,sh)::l=>match Qe D DO t rv with
  | true=>match Ef P t rv with
   | some v=>match kV sh v with
    | some xs=>match Eh P D DO t r l with
     | some ys=>some (xs++ys)
     | none=>none
    | none=>none
   | none=>none
  | false=>none
 | _,_=>none
def Pz:Sh→List Sh
 | .agg l=>l
 | x=>[x]
def tg (aI:List (Nat×Oh)):List ResultVar→List (Nat×Sh)→ag S→Option (ag S)
 | .cell c _::r,(_,sh)::l,s=>match bd s.bN c with
  | some (.loc h 0)=>match oy aI h 0 (Pz sh) s with
   | some s'=>tg aI r l s'
   | none=>none
  | _=>tg aI r l s
 | .tmp _::r,_::l,s=>tg aI r l s
 | _,_,s=>some s
theorem sR {aI:List (Nat×Oh)}:∀{rvs:List ResultVar}{l:List (Nat×Sh)}{s t:ag S},aJ s→tg aI rvs l s=some t→Gh s.er t.er∧aJ t∧bj s t
 | .cell c _::r,(_,sh)::l,s,t,hl,h=>by
  simp only[tg] at h
  split at h
  ·split at h
   ·rename_i s' hs
    obtain⟨a1,a2,a3⟩:=ek hl hs
    obtain⟨b1,b2,b3⟩:=sR (rvs:=r) a2 h
    exact⟨a1.trans b1,b2,a3.trans b3⟩
   ·cases h
  ·exact sR (rvs:=r) hl h
 | .tmp _::r,_::l,s,t,hl,h=>sR (rvs:=r) (l:=l) hl h
 | [],_,s,t,hl,h=>by cases h;exact⟨Gh.refl _,hl,bj.refl s⟩
 | .cell _ _::_,[],s,t,hl,h=>by cases h;exact⟨Gh.refl _,hl,bj.refl s⟩
 | .tmp _::_,[],s,t,hl,h=>by cases h;exact⟨Gh.refl _,hl,bj.refl s⟩
def GQ (rvs:List ResultVar) (aj:List (Nat×Sh)) (aI:List (Nat×Oh)) (s:ag S):Option (ag S):=match tg aI rvs aj s with
 | some s'=>BQ aj aI s'
 | none=>none
theorem LQ {rvs:List ResultVar}{aj:List (Nat×Sh)}{aI:List (Nat×Oh)}{s t:ag S}(hl:aJ s) (h:GQ rvs aj aI s=some t):Gh s.er t.er∧aJ t∧bj s t:=by
 unfold GQ at h
 split at h
 ·rename_i s' hs
  obtain⟨a1,a2,a3⟩:=sR hl hs
  obtain⟨b1,b2,b3⟩:=DY a2 h
  exact⟨a1.trans b1,b2,a3.trans b3⟩
 ·cases h
def wE (P:Program) (t:ag S) (rvs:List ResultVar) (aj:List (Nat×Sh)) (outs:List (Nat×Oh)):Option (aT S.α (JH.cg ⟨aj,outs⟩)):=
 match GQ rvs aj outs t with
 | some t1=>match qv (N7 P t1 rvs aj++AQ t1.a7 outs) t1 with
  | some t2=>match isNil t2.df&&within (nL aj++pJ outs) (aH outs) with
   | true=>match Eh P (ry (aH outs) t2.bN) (aH outs++ru (aH outs) t2.a7) t2 rvs aj with
    | some xs=>match vT t2.a7 outs with
     | some ys=>nz (JH.cg ⟨aj,outs⟩) (xs++ys)
     | none=>none
    | none=>none
   | false=>none
  | none=>none
 | none=>none
theorem uP.rw {P:Program}{s:St}{rv:ResultVar}{g g':G}(h:uP P s rv g) (hw:RW g g'):uP P s rv g':=fun N cx μ a w hr=>by
 obtain⟨v,h1,h2⟩:=h N cx μ a w hr
 exact⟨v,hw _ _ _ _ _ h1,h2⟩
theorem Ch {ks:List Nat}:∀{fr:List (Nat×TV S)}{d:Nat}{v:TV S},bd fr d=some v→bo d (ry ks fr)=false→v.bad ks=false
 | [],_,_,h,_=>by cases h
 | (t,w)::r,d,v,h,hm=>by
  simp only[bd] at h
  simp only[ry] at hm
  cases hb:Nat.beq t d with
  | true=>
   rw[hb] at h;cases h
   have e:=ab hb
   subst e
   cases hv:w.bad ks with
   | false=>rfl
   | true=>rw[hv] at hm;rw[bJ.2 aC] at hm;cases hm
  | false=>
   rw[hb] at h
   refine Ch h ?_
   cases hw:w.bad ks with
   | false=>rw[hw] at hm;exact hm
   | true=>
    rw[hw] at hm
    cases hx:bo d (ry ks r) with
    | false=>rfl
    | true=>rw[bJ.2 (aw _ (bJ.1 hx))] at hm;cases hm
theorem Cg {ks:List Nat}:∀{st:List (Nat×TO S)}{d:Nat}{o:TO S},aA st d=some o→bo d (ru ks st)=false→o.bad ks=false
 | [],_,_,h,_=>by cases h
 | (t,w)::r,d,v,h,hm=>by
  simp only[aA] at h
  simp only[ru] at hm
  cases hb:Nat.beq t d with
  | true=>
   rw[hb] at h;cases h
   have e:=ab hb
   subst e
   cases hv:w.bad ks with
   | false=>rfl
   | true=>rw[hv] at hm;rw[bJ.2 aC] at hm;cases hm
  | false=>
   rw[hb] at h
   refine Cg h ?_
   cases hw:w.bad ks with
   | false=>rw[hw] at hm;exact hm
   | true=>
    rw[hw] at hm
    cases hx:bo d (ru ks r) with
    | false=>rfl
    | true=>rw[bJ.2 (aw _ (bJ.1 hx))] at hm;cases hm
theorem Fx {x:Nat}{a b:List Nat}(h:bo x (a++b)=false):bo x a=false∧bo x b=false:=by
 constructor
 ·cases h1:bo x a with
  | false=>rfl
  | true=>rw[bJ.2 (cy _ (bJ.1 h1))] at h;cases h
 ·cases h1:bo x b with
  | false=>rfl
  | true=>rw[bJ.2 (cL _ (bJ.1 h1))] at h;cases h
theorem Fq {P:Program}{D DO:List Nat}{t u:ag S}(hu:∀d v,bo d D=false→bd t.bN d=some v→AM.get u.er.fr d=some (v.er t.ln)) (ho:∀h e m cs,bo h DO=false→aA t.a7 h=some (.box e m cs)→ay u.er.st h=some ((TO.box e m cs).er t.ln)):
  ∀{rvs:List ResultVar}{aj:List (Nat×Sh)}{xs:List (aY S.α)},Eh P D DO t rvs aj=some xs→∀(r:List (aY S.α)),(bT aj (xs++r)).2=r∧ua P u.er rvs (((bT aj (xs++r)).1.map (·.2)).map (TV.er t.ln))
 | [],[],xs,h,r=>by cases h;exact⟨rfl,trivial⟩
 | rv::rvs,(d,sh)::l,xs,h,r=>by
  simp only[Eh] at h
  split at h
  ·rename_i hok
   split at h
   ·rename_i v hv
    split at h
    ·rename_i xs1 hx
     split at h
     ·rename_i ys hy
      cases h
      obtain⟨i1,i2⟩:=Fq hu ho hy r
      obtain⟨p1,p2⟩:=zE t.ln hx (ys++r)
      rw[aL]
      simp only[bT]
      rw[p1]
      refine⟨i1,uP.rw ?_ p2,i2⟩
      cases rv with
      | tmp d'=>
       simp only[Qe,aZ] at hok
       exact uP.tmp (hu d' v hok hv)
      | cell c ty=>
       simp only[Qe,ah,aZ] at hok
       simp only[Ef] at hv
       split at hv
       ·rename_i h' hc
        rw[hc] at hok
        have hc':AM.get u.er.fr c=some (.loc h' 0):=hu c _ hok.1 hc
        split at hv
        ·rename_i e m vs hb
         have hb':=ho h' e m vs (by simpa using hok.2) hb
         split at hv
         ·rename_i ha
          split at hv
          ·rename_i hs _
           cases hv
           have hl:(TV.er.go t.ln vs).length=vs.length:=by rw[cS,aU]
           have:=uP.PA (P:=P) (t:=ty) hc' hb' rfl (eS ha) (cD hs) (by show 0+vs.length≤(TV.er.go t.ln vs).length;omega)
           have e3:(((TO.box e m vs:TO S).er t.ln).cells.drop 0).take vs.length=TV.er.go t.ln vs:=by
            show((TV.er.go t.ln vs).drop 0).take vs.length=_
            rw[iC,dz (by omega)]
           rw[e3] at this
           exact this
          ·cases hv
         ·rename_i ha
          split at hv
          ·cases hv
           exact uP.cell (P:=P) (t:=ty) hc' hb' rfl (eS ha) (by cases hq:v.er t.ln <;> simp[aq.out,TO.er,hq])
          ·cases hv
         ·cases hv
        ·cases hv
       ·cases hv
     ·cases h
    ·cases h
   ·cases h
  ·cases h
 | [],_::_,_,h,_=>by cases h
 | _::_,[],_,h,_=>by cases h
theorem zh (ks:List Nat):∀(l:List (Nat×Sh)) (ls:List (aY S.α)),(∀k,k∈nL l→k∈ks)→∀d v,(d,v)∈(bT l ls).1→v.bad ks=false
 | [],ls,_,d,v,h=>by cases h
 | (d0,sh)::r,ls,hk,d,v,h=>by
  simp only[bT] at h
  rcases bU.1 h with e | h
  ·cases e;exact wB ks sh ls fun k hk'=>hk k (cy _ hk')
  ·exact zh ks r _ (fun k hk'=>hk k (cL _ hk')) d v h
theorem HQ {P:Program}{t:ag S}{rvs:List ResultVar}{aj:List (Nat×Sh)}{outs:List (Nat×Oh)}{q:aT S.α (JH.cg ⟨aj,outs⟩)}(hl:aJ t) (h:wE P t rvs aj outs=some q):
  ∃u:ag S,Gh t.er u.er∧u.er.df=[]∧ua P u.er rvs (((bT aj (leaves _ q)).1.map (·.2)).map (TV.er (bG (bS outs (bT aj (leaves _ q)).2).1)))∧
   ∃O',u.a7=(bS outs (bT aj (leaves _ q)).2).1++O'∧(∀k,k∈aH outs→u.ln k=bG (bS outs (bT aj (leaves _ q)).2).1 k)∧∀k,k∈pJ outs→k∈aH outs:=by
 unfold wE at h
 split at h
 ·rename_i t1 hp1
  obtain⟨a1,a2,a3⟩:=LQ hl hp1
  split at h
  ·rename_i t2 hp2
   obtain⟨b1,b2,b3⟩:=mq a2 hp2
   split at h
   ·rename_i hc
    simp only[ah] at hc
    obtain⟨c1,c2⟩:=hc
    have c2:=mU c2
    split at h
    ·rename_i xs hx
     split at h
     ·rename_i ys hy
      have hq:=gP h
      have hdf:t2.df=[]:=by
       cases hd:t2.df with
       | nil=>rfl
       | cons x r=>rw[hd] at c1;cases c1
      let O':=bL (aH outs++ru (aH outs) t2.a7) t2.a7
      let F':=bL (ry (aH outs) t2.bN) t2.bN
      let u:ag S:={fr:=F',lo:=[],st:=(bS outs ys).1++O',bF:=[],df:=[],nx:=0,last:=[]}
      have eu:u.a7=(bS outs ys).1++O':=cH _
      have ef:u.bN=F':=cH _
      have hks:∀k,k∈aH outs→t2.ln k=u.ln k∧u.ln k=bG (bS outs ys).1 k:=by
       intro k hk
       obtain⟨o,o',e1,e2,e3⟩:=xD hy k hk
       have e4:u.ln k=bG (bS outs ys).1 k:=by
        show bG u.a7 k=_
        rw[eu];unfold bG;rw[eo,e1]
       refine⟨?_,e4⟩
       rw[e4]
       show bG t2.a7 k=_
       unfold bG;rw[e1,e2];exact e3.symm
      have hg:Gh t2.er u.er:=told (aj:=[]) (xs:=[]) (ks:=aH outs) (O':=O') (F':=F') rfl hy ef eu
       (fun d v hv=>by
        have hv:bd (bL (ry (aH outs) t2.bN) t2.bN) d=some v:=hv
        rw[km] at hv
        split at hv
        ·cases hv
        ·rename_i hm;exact⟨hv,Ch hv hm⟩)
       (fun d o ho=>by
        have ho:aA (bL (aH outs++ru (aH outs) t2.a7) t2.a7) d=some o:=ho
        rw[jH] at ho
        split at ho
        ·cases ho
        ·rename_i hm;exact⟨ho,Cg ho (Fx hm).2⟩)
       (fun k hk=>(hks k hk).1) (fun k hk=>by cases hk) (fun k hk=>c2 k (cL _ hk)) hdf.symm (by rw[hdf];rfl)
      obtain⟨r1,r2⟩:=Fq (P:=P) (u:=u) (t:=t2) (fun d v hm hv=>by
        have e:bd u.bN d=some v:=by rw[ef];show bd (bL _ t2.bN) d=_;rw[km,hm];exact hv
        rw[show AM.get u.er.fr d=_ from fe e]
        rw[lW (fun k hk=>(hks k hk).1) v (Ch hv hm)])
       (fun k e m cs hm ho=>by
        obtain⟨m1,m2⟩:=Fx hm
        have hout:aA (bS outs ys).1 k=none:=by
         cases hh:aA (bS outs ys).1 k with
         | none=>rfl
         | some o=>
          have:k∈aH (bS outs ys).1:=rS hh
          rw[ku] at this
          rw[bJ.2 this] at m1;cases m1
        have e2:aA u.a7 k=some (.box e m cs):=by
         rw[eu,eo,hout]
         show aA (bL _ t2.a7) k=_
         rw[jH,hm];exact ho
        rw[show ay u.er.st k=_ from jA e2]
        exact congrArg some (TO.lW (fun k hk=>(hks k hk).1) _ (Cg ho m2)).symm) hx ys
      refine⟨u,a1.trans (b1.trans hg),rfl,?_,O',?_,?_⟩
      ·rw[hq,r1]
       have:∀(l:List (Nat×TV S)),(∀d v,(d,v)∈l→v.bad (aH outs)=false)→(l.map (·.2)).map (TV.er (bG (bS outs ys).1))=(l.map (·.2)).map (TV.er t2.ln):=by
        intro l hl
        induction l with
        | nil=>rfl
        | cons x r ih=>
         simp only[az]
         rw[ih fun d v hm=>hl d v (aw _ hm),lW (fun k hk=>((hks k hk).1.trans (hks k hk).2).symm) x.2 (hl x.1 x.2 aC)]
       rw[this _ (zh (aH outs) aj _ fun k hk=>c2 k (cy _ hk))]
       exact r2
      ·rw[hq,r1];exact eu
      ·rw[hq,r1];exact⟨fun k hk=>(hks k hk).2,fun k hk=>c2 k (cL _ hk)⟩
     ·cases h
    ·cases h
   ·cases h
  ·cases h
 ·cases h
def mg {α:Type}:List α→Nat→List (Nat×α)
 | [],_=>[]
 | x::r,j=>(j,x)::mg r (j+1)
def dd (args:List Sh) (aI:List Oh) (ls:List (aY S.α)):ag S:={fr:=mg (cw args ls).1 0,lo:=[],st:=(bS (mg aI 1000) (cw args ls).2).1,bF:=[],df:=[],nx:=300,last:=[]}
def iQ (args:List Sh) (aI:List Oh):List Ty:=vO args++AN (mg aI 1000)
theorem wz (ln:Nat→Nat):∀(args:List (TV S)) (j:Nat),jq ln (mg args j)=jZ (TV.er.go ln args) j
 | [],_=>rfl
 | x::r,j=>by simp only[mg,jq,TV.er.go,jZ,wz ln r (j+1)]
def lF (aj:List (Nat×Sh)) (ls:List (aY S.α)):TV S:=match (bT aj ls).1 with
 | [(_,v)]=>v
 | l=>.aT (l.map (·.2))
def qY (P:Program):List ResultVar→List (Nat×Sh)→ag S→ag S
 | rv::r,(_,.own h _)::l,s=>match Ef P s rv with
  | some (.aM h' _)=>match Nat.beq h h' with
   | true=>qY P r l s
   | false=>match (rD s h).free h with
    | true=>qY P r l ((rD s h).move h' h)
    | false=>qY P r l s
  | _=>qY P r l s
 | _::r,_::l,s=>qY P r l s
 | _,_,s=>s
def Gw (s t:St):Prop:=∀(N:Nat) (cx:Cx) (μ:Mu) (a:Act) (w:World),Rel N cx μ s a w→∃μ',Rel N cx μ' t a w
theorem Gh.w {s t:St}(h:Gh s t):Gw s t:=fun N cx μ a w hr=>let ⟨μ',h1,_⟩:=h N cx μ a w hr;⟨μ',h1⟩
theorem Gw.trans {a b c:St}(h:Gw a b) (h':Gw b c):Gw a c:=fun N cx μ ac w hr=>let ⟨μ1,h1⟩:=h N cx μ ac w hr;h' N cx μ1 ac w h1
theorem fR {P:Program}:∀{rvs:List ResultVar}{l:List (Nat×Sh)}{s:ag S},aJ s→Gw s.er (qY P rvs l s).er∧aJ (qY P rvs l s)
 | rv::r,(_,.own h _)::l,s,hl=>by
  simp only[qY]
  split
  ·rename_i h' _ _
   cases hb:Nat.beq h h' with
   | true=>exact fR hl
   | false=>
    dsimp only
    split
    ·rename_i hf
     obtain⟨a1,a2,_⟩:=F5 h hl
     obtain⟨b1,b2⟩:=fR (P:=P) (rvs:=r) (l:=l) (s:=(rD s h).move h' h) (gY rfl)
     refine⟨a1.w.trans (Gw.trans (fun N cx μ a w hr=>?_) b1),b2⟩
     rw[Hw hf]
     exact⟨_,hr.move h' h (iM hf) hb⟩
    ·exact fR hl
  ·exact fR hl
 | [],_,s,hl=>by simp only[qY];exact⟨(Gh.refl _).w,hl⟩
 | _::_,[],s,hl=>by simp only[qY];exact⟨(Gh.refl _).w,hl⟩
 | _::r,(_,.ae _ _)::l,s,hl=>fR (rvs:=r) (l:=l) hl
 | _::r,(_,.ptr _ _)::l,s,hl=>fR (rvs:=r) (l:=l) hl
 | _::r,(_,.loc _ _)::l,s,hl=>fR (rvs:=r) (l:=l) hl
 | _::r,(_,.aR _ _)::l,s,hl=>fR (rvs:=r) (l:=l) hl
 | _::r,(_,.agg _)::l,s,hl=>fR (rvs:=r) (l:=l) hl
 | _::r,(_,.cT _)::l,s,hl=>fR (rvs:=r) (l:=l) hl
 | _::r,(_,.bP _ _)::l,s,hl=>fR (rvs:=r) (l:=l) hl
 | _::r,(_,.mp _)::l,s,hl=>fR (rvs:=r) (l:=l) hl
 | _::r,(_,.gH _ _)::l,s,hl=>fR (rvs:=r) (l:=l) hl
 | _::r,(_,.ks _ _)::l,s,hl=>fR (rvs:=r) (l:=l) hl
 | _::r,(_,.any)::l,s,hl=>fR (rvs:=r) (l:=l) hl
 | _::r,(_,.mu)::l,s,hl=>fR (rvs:=r) (l:=l) hl
 | _::r,(_,.sub _ _)::l,s,hl=>fR (rvs:=r) (l:=l) hl
theorem GW.OP {P:Program}{N:Nat}{cx:Cx}{c:Code}{Q Q':Exit→St→Prop}{s:St}(h:GW P N cx c Q' s) (hq:∀e s,Q' e s→∃t,Gw s t∧Q e t):GW P N cx c Q s:=fun μ a w hr=>
 wpIn_mono (h μ a w hr) fun e a' w' hl=>by
  cases e with
  | outgrown=>exact hl.elim
  | _=>
   obtain⟨μ',s',hr',h4⟩:=hl
   obtain⟨t,h5,h6⟩:=hq _ _ h4
   obtain⟨μ2,h7⟩:=h5 N cx μ' a' w' hr'
   exact⟨μ2,t,h7,h6⟩
noncomputable def CG (P:Program) (N fu:Nat) (H:List (Nat×Hint)) (cl:Cl S) (c:Code) (mvs:List Nat) (rvs:List ResultVar) (args:List Sh) (aI:List Oh) (aj:List (Nat×Sh)) (outs:List (Nat×Oh)) (q:aT S.α (iQ args aI)):Option (aT S.α (JH.cg ⟨aj,outs⟩)):=
 match yF mvs (dd args aI (leaves _ q)) with
 | some s=>gf P N fu H cl c 0 s _ fun e t=>match e with
  | .ret=>wE P (qY P rvs aj t) rvs aj outs
  | .normal=>wE P (qY P rvs aj t) rvs aj outs
  | _=>none
 | none=>none
theorem HH (st st':List (Nat×aq)) (f:Bool){τ:Ty}(h:τ.fq=false) (a:S.D τ):hZ st st' (dc f (da S τ a))=some (dc f (da S τ a)):=by
 cases τ with
 | st n=>cases h
 | pt n=>cases a <;> cases f <;> rfl
 | _=>cases f <;> rfl
theorem QB (st st':List (Nat×aq)) (f:Bool) (τ:Ty) (a:S.D τ):hZ st st' (nh f τ a)=some (nh f τ a):=by
 cases τ with
 | st n=>
  show(hZ.go st st' ((aP S (.st n) a).map (dc f))).map G.agg=_
  have:hZ.go st st' ((aP S (.st n) a).map (dc f))=some ((aP S (.st n) a).map (dc f)):=by
   rw[fZ]
   have h:=kB n a
   generalize S.cells n a=l at h
   induction l with
   | nil=>rfl
   | cons x r ih=>
    simp only[az,hZ.go]
    rw[HH st st' f (h x aC) x.a,ih fun y hy=>h y (aw _ hy)]
  rw[this];rfl
 | _=>exact HH st st' f rfl a
theorem zr {ln:Nat→Nat}{st:List (Nat×aq)}:∀{l:List (Nat×TO S)},(∀j o,(j,o)∈l→ay st j=some (o.er ln))→pc st (bA ln l)
 | [],_=>trivial
 | (j,o)::r,h=>⟨h j o aC,zr fun j o hm=>h j o (aw _ hm)⟩
def TV.still (ks:List Nat):TV S→Bool
 | .ae _ _ _=>true
 | .ptr _ _ _=>true
 | .loc h _=>bo h ks
 | .aM h _=>bo h ks
 | .sub h _ _ _=>bo h ks
 | .agg l=>go ks l
 | .aT l=>go ks l
 | .aR _ l=>go ks l
 | .val (.slice none 0 0)=>false
 | .val _=>true
 | .any=>true
 | .gH _ h _ _ _=>bo h ks
 | .bP _ h _=>bo h ks
 | .ks h _ _ _=>bo h ks
 | .mp h=>bo h ks
 | _=>false
where go (ks:List Nat):List (TV S)→Bool
 | []=>true
 | x::r=>x.still ks&&go ks r
theorem uk {ln:Nat→Nat}{l:List (Nat×TO S)}{h:Nat}(hk:h∈aH l):∃k,ay (bA ln l) h=some k:=by
 obtain⟨o,ho⟩:=nO hk
 exact⟨_,jA ho⟩
mutual
theorem zs {ln lo:Nat→Nat}{st:List (Nat×aq)}{l:List (Nat×TO S)}:∀v:TV S,v.still (aH l)=true→hZ st (bA lo l) (v.er ln)=some (v.er ln)
 | .ae f τ a,_=>QB st _ f τ a
 | .ptr f τ a,_=>by cases f <;> rfl
 | .loc h o,e=>by
  obtain⟨k,hk⟩:=uk (ln:=lo) (bJ.1 e)
  simp only[TV.er,hZ,hk]
 | .aM h τ,e=>by
  obtain⟨k,hk⟩:=uk (ln:=lo) (bJ.1 e)
  simp only[TV.er,hZ,hk]
 | .agg vs,e=>by
  show(hZ.go st (bA lo l) (TV.er.go ln vs)).map G.agg=_
  rw[ui vs e];rfl
 | .aT vs,e=>by
  show(hZ.go st (bA lo l) (TV.er.go ln vs)).map G.aT=_
  rw[ui vs e];rfl
 | .aR f vs,e=>by
  show(hZ.go st (bA lo l) (TV.er.go ln vs)).map (G.aR f)=_
  rw[ui vs e];rfl
 | .val u,e=>by
  have key:yB u=.val u:=by
   unfold TV.still at e
   unfold yB
   split
   ·cases e
   ·rfl
  show some (yB u)=some (.val u)
  rw[key]
 | .any,_=>rfl
 | .sub h τ o n,e=>by
  obtain⟨k,hk⟩:=uk (ln:=lo) (bJ.1 e)
  simp only[TV.er,hZ,hk]
 | .ia _ _ _ _,e=>by cases e
 | .cT _,e=>by cases e
 | .mp _,_=>rfl
 | .ks _ _ _ _,_=>rfl
 | .kp _ _ _ _,e=>by cases e
 | .gH b _ _ _ _,e=>by cases b <;> rfl
 | .bP b h o,e=>by
  cases b with
  | true=>rfl
  | false=>
   obtain⟨k,hk⟩:=uk (ln:=lo) (bJ.1 e)
   show hZ st (bA lo l) (.loc h o)=_
   simp only[hZ,hk]
   rfl
theorem ui {ln lo:Nat→Nat}{st:List (Nat×aq)}{l:List (Nat×TO S)}:∀vs:List (TV S),TV.still.go (aH l) vs=true→hZ.go st (bA lo l) (TV.er.go ln vs)=some (TV.er.go ln vs)
 | [],_=>rfl
 | x::r,e=>by
  simp only[TV.still.go,ah] at e
  simp only[TV.er.go,hZ.go,zs x e.1,ui r e.2]
end
mutual
def Sh.still (ks:List Nat):Sh→Bool
 | .ae _ _=>true
 | .ptr _ _=>true
 | .own h _=>bo h ks
 | .loc h _=>bo h ks
 | .aR _ l=>va ks l
 | .agg l=>va ks l
 | .cT _=>false
 | .mp h=>bo h ks
 | .gH h _=>bo h ks
 | .bP h _=>bo h ks
 | .ks h _=>bo h ks
 | .any=>true
 | .mu=>true
 | .sub h _=>bo h ks
def va (ks:List Nat):List Sh→Bool
 | []=>true
 | x::r=>x.still ks&&va ks r
end
def rL (ks:List Nat):List (Nat×Sh)→Bool
 | []=>true
 | (_,x)::r=>x.still ks&&rL ks r
mutual
theorem zf (ks:List Nat):∀(sh:Sh) (ls:List (aY S.α)),sh.still ks=true→(gI sh ls).1.still ks=true
 | .ae f τ,ls,_=>by cases ls <;> rfl
 | .ptr f τ,ls,_=>by cases ls <;> rfl
 | .own k τ,ls,h=>h
 | .loc _ _,ls,h=>h
 | .aR f l,ls,h=>u1 ks l ls h
 | .agg l,ls,h=>u1 ks l ls h
 | .cT _,ls,h=>by cases h
 | .mp _,ls,h=>h
 | .ks _ _,ls,h=>by
  simp only[gI]
  split
  ·exact h
  ·rfl
 | .gH _ _,ls,h=>by
  simp only[gI]
  split
  ·exact h
  ·rfl
 | .bP _ _,ls,h=>by
  simp only[gI]
  split
  ·exact h
  ·rfl
 | .any,ls,_=>rfl
 | .mu,ls,_=>by
  simp only[gI]
  split <;> rfl
 | .sub _ _,ls,h=>by
  simp only[gI]
  split
  ·exact h
  ·rfl
theorem u1 (ks:List Nat):∀(l:List Sh) (ls:List (aY S.α)),va ks l=true→TV.still.go ks (cw l ls).1=true
 | [],_,_=>rfl
 | sh::r,ls,h=>by
  simp only[va,ah] at h
  simp only[cw,TV.still.go,zf ks sh ls h.1,u1 ks r _ h.2,eV]
end
theorem zg (ks:List Nat):∀(l:List (Nat×Sh)) (ls:List (aY S.α)),rL ks l=true→TV.still.go ks ((bT l ls).1.map (·.2))=true
 | [],_,_=>rfl
 | (d,sh)::r,ls,h=>by
  simp only[rL,ah] at h
  simp only[bT,az,TV.still.go,zf ks sh ls h.1,zg ks r _ h.2,eV]
theorem AE {ks:List Nat}{aj:List (Nat×Sh)}(ls:List (aY S.α)) (h:rL ks aj=true):(lF aj ls).still ks=true:=by
 have:=zg ks aj ls h
 unfold lF
 generalize (bT aj ls).1=l at this
 match l with
 | []=>rfl
 | [(_,v)]=>simpa[TV.still.go] using this
 | (_,v)::(_,v')::r=>exact this
def N8:List Nat→Bool
 | []=>true
 | x::r=>!(bo x r)&&N8 r
theorem Ci:∀{l:List (Nat×TO S)},N8 (aH l)=true→∀j o,(j,o)∈l→aA l j=some o
 | [],_,_,_,h=>by cases h
 | (k,x)::r,hn,j,o,hm=>by
  simp only[aH,N8,ah,aZ] at hn
  rcases bU.1 hm with e | hm
  ·cases e;simp only[aA,aK,cond_true]
  ·have ih:=Ci hn.2 j o hm
   rw[jW _ _ fun e=>?_]
   ·exact ih
   ·subst e
    have:=bJ.2 (rS ih)
    rw[hn.1] at this;cases this
theorem A0:∀(ts:List Ty) (q:aT S.α ts),(leaves ts q).length=ts.length
 | [],_=>rfl
 | [_],_=>rfl
 | _::u::r,q=>by simp only[leaves,bl,A0 (u::r) q.2]
theorem sZ (ln:Nat→Nat) (aj:List (Nat×Sh)) (ls:List (aY S.α)):pack (((bT aj ls).1.map (·.2)).map (TV.er ln))=(lF aj ls).er ln:=by
 unfold lF
 generalize (bT aj ls).1=l
 match l with
 | []=>rfl
 | [(_,v)]=>rfl
 | (_,v)::(_,v')::r=>
  simp only[az,pack,TV.er,cS]
def fE (N:Nat) (args:List Sh) (aj:List (Nat×Sh)) (outs:List (Nat×Oh)):Bool:=
 Nat.ble args.length N&&(rL (aH outs) aj&&N8 (aH outs))
theorem uI:∀(l:List Sh) (ls:List (aY S.α)),(cw l ls).1.length=l.length
 | [],_=>rfl
 | x::r,ls=>by simp only[cw,bl,uI r]
def OB (aj:List (Nat×Sh)) (outs:List (Nat×Oh)) (r:aT S.α (JH.cg ⟨aj,outs⟩)) (g:G) (st:List (Nat×aq)):Prop:=
 g=(lF aj (leaves _ r)).er (bG (bS outs (bT aj (leaves _ r)).2).1)∧st=bA (bG (bS outs (bT aj (leaves _ r)).2).1) (bS outs (bT aj (leaves _ r)).2).1
theorem HS {P : Program} {N fu : Nat} {H : List (Nat × Hint)} {cl : Cl S} (hm : P.follows .mixedOrders = true) (hcl : qN P N cl)
    {f : FuncId} {fn : Func} {c : Code} {args : List Sh} {aI : List Oh} {aj : List (Nat × Sh)} {outs : List (Nat × Oh)} {q : aT S.α (iQ args aI)} {r : aT S.α (JH.cg ⟨aj, outs⟩)} (hf : P.funcs[f]? = some fn) (hb : fn.body = some c) (hN : fn.ntmps = N)
    (hr : fE N args aj outs = true) (hrg : nH S N H (oD c 0)) {mvs : List Nat} (h : CG P N fu H cl c mvs fn.results.toList args aI aj outs q = some r) {cx : Cx} (hro : cx.ro = none) :
    GW P N cx c (pC P fn (OB aj outs r)) { fr := jZ (TV.er.go (dd args aI (leaves _ q)).ln (cw args (leaves _ q)).1) 0, st := (dd args aI (leaves _ q)).er.st, df := [] } := by
  simp only [fE, ah] at hr
  obtain ⟨hle, hr3, hr4⟩ := hr
  have e0 : (⟨jZ (TV.er.go (dd args aI (leaves _ q)).ln (cw args (leaves _ q)).1) 0, (dd args aI (leaves _ q)).er.st, []⟩ : St) = (dd args aI (leaves _ q)).er := by
    rw [← wz]
    show St.mk _ _ _ = St.mk (jq _ (mg (cw args (leaves _ q)).1 0 ++ [])) _ _
    rw [cH]; rfl
  rw [e0]
  unfold CG at h
  split at h
  rotate_left
  · cases h
  rename_i s0 hmv
  refine zL (gY rfl) hmv fun hl0 => ?_
  refine GW.OP (Q' := fun e s' => (e = .ret ∨ e = .normal) ∧ ∃ t : ag S, Gw s' t.er ∧ aJ t ∧ wE P t fn.results.toList aj outs = some r) (kF hm hcl c 0 hrg (.inr hro) _ _ _ r hl0 h _ fun e t hlt hk hK => ?_) fun e s' hq => ?_
  · split at hK
    · obtain ⟨g1, g2⟩ := fR (P := P) (rvs := fn.results.toList) (l := aj) hlt
      exact ⟨.inl rfl, _, g1, g2, hK⟩
    · obtain ⟨g1, g2⟩ := fR (P := P) (rvs := fn.results.toList) (l := aj) hlt
      exact ⟨.inr rfl, _, g1, g2, hK⟩
    · cases hK
  · obtain ⟨he, t, hg0, hlt, hE⟩ := hq
    obtain ⟨u, hg, hdf, r1, O', eu, hln, hown⟩ := HQ hlt hE
    refine ⟨_, hg0.trans hg.w, ?_⟩
    have hk : aH (bS outs (bT aj (leaves (JH.cg ⟨aj, outs⟩) r)).2).1 = aH outs := ku _ _
    refine pC.mk he _ ((lF aj (leaves _ r)).er (bG (bS outs (bT aj (leaves _ r)).2).1)) _ r1 (zr (ln := bG (bS outs (bT aj (leaves _ r)).2).1) (l := (bS outs (bT aj (leaves _ r)).2).1) fun j o hm => ?_) ?_ ⟨rfl, rfl⟩ hdf
    · have e1 : aA (bS outs (bT aj (leaves _ r)).2).1 j = some o := Ci (by rw [hk]; exact hr4) j o hm
      have e2 : aA u.a7 j = some o := by rw [eu, eo, e1]
      rw [show ay u.er.st j = _ from jA e2]
      have hj : o.er u.ln = o.er (bG (bS outs (bT aj (leaves _ r)).2).1) := TO.lW hln o (sM (aH outs) outs _ hown j o e1)
      rw [hj]
    · rw [sZ]
      refine zs _ ?_
      rw [hk]
      exact AE _ hr3
theorem Px {P : Program} {N fu : Nat} {H : List (Nat × Hint)} {cl : Cl S} (hm : P.follows .mixedOrders = true) (hcl : qN P N cl)
  {f : FuncId} {fn : Func} {c : Code} {args : List Sh} {aI : List Oh} {aj : List (Nat × Sh)} {outs : List (Nat × Oh)} {q : aT S.α (iQ args aI)} {r : aT S.α (JH.cg ⟨aj, outs⟩)} (hf : P.funcs[f]? = some fn) (hb : fn.body = some c) (hN : fn.ntmps = N)
  (hr : fE N args aj outs = true) (hrg : nH S N H (oD c 0)) {mvs : List Nat} (h : CG P N fu H cl c mvs fn.results.toList args aI aj outs q = some r) :
  GM P f (TV.er.go (dd args aI (leaves _ q)).ln (cw args (leaves _ q)).1) (dd args aI (leaves _ q)).er.st (OB aj outs r) := by
 have hr0 := hr
 simp only [fE, ah] at hr0
 exact GM.of hf hb hN (by rw [cS, aU, uI]; exact hr0.1) fun cx hro => HS hm hcl hf hb hN hr hrg h hro
end
end Go.DN
/-
 DN,part U:calls that lend nothing.
-/
namespace Go.DN
open Go.AM
section
variable {S:dr}
def vI (s:ag S) (τ:Ty):TV S→Option (S.D τ)
 | .ae _ τ' a=>match τ'.fq with
  | true=>none
  | false=>iN τ' τ a
 | .val (.slice none 0 0)=>match τ with
  | .list _=>some []
  | _=>none
 | .aM h τ2=>match aA s.a7 h with
  | some (.arr _ _ _ τ' l)=>match decEq τ' τ2 with
   | isTrue _=>iN (.list τ') τ l
   | isFalse _=>none
  | _=>none
 | _=>none
def Ak (s:ag S):List Ty→List (TV S)→Option (List (aY S.α))
 | [],[]=>some []
 | τ::ts,v::vs=>match vI s τ v with
  | some a=>match Ak s ts vs with
   | some l=>some (⟨τ,a⟩::l)
   | none=>none
  | none=>none
 | _,_=>none
def Ib (s:ag S) (τ:Ty) (v:TV S):Option (S.D τ):=
 match v with
 | .ae _ τ' a=>iN τ' τ a
 | .agg vs=>match τ with
  | .st n=>match Ak s (S.cg n) vs with
   | some l=>S.put n l
   | none=>none
  | _=>none
 | v=>vI s τ v
def H9 (s:ag S) (τ:Ty) (v:TV S):Option (S.D τ):=
 match v with
 | .ptr _ τ' a=>iN τ' τ a
 | .loc h 0=>match aA s.a7 h with
  | some (.box _ _ vs)=>match τ with
   | .st n=>match Ak s (S.cg n) vs with
    | some l=>S.put n l
    | none=>none
   | τ=>match vs with
    | [v]=>vI s τ v
    | _=>none
  | _=>none
 | _=>none
mutual
def eW (s:ag S):Sh→TV S→Option (List (aY S.α))
 | .ae false τ,v=>match Ib s τ v with
  | some a=>some [⟨τ,a⟩]
  | none=>none
 | .ptr false τ,v=>match H9 s τ v with
  | some a=>some [⟨τ,a⟩]
  | none=>none
 | .aR f l,v=>match v with
  | .aR f' vs=>match Nat.beq f' f with
   | true=>kK s l vs
   | false=>none
  | _=>none
 | _,_=>none
def kK (s:ag S):List Sh→List (TV S)→Option (List (aY S.α))
 | [],[]=>some []
 | x::r,v::vs=>match eW s x v with
  | some a=>match kK s r vs with
   | some l=>some (a++l)
   | none=>none
  | none=>none
 | _,_=>none
end
theorem CY (n:Nat) (st:List (Nat×aq)) (f:Bool){τ:Ty}(h:τ.fq=false) (a:S.D τ):view (n+1) st (dc f (da S τ a))=some (da S τ a):=by
 cases τ with
 | st n=>cases h
 | pt n=>cases a <;> cases f <;> rfl
 | _=>cases f <;> rfl
theorem zo {s:ag S}{τ:Ty}{v:TV S}{a:S.D τ}(n:Nat) (h:vI s τ v=some a):view (n+1) s.er.st (v.er s.ln)=some (da S τ a)∧τ.fq=false:=by
 unfold vI at h
 split at h
 ·split at h
  ·cases h
  ·rename_i hs
   have:=dW h
   cases this
   refine⟨?_,hs⟩
   rw[ot hs]
   exact CY n _ _ hs _
 ·split at h
  ·cases h;exact⟨rfl,rfl⟩
  ·cases h
 ·rename_i hh τ2
  split at h
  ·rename_i e m f τ' l ho
   split at h
   ·rename_i e1 _
    subst e1
    have:=dW h
    cases this
    refine⟨?_,rfl⟩
    show view (n+1) s.er.st (.aM hh (S.sz τ') 0 (s.ln hh))=_
    simp only[view,dJ ho,TO.er]
    rw[nS ho,iC,dz (by rw[jP];exact ar _)]
    rfl
   ·cases h
  ·cases h
 ·cases h
theorem zn {s:ag S}(n:Nat):∀{ts:List Ty}{vs:List (TV S)}{l:List (aY S.α)},Ak s ts vs=some l→dT (view (n+1) s.er.st) (TV.er.go s.ln vs)=some (l.map fun x=>da S x.τ x.a)
 | [],[],_,h=>by cases h;rfl
 | τ::ts,v::vs,l,h=>by
  simp only[Ak] at h
  split at h
  ·rename_i a ha
   split at h
   ·rename_i l' hl
    cases h
    simp only[TV.er.go,dT,(zo n ha).1,zn n hl,az]
   ·cases h
  ·cases h
 | [],_::_,_,h=>by cases h
 | _::_,[],_,h=>by cases h
theorem ED {n:Nat}{st:List (Nat×aq)}{gs gs':List G}(h:dT (view n st) gs=some gs'):view (n+1) st (.agg gs)=some (.agg gs'):=by
 show(match dT (view n st) gs with | some gs'=>some (G.agg gs') | none=>none)=_
 rw[h]
theorem EC {n:Nat}{st:List (Nat×aq)}{h:Nat}{k:aq}{gs':List G}(hk:ay st h=some k) (hlp:k.lp=none) (hp:k.pure=false) (hm:dT (view n st) k.cells=some gs'):view (n+1) st (.loc h 0)=some (.ptr gs'):=by
 show(match ay st h with
  | some k=>match k.lp with
   | some _=>none
   | none=>match k.pure with
    | true=>some (G.ptr (k.cells.drop 0))
    | false=>match dT (view n st) (k.cells.drop 0) with
     | some cs=>some (.ptr cs)
     | none=>none
  | none=>none)=_
 rw[hk]
 dsimp only
 rw[hlp]
 dsimp only
 rw[hp,iC]
 dsimp only
 rw[hm]
theorem EG {s:ag S}{τ:Ty}{v:TV S}{a:S.D τ}(n:Nat) (h:Ib s τ v=some a) (ln:Nat→Nat):view (n+2) s.er.st (v.er s.ln)=some ((TV.ae false τ a:TV S).er ln):=by
 have one:vI s τ v=some a→view (n+2) s.er.st (v.er s.ln)=some ((TV.ae false τ a:TV S).er ln):=by
  intro h
  obtain⟨h1,h2⟩:=zo (n+1) h
  rw[h1,ot h2];rfl
 unfold Ib at h
 split at h
 ·rename_i f τ' a'
  have:=dW h
  cases this
  cases τ with
  | st k=>
   show view (n+2) s.er.st (.agg ((aP S (.st k) a).map (dc f)))=some (.agg ((aP S (.st k) a).map (dc false)))
   have key:dT (view (n+1) s.er.st) ((aP S (.st k) a).map (dc f))=some ((aP S (.st k) a).map (dc false)):=by
    rw[fZ]
    have h:=kB k a
    generalize S.cells k a=l at h
    induction l with
    | nil=>rfl
    | cons x r ih=>
     simp only[az,dT]
     rw[CY n _ f (h x aC) x.a,ih fun y hy=>h y (aw _ hy)]
     rfl
   exact ED key
  | _=>exact one (by unfold vI;exact h)
 ·rename_i vs
  split at h
  ·rename_i k
   split at h
   ·rename_i l hl
    have hp:=S.hU _ _ _ h
    show view (n+2) s.er.st (.agg (TV.er.go s.ln vs))=some (.agg ((aP S (.st k) a).map (dc false)))
    have e:(dc false)=(id:G→G):=rfl
    rw[e,List.map_id,fZ,hp]
    exact ED (zn n hl)
   ·cases h
  ·cases h
 ·exact one h
theorem EE {s:ag S}{τ:Ty}{v:TV S}{a:S.D τ}(n:Nat) (h:H9 s τ v=some a) (ln:Nat→Nat):view (n+2) s.er.st (v.er s.ln)=some ((TV.ptr false τ a:TV S).er ln):=by
 unfold H9 at h
 split at h
 ·rename_i f τ' a'
  have:=dW h
  cases this
  cases f <;> rfl
 ·rename_i hh
  split at h
  ·rename_i e m vs ho
   split at h
   ·rename_i k
    split at h
    ·rename_i l hl
     have hp:=S.hU _ _ _ h
     show view (n+2) s.er.st (.loc hh 0)=some (.ptr (aP S (.st k) a))
     rw[fZ,hp]
     exact EC (dJ ho) rfl rfl (zn n hl)
    ·cases h
   ·split at h
    ·obtain⟨h1,h2⟩:=zo n h
     show view (n+2) s.er.st (.loc hh 0)=some (.ptr (aP S τ a))
     rw[jB S h2]
     refine EC (dJ ho) rfl rfl ?_
     simp only[TO.er,TV.er.go,dT,h1]
    ·cases h
  ·cases h
 ·cases h
theorem EH {n:Nat}{st:List (Nat×aq)}{g g':G}(h:view (n+2) st g=some g'):rA (n+2) st g=some g':=by
 cases g with
 | aR f l=>simp[view] at h
 | _=>exact h
def Sh.flat:Sh→Bool
 | .aR _ _=>false
 | _=>true
def En:List Sh→Bool
 | []=>true
 | x::r=>x.flat&&En r
def RJ:Sh→Bool
 | .aR _ l=>En l
 | _=>true
def AI:List Sh→Bool
 | []=>true
 | x::r=>RJ x&&AI r
theorem CZ {s:ag S}(n:Nat) (ln:Nat→Nat):∀{l:List Sh}{vs:List (TV S)}{xs:List (aY S.α)},En l=true→kK s l vs=some xs→∀r,(cw l (xs++r)).2=r∧dT (view (n+2) s.er.st) (TV.er.go s.ln vs)=some (TV.er.go ln (cw l (xs++r)).1)
 | [],[],_,_,h,r=>by simp[kK] at h;subst h;exact⟨rfl,rfl⟩
 | x::l,v::vs,xs,hf,h,r=>by
  simp only[En,ah] at hf
  simp only[kK] at h
  split at h
  ·rename_i a ha
   split at h
   ·rename_i l' hl
    cases h
    rw[aL]
    obtain⟨i1,i2⟩:=CZ n ln hf.2 hl r
    cases x with
    | aR f l0=>cases hf.1
    | own _ _=>simp[eW] at ha
    | loc _ _=>simp[eW] at ha
    | agg _=>simp[eW] at ha
    | cT _=>simp[eW] at ha
    | mp _=>simp[eW] at ha
    | gH _ _=>simp[eW] at ha
    | bP _ _=>simp[eW] at ha
    | ks _ _=>simp[eW] at ha
    | mu=>simp[eW] at ha
    | sub _ _=>simp[eW] at ha
    | any=>simp[eW] at ha
    | ae f τ=>
     cases f with
     | true=>simp[eW] at ha
     | false=>
     simp only[eW] at ha
     split at ha
     ·rename_i b hb
      cases ha
      refine⟨i1,?_⟩
      simp only[TV.er.go,dT,EG n hb ln,i2]
      rfl
     ·cases ha
    | ptr f τ=>
     cases f with
     | true=>simp[eW] at ha
     | false=>
     simp only[eW] at ha
     split at ha
     ·rename_i b hb
      cases ha
      refine⟨i1,?_⟩
      simp only[TV.er.go,dT,EE n hb ln,i2]
      rfl
     ·cases ha
   ·cases h
  ·cases h
 | [],_::_,_,_,h,_=>by simp[kK] at h
 | _::_,[],_,_,h,_=>by simp[kK] at h
theorem ug {s:ag S}(n:Nat) (ln:Nat→Nat):∀{l:List Sh}{vs:List (TV S)}{xs:List (aY S.α)},AI l=true→kK s l vs=some xs→∀r,(cw l (xs++r)).2=r∧dT (rA (n+2) s.er.st) (TV.er.go s.ln vs)=some (TV.er.go ln (cw l (xs++r)).1)
 | [],[],_,_,h,r=>by simp[kK] at h;subst h;exact⟨rfl,rfl⟩
 | x::l,v::vs,xs,hf,h,r=>by
  simp only[AI,ah] at hf
  simp only[kK] at h
  split at h
  ·rename_i a ha
   split at h
   ·rename_i l' hl
    cases h
    rw[aL]
    obtain⟨i1,i2⟩:=ug n ln hf.2 hl r
    cases x with
    | own _ _=>simp[eW] at ha
    | loc _ _=>simp[eW] at ha
    | agg _=>simp[eW] at ha
    | cT _=>simp[eW] at ha
    | mp _=>simp[eW] at ha
    | gH _ _=>simp[eW] at ha
    | bP _ _=>simp[eW] at ha
    | ks _ _=>simp[eW] at ha
    | mu=>simp[eW] at ha
    | sub _ _=>simp[eW] at ha
    | any=>simp[eW] at ha
    | aR f l0=>
     simp only[eW] at ha
     split at ha
     ·rename_i f' vs'
      split at ha
      ·rename_i hb
       have e:=ab hb
       subst e
       obtain⟨j1,j2⟩:=CZ n ln hf.1 ha (l'++r)
       simp only[cw,gI]
       rw[j1]
       refine⟨i1,?_⟩
       simp only[TV.er.go,dT,i2]
       have hv:rA (n+2) s.er.st ((TV.aR f' vs':TV S).er s.ln)=some (.aR f' (TV.er.go ln (cw l0 (a++(l'++r))).1)):=by
        show(match dT (view (n+2) s.er.st) (TV.er.go s.ln vs') with | some c=>some (G.aR f' c) | none=>none)=_
        rw[j2]
       rw[hv]
       rfl
      ·cases ha
     ·cases ha
    | ae f τ=>
     cases f with
     | true=>simp[eW] at ha
     | false=>
     simp only[eW] at ha
     split at ha
     ·rename_i b hb
      cases ha
      refine⟨i1,?_⟩
      simp only[TV.er.go,dT,EH (EG n hb ln),i2]
      rfl
     ·cases ha
    | ptr f τ=>
     cases f with
     | true=>simp[eW] at ha
     | false=>
     simp only[eW] at ha
     split at ha
     ·rename_i b hb
      cases ha
      refine⟨i1,?_⟩
      simp only[TV.er.go,dT,EH (EE n hb ln),i2]
      rfl
     ·cases ha
   ·cases h
  ·cases h
 | [],_::_,_,_,h,_=>by simp[kK] at h
 | _::_,[],_,_,h,_=>by simp[kK] at h
end
end Go.DN
/-
 DN,part V:contracts;calls by dM.
-/
namespace Go.DN
open Go.AM
structure de (S:dr) where
 f:FuncId
 args:List Sh
 aI:List Oh
 vw:Bool
 aj:List (Nat×Sh)
 outs:List (Nat×Oh)
 F:aT S.α (iQ args aI)→Option (aT S.α (JH.cg ⟨aj,outs⟩))
section
variable {S:dr}
structure bf (P:Program) (con:de S):Prop where
 call:∀args w,(callFunc con.f args).run P w=.ok (.enter con.f args) w
 ok:∀q r,con.F q=some r→GM P con.f (TV.er.go (dd con.args con.aI (leaves _ q)).ln (cw con.args (leaves _ q)).1) (dd con.args con.aI (leaves _ q)).er.st (OB con.aj con.outs r)
def mr:List (Nat×Sh)→Bool
 | []=>true
 | (_,.ae _ _)::r=>mr r
 | _=>false
def qw:List (Nat×Sh)→Bool
 | []=>true
 | (_,.ae f _)::r=>f&&qw r
 | _=>false
theorem Be {g:G}(h:Pl g):kh (dc true g)=true:=by
 rcases h with ⟨u,rfl⟩ | ⟨n,cs,rfl⟩ | ⟨b,rfl⟩ | ⟨cs,rfl⟩ <;> rfl
theorem Jn (τ:Ty) (a:S.D τ):kh (nh true τ a)=true:=by
 cases τ with
 | st n=>
  show kh.go ((aP S (.st n) a).map (dc true))=true
  have h:=rW (S:=S) (.st n) a
  generalize aP S (.st n) a=l at h
  induction l with
  | nil=>rfl
  | cons x r ih=>
   simp only[az,kh.go,Be (h x aC),ih fun y hy=>h y (aw _ hy),eV]
 | _=>exact Be (vB rfl a)
theorem Bc (ln:Nat→Nat):∀(aj:List (Nat×Sh)) (ls:List (aY S.α)),qw aj=true→ls.length=(jb aj).length→kh.go (((bT aj ls).1.map (·.2)).map (TV.er ln))=true
 | [],_,_,_=>rfl
 | (d,.ae f τ)::r,ls,h,hl=>by
  simp only[qw,ah] at h
  cases ls with
  | nil=>simp[jb,Sh.cg] at hl
  | cons x xs=>
   simp only[bT,gI,az,kh.go]
   rw[h.1,Bc ln r xs h.2 (by simpa[jb,Sh.cg] using hl),jF]
   exact Jn x.τ x.a
 | (d,.own h τ)::r,ls,h',_=>by cases h'
 | (d,.ptr _ _)::r,ls,h',_=>by cases h'
 | (d,.loc _ _)::r,ls,h',_=>by cases h'
 | (d,.aR _ _)::r,ls,h',_=>by cases h'
 | (d,.agg _)::r,ls,h',_=>by cases h'
 | (d,.cT _)::r,ls,h',_=>by cases h'
 | (d,.mp _)::r,ls,h',_=>by cases h'
 | (d,.gH _ _)::r,ls,h',_=>by cases h'
 | (d,.bP _ _)::r,ls,h',_=>by cases h'
 | (d,.ks _ _)::r,ls,h',_=>by cases h'
 | (d,.any)::r,ls,h',_=>by cases h'
 | (d,.mu)::r,ls,h',_=>by cases h'
 | (d,.sub _ _)::r,ls,h',_=>by cases h'
theorem Dx {aj:List (Nat×Sh)}{ls:List (aY S.α)}(h:qw aj=true) (hl:ls.length=(jb aj).length) (ln:Nat→Nat):kh ((lF aj ls).er ln)=true:=by
 have:=Bc (S:=S) ln aj ls h hl
 rw[←sZ]
 revert this
 generalize (((bT aj ls).1.map (·.2)).map (TV.er ln))=gs
 intro hg
 match gs with
 | []=>rfl
 | [g]=>simpa[kh.go,pack] using hg
 | g::g'::r=>exact hg
theorem HM (ln ln':Nat→Nat):∀(aj:List (Nat×Sh)) (ls:List (aY S.α)),mr aj=true→((bT aj ls).1.map (·.2)).map (TV.er ln)=((bT aj ls).1.map (·.2)).map (TV.er ln')
 | [],_,_=>rfl
 | (d,.ae f τ)::r,ls,h=>by
  simp only[bT,az]
  rw[HM ln ln' r _ h]
  cases ls <;> rfl
 | (d,.own h τ)::r,ls,h'=>by cases h'
 | (d,.ptr _ _)::r,ls,h'=>by cases h'
 | (d,.loc _ _)::r,ls,h'=>by cases h'
 | (d,.aR _ _)::r,ls,h'=>by cases h'
 | (d,.agg _)::r,ls,h'=>by cases h'
 | (d,.cT _)::r,ls,h'=>by cases h'
 | (d,.mp _)::r,ls,h'=>by cases h'
 | (d,.gH _ _)::r,ls,h'=>by cases h'
 | (d,.bP _ _)::r,ls,h'=>by cases h'
 | (d,.ks _ _)::r,ls,h'=>by cases h'
 | (d,.any)::r,ls,h'=>by cases h'
 | (d,.mu)::r,ls,h'=>by cases h'
 | (d,.sub _ _)::r,ls,h'=>by cases h'
theorem Fe (ln ln':Nat→Nat){aj:List (Nat×Sh)}{ls:List (aY S.α)}(h:mr aj=true):(lF aj ls).er ln=(lF aj ls).er ln':=by
 rw[←sZ,←sZ,HM ln ln' aj ls h]
def TV.imp:TV S→Bool
 | .ae _ _ _=>true
 | .ptr _ _ _=>true
 | .val _=>true
 | .agg l=>go l
 | .aR _ l=>go l
 | _=>false
where go:List (TV S)→Bool
 | []=>true
 | x::r=>x.imp&&go r
def nC:G→Bool
 | .val _=>true
 | .cQ _=>true
 | .sl _ _=>true
 | .ptr _=>true
 | .fr _=>true
 | .agg gs=>go gs
 | .aR _ gs=>go gs
 | _=>false
where go:List G→Bool
 | []=>true
 | g::r=>nC g&&go r
mutual
theorem K1 (ln:Nat→Nat):∀v:TV S,v.imp=true→nC (v.er ln)=true
 | .ae f τ a,_=>by
  cases τ with
  | st n=>
   show nC.go ((aP S (.st n) a).map (dc f))=true
   have h:=rW (S:=S) (.st n) a
   generalize aP S (.st n) a=l at h
   induction l with
   | nil=>rfl
   | cons x r ih=>
    have h1:nC (dc f x)=true:=by
     rcases h x aC with ⟨u,rfl⟩ | ⟨n,cs,rfl⟩ | ⟨b,rfl⟩ | ⟨cs,rfl⟩ <;> cases f <;> rfl
    simp only[az,nC.go,h1,ih fun y hy=>h y (aw _ hy),eV]
  | pt n=>cases a <;> cases f <;> rfl
  | _=>cases f <;> rfl
 | .ptr f τ a,_=>by cases f <;> rfl
 | .val _,_=>rfl
 | .agg l,h=>oo ln l h
 | .aR _ l,h=>oo ln l h
 | .aT _,h=>by cases h
 | .loc _ _,h=>by cases h
 | .ia _ _ _ _,h=>by cases h
 | .aM _ _,h=>by cases h
 | .sub _ _ _ _,h=>by cases h
 | .cT _,h=>by cases h
 | .mp _,h=>by cases h
 | .ks _ _ _ _,h=>by cases h
 | .kp _ _ _ _,h=>by cases h
 | .gH _ _ _ _ _,h=>by cases h
 | .bP _ _ _,h=>by cases h
 | .any,h=>by cases h
theorem oo (ln:Nat→Nat):∀l:List (TV S),TV.imp.go l=true→nC.go (TV.er.go ln l)=true
 | [],_=>rfl
 | x::r,h=>by
  simp only[TV.imp.go,ah] at h
  simp only[TV.er.go,nC.go,K1 ln x h.1,oo ln r h.2,eV]
end
theorem wb {f:G→Option G}:∀{gs gs':List G},(∀g g',g∈gs→f g=some g'→fI g=some g')→dT f gs=some gs'→fI.go gs=some gs'
 | [],_,_,h=>by cases h;rfl
 | g::r,gs',hf,h=>by
  simp only[dT] at h
  split at h
  ·rename_i g1 r1 h1 h2
   cases h
   simp only[fI.go,hf g g1 aC h1,wb (fun x x' hx=>hf x x' (aw _ hx)) h2]
  ·cases h
theorem xF:∀{gs:List G}{g:G},nC.go gs=true→g∈gs→nC g=true
 | x::r,g,h,hm=>by
  simp only[nC.go,ah] at h
  rcases bU.1 hm with e | hm
  ·subst e;exact h.1
  ·exact xF h.2 hm
theorem zm {st:List (Nat×aq)}:∀(n:Nat){g g':G},nC g=true→view n st g=some g'→fI g=some g'
 | 0,_,_,_,h=>by cases h
 | n+1,g,g',ho,h=>by
  cases g with
  | val v=>exact h
  | cQ b=>exact h
  | sl m cs=>exact h
  | ptr cs=>exact h
  | fr g=>exact h
  | agg gs=>
   have h:(match dT (view n st) gs with | some gs'=>some (G.agg gs') | none=>none)=some g':=h
   split at h
   ·rename_i gs' hm
    cases h
    show(fI.go gs).map G.agg=_
    rw[wb (fun x x' hx hv=>zm n (xF ho hx) hv) hm];rfl
   ·cases h
  | aR f gs=>simp[view] at h
  | _=>cases ho
theorem JV {n:Nat}{st:List (Nat×aq)}{g g':G}(ho:nC g=true) (h:rA n st g=some g'):fI g=some g':=by
 cases g with
 | aR f gs=>
  have h:(match dT (view n st) gs with | some c=>some (G.aR f c) | none=>none)=some g':=h
  split at h
  ·rename_i gs' hm
   cases h
   show(fI.go gs).map (G.aR f)=_
   rw[wb (fun x x' hx hv=>zm n (xF ho hx) hv) hm];rfl
  ·cases h
 | _=>exact zm n ho h
theorem wc {n:Nat}{st:List (Nat×aq)}:∀{gs gs':List G},nC.go gs=true→dT (rA n st) gs=some gs'→dT fI gs=some gs'
 | [],_,_,h=>by cases h;rfl
 | g::r,gs',ho,h=>by
  simp only[nC.go,ah] at ho
  simp only[dT] at h
  split at h
  ·rename_i g1 r1 h1 h2
   cases h
   simp only[dT,JV ho.1 h1,wc ho.2 h2]
  ·cases h
theorem M9 (f:Bool) (τ:Ty) (a:S.D τ):lV (nh f τ a)=true:=by
 cases τ with
 | st n=>
  show lV.go ((aP S (.st n) a).map (dc f))=true
  have h:=rW (S:=S) (.st n) a
  generalize aP S (.st n) a=l at h
  induction l with
  | nil=>rfl
  | cons x r ih=>
   have h1:lV (dc f x)=true:=by
    rcases h x aC with ⟨u,rfl⟩ | ⟨n,cs,rfl⟩ | ⟨b,rfl⟩ | ⟨cs,rfl⟩ <;> cases f <;> rfl
   simp only[az,lV.go,h1,ih fun y hy=>h y (aw _ hy),eV]
 | pt n=>cases a <;> cases f <;> rfl
 | _=>cases f <;> rfl
theorem F1 (ln:Nat→Nat):∀(aj:List (Nat×Sh)) (ls:List (aY S.α)),mr aj=true→ls.length=(jb aj).length→lV.go (((bT aj ls).1.map (·.2)).map (TV.er ln))=true
 | [],_,_,_=>rfl
 | (d,.ae f τ)::r,ls,h,hl=>by
  cases ls with
  | nil=>simp[jb,Sh.cg] at hl
  | cons x xs=>
   simp only[bT,gI,az,lV.go]
   rw[F1 ln r xs h (by simpa[jb,Sh.cg] using hl),jF]
   exact M9 f x.τ x.a
 | (d,.own h τ)::r,ls,h',_=>by cases h'
 | (d,.ptr _ _)::r,ls,h',_=>by cases h'
 | (d,.loc _ _)::r,ls,h',_=>by cases h'
 | (d,.aR _ _)::r,ls,h',_=>by cases h'
 | (d,.agg _)::r,ls,h',_=>by cases h'
 | (d,.cT _)::r,ls,h',_=>by cases h'
 | (d,.mp _)::r,ls,h',_=>by cases h'
 | (d,.gH _ _)::r,ls,h',_=>by cases h'
 | (d,.bP _ _)::r,ls,h',_=>by cases h'
 | (d,.ks _ _)::r,ls,h',_=>by cases h'
 | (d,.any)::r,ls,h',_=>by cases h'
 | (d,.mu)::r,ls,h',_=>by cases h'
 | (d,.sub _ _)::r,ls,h',_=>by cases h'
theorem Ct {aj:List (Nat×Sh)}{ls:List (aY S.α)}(h:mr aj=true) (hl:ls.length=(jb aj).length) (ln:Nat→Nat):lV ((lF aj ls).er ln)=true:=by
 have:=F1 (S:=S) ln aj ls h hl
 rw[←sZ]
 revert this
 generalize (((bT aj ls).1.map (·.2)).map (TV.er ln))=gs
 intro hg
 match gs with
 | []=>rfl
 | [g]=>simpa[lV.go,pack] using hg
 | g::g'::r=>exact hg
def oO (con:de S):Bool:=isNil con.aI&&(isNil con.outs&&(AI con.args&&mr con.aj))
def wO (con:de S) (s:ag S) (d:Nat) (vs:List (TV S)){A:Type}(k:ag S→Option A):Option A:=
 match oO con&&(qw con.aj||TV.imp.go vs) with
 | true=>match kK s con.args vs with
  | some ls=>match nz (iQ con.args con.aI) ls with
   | some q=>(con.F q).bind fun r=>k (s.put d (lF con.aj (leaves _ r)))
   | none=>none
  | none=>none
 | false=>none
theorem pN (ln:Nat→Nat):∀(l l':List (TV S)),TV.er.go ln (l++l')=TV.er.go ln l++TV.er.go ln l'
 | [],_=>rfl
 | x::r,l'=>by simp only[ca,TV.er.go,pN ln r l']
theorem zP {α:Type}:∀{l:List α},isNil l=true→l=[]
 | [],_=>rfl
 | _::_,h=>by cases h
theorem vS {P:Program}{con:de S}(C:bf P con) (h:oO con=true):AI con.args=true∧mr con.aj=true∧
  ∀q r,con.F q=some r→GM P con.f (TV.er.go (fun _=>0) (cw con.args (leaves _ q)).1) [] (fun g st=>g=(lF con.aj (leaves _ r)).er (fun _=>0)∧st=[]):=by
 simp only[oO,ah] at h
 obtain⟨h1,h2,h3,h4⟩:=h
 refine⟨h3,h4,fun q r hr=>?_⟩
 have:=C.ok q r hr
 obtain⟨f,args,aI,vw,aj,outs,F⟩:=con
 have h1':aI=[]:=zP h1
 have h2':outs=[]:=zP h2
 subst h1';subst h2'
 have e1:(dd args [] (leaves (iQ args []) q)).ln=fun _=>0:=rfl
 rw[e1] at this
 exact this
theorem yy {aj:List (Nat×Sh)}{outs:List (Nat×Oh)}(r:aT S.α (JH.cg ⟨aj,outs⟩)) (h:outs=[]):(leaves _ r).length=(jb aj).length:=by
 subst h
 rw[A0];simp[JH.cg,AN]
theorem sE {con:de S}(h:oO con=true):con.outs=[]:=by
 simp only[oO,ah] at h
 exact zP h.2.1
theorem NB {P:Program}{N:Nat}{W:List Nat}{con:de S}(C:bf P con){s:ag S}{d:Nat}{vs:List (TV S)}{A:Type}{k:ag S→Option A}{r:A}(hl:aJ s) (h:wO con s d vs k=some r)
  {xs:Array Operand}{ts:Array TypeId}{ty:TypeId}{pos:String}{after:Array Edge}{guard:Option (Nat×Bool)}(hv:si s xs.toList=some vs):
  ∃T:St→Prop,bW P W s.er ⟨some d,.call ⟨.value (.func con.f),xs,ts⟩,ty,pos,after,guard⟩ T∧∀s',T s'→∃t:ag S,Gh s' t.er∧aJ t∧bj s t∧k t=some r:=by
 unfold wO at h
 split at h
 ·rename_i hc
  rw[ah] at hc
  obtain⟨hp,hfr⟩:=hc
  obtain⟨C1,C2,C3⟩:=vS C hp
  split at h
  ·rename_i ls hls
   split at h
   ·rename_i q hq
    obtain⟨res,h1,h2⟩:=bind_some h
    have hview:=(ug 1 (fun _=>0) C1 hls []).2
    rw[cH,←gP hq] at hview
    have fin:∀s',(∃g st,(g=(lF con.aj (leaves _ res)).er (fun _=>0)∧st=([]:List (Nat×aq)))∧s'=s.er.put d g)→∃t:ag S,Gh s' t.er∧aJ t∧bj s t∧k t=some r:=by
     intro s' hs'
     obtain⟨g,st,⟨hg,_⟩,e⟩:=hs'
     subst e;subst hg
     refine⟨_,?_,hl.put d _,⟨rfl,rfl,rfl⟩,h2⟩
     rw[hP,Fe s.ln (fun _=>0) C2]
     exact Gh.refl _
    have hlen:=yy res (sE hp)
    cases hfs:qw con.aj with
    | true=>exact⟨_,EF.call (P:=P) (W:=W) 3 C.call (lf hv).2 hview (C3 q res h1) (fun g st hg=>by rw[hg.1];exact Dx hfs hlen _),fin⟩
    | false=>
     rw[hfs] at hfr
     have himp:=oo s.ln vs hfr
     exact⟨_,EF.Rp (P:=P) (W:=W) C.call (lf hv).2 (wc himp hview) (C3 q res h1) (fun g st hg=>⟨by rw[hg.1];exact Ct C2 hlen _,hg.2⟩),fin⟩
   ·cases h
  ·cases h
 ·cases h
theorem EF.QM {P:Program}{W:List Nat}{s:St}{d:Nat}{ty:TypeId}{pos:String}{after:Array Edge}{guard:Option (Nat×Bool)}{f:FuncId}{x:Operand}{xs:Array Operand}{ts:Array TypeId}{gs caps gs':List G}{Q:G→List (Nat×aq)→Prop}(hb:rH f xs.toList=true) (hc:∀args w,(callFunc f args).run P w=.ok (.enter f args) w)
  (hf:ev s x=some (.aR f caps)) (hx:tI s xs.toList=some gs) (hv:dT fI (gs++caps)=some gs') (hcon:GM P f gs' [] Q) (hres:∀r st',Q r st'→lV r=true∧st'=[]):
  bW P W s ⟨some d,.call ⟨.value x,xs,ts⟩,ty,pos,after,guard⟩ (fun s'=>∃r st',Q r st'∧s'=s.put d r):=by
 refine⟨(fun _ h=>by cases h),?_⟩
 intro N cx μ a w hr hN K Q' hK
 obtain⟨h1,h2⟩:=mX hx
 have hcl:=hr.ev hf
 generalize hav:a.eval x=vf at hcl
 cases hcl with
 | aD h=>cases h
 | aR _ _ us hl hrc=>
  have hcall:=Bx (vs:=xs.toList.map a.eval++us) (W:=W) hr hv (by simp[h1,hl]) (fun j g v hg hv=>by
   rw[bC] at hg hv
   rw[aU,←h1] at hv
   split at hg
   ·rename_i hj
    rw[if_pos hj] at hv
    obtain⟨x,hxj,he⟩:=h2 j g hg
    rw[ak,hxj] at hv
    cases hv
    exact hr.ev he
   ·rename_i hj
    rw[if_neg hj] at hv
    exact hrc _ g v hg hv) hcon hres
  unfold Oper.wp
  have:=um (P:=P) (w:=w) (d:=d) (ty:=ty) (pos:=pos) (after:=after) (guard:=guard) (ts:=ts) hb hc hav
  rw[this]
  refine hcall.mono ?_
  rintro e w' ⟨v,r,st',rfl,hq,hr',hrv,hst⟩
  exact hK μ _ _ w' (hr'.put (hN d rfl) hrv) ⟨r,st',hq,rfl⟩ hst
theorem Gx {P:Program}{N:Nat}{W:List Nat}{con:de S}(C:bf P con){s:ag S}{d:Nat}{vs caps:List (TV S)}{A:Type}{k:ag S→Option A}{r:A}(hl:aJ s) (h:wO con s d (vs++caps) k=some r)
  {x:Operand}{xs:Array Operand}{ts:Array TypeId}{ty:TypeId}{pos:String}{after:Array Edge}{guard:Option (Nat×Bool)}(hx:cq s x=some (.aR con.f caps)) (hb:rH con.f xs.toList=true) (hv:si s xs.toList=some vs):
  ∃T:St→Prop,bW P W s.er ⟨some d,.call ⟨.value x,xs,ts⟩,ty,pos,after,guard⟩ T∧∀s',T s'→∃t:ag S,Gh s' t.er∧aJ t∧bj s t∧k t=some r:=by
 unfold wO at h
 split at h
 ·rename_i hc
  rw[ah] at hc
  obtain⟨hp,hfr⟩:=hc
  obtain⟨C1,C2,C3⟩:=vS C hp
  split at h
  ·rename_i ls hls
   split at h
   ·rename_i q hq
    obtain⟨res,h1,h2⟩:=bind_some h
    have hview:=(ug 1 (fun _=>0) C1 hls []).2
    rw[cH,←gP hq,pN] at hview
    have fin:∀s',(∃g st,(g=(lF con.aj (leaves _ res)).er (fun _=>0)∧st=([]:List (Nat×aq)))∧s'=s.er.put d g)→∃t:ag S,Gh s' t.er∧aJ t∧bj s t∧k t=some r:=by
     intro s' hs'
     obtain⟨g,st,⟨hg,_⟩,e⟩:=hs'
     subst e;subst hg
     refine⟨_,?_,hl.put d _,⟨rfl,rfl,rfl⟩,h2⟩
     rw[hP,Fe s.ln (fun _=>0) C2]
     exact Gh.refl _
    cases hfs:qw con.aj with
    | true=>exact⟨_,EF.Ro (P:=P) (W:=W) 3 hb C.call (bc hx) (lf hv).2 hview (C3 q res h1) (fun g st hg=>by rw[hg.1];exact Dx hfs (yy res (sE hp)) _),fin⟩
    | false=>
     rw[hfs] at hfr
     have himp:=oo s.ln (vs++caps) hfr
     rw[pN] at himp
     exact⟨_,EF.QM (P:=P) (W:=W) hb C.call (bc hx) (lf hv).2 (wc himp hview) (C3 q res h1) (fun g st hg=>⟨by rw[hg.1];exact Ct C2 (yy res (sE hp)) _,hg.2⟩),fin⟩
   ·cases h
  ·cases h
 ·cases h
theorem bf.R7 {P:Program}{N fu:Nat}{H:List (Nat×Hint)}{cl:Cl S}{con:de S}{fn:Func}{c:Code}(hm:P.follows .mixedOrders=true) (hcl:qN P N cl)
  (hf:P.funcs[con.f]?=some fn) (hcall:∀args w,(callFunc con.f args).run P w=.ok (.enter con.f args) w) (hb:fn.body=some c) (hN:fn.ntmps=N)
  (hle:fE N con.args con.aj con.outs=true) (hrg:nH S N H (oD c 0))
  {mvs:List Nat}(h:∀q,CG P N fu H cl c mvs fn.results.toList con.args con.aI con.aj con.outs q=con.F q):bf P con:=
 ⟨hcall,fun q r hr=>Px hm hcl hf hb hN hle hrg ((h q).trans hr)⟩
end
end Go.DN
