/-
  DN, second half.
-/
import Derived.Test.YtfkigaldejbeiaaMgG
set_option linter.unusedSectionVars false
set_option linter.unusedSimpArgs false
set_option linter.unusedVariables false
/-
 DN,part O:what a loop or a join carries.
-/
namespace Go.DN
open Go.AM
inductive Sh where
 | af (f:Bool) (τ:Ty)
 | ptr (f:Bool) (τ:Ty)
 | own (h:Nat) (τ:Ty)
 | loc (h off:Nat)
 | aM (f:FuncId) (l:List Sh)
 | agg (l:List Sh)
 | cq (h:Nat)
 | mp (h:Nat)
 | any
 | lR
 | sub (h:Nat) (τ:Ty)
 | fA (h:Nat) (τ:Ty)
 | ks (h:Nat) (τ:Ty)
inductive Oh where
 | aT (e:TypeId) (m f:Bool) (τ:Ty)
 | box (e:TypeId) (m:Bool) (cs:List Sh)
 | lp (key:Nat) (lv:Bool) (cs:List Sh)
 | deep (e:TypeId) (m f:Bool) (dk:Dk) (τ:Ty)
structure JH where
 aA:List (Nat×Sh)
 aZ:List (Nat×Oh)
mutual
def Sh.dg:Sh→List Ty
 | .af _ τ=>[τ]
 | .ptr _ τ=>[τ]
 | .own _ _=>[]
 | .loc _ _=>[]
 | .aM _ l=>wj l
 | .agg l=>wj l
 | .cq _=>[]
 | .mp _=>[]
 | .any=>[]
 | .lR=>[.int .i64]
 | .sub _ _=>[.int .i64,.int .i64]
 | .fA _ _=>[.bool,.int .i64,.int .i64]
 | .ks _ _=>[.int .i64,.int .i64]
def wj:List Sh→List Ty
 | []=>[]
 | x::r=>x.dg++wj r
end
def Oh.dg:Oh→List Ty
 | .aT _ _ _ τ=>[.list τ]
 | .box _ _ cs=>wj cs
 | .lp _ lv cs=>match lv with
  | true=>.int .i64::wj cs
  | false=>wj cs
 | .deep _ _ _ _ τ=>[τ]
def iE:List (Nat×Sh)→List Ty
 | []=>[]
 | (_,x)::r=>x.dg++iE r
def B6:List (Nat×Oh)→List Ty
 | []=>[]
 | (_,x)::r=>x.dg++B6 r
def JH.dg (j:JH):List Ty:=iE j.aA++B6 j.aZ
@[reducible] def bj (α:Nat→Type):List Ty→Type
 | []=>Unit
 | [t]=>t.den α
 | t::r=>t.den α×bj α r
section
variable {S:eB}
def ly:(ts:List Ty)→List (bo S.α)→Option (bj S.α ts)
 | [],[]=>some ()
 | [t],[x]=>ik x.τ t x.a
 | t::u::r,x::xs=>match ik x.τ t x.a with
  | some a=>match ly (u::r) xs with
   | some b=>some (a,b)
   | none=>none
  | none=>none
 | _,_=>none
def leaves:(ts:List Ty)→bj S.α ts→List (bo S.α)
 | [],_=>[]
 | [t],q=>[⟨t,q⟩]
 | t::u::r,q=>⟨t,q.1⟩::leaves (u::r) q.2
theorem fW:∀{ts:List Ty}{xs:List (bo S.α)}{q:bj S.α ts},ly ts xs=some q→leaves ts q=xs
 | [],[],_,_=>rfl
 | [t],[x],q,h=>by
  obtain⟨τ,a⟩:=x
  have:=dW h
  show[(⟨t,q⟩:bo S.α)]=_
  rw[this]
 | t::u::r,x::xs,q,h=>by
  simp only[ly] at h
  split at h
  ·rename_i a h1
   split at h
   ·rename_i b h2
    cases h
    show(⟨t,a⟩:bo S.α)::leaves (u::r) b=_
    rw[fW h2]
    obtain⟨τ,a'⟩:=x
    rw[dW h1]
   ·cases h
  ·cases h
 | [],_::_,_,h=>by cases h
 | [_],[],_,h=>by cases h
 | [_],_::_::_,_,h=>by simp[ly] at h
 | _::_::_,[],_,h=>by cases h
mutual
def kH:Sh→TV S→Option (List (bo S.α))
 | .af f τ,v=>match Bx τ v with
  | some (f',a)=>match !f||f' with
   | true=>some [⟨τ,a⟩]
   | false=>none
  | none=>none
 | .ptr f τ,v=>match v with
  | .ptr f' τ' a=>match !f||f' with
   | true=>match ik τ' τ a with
    | some b=>some [⟨τ,b⟩]
    | none=>none
   | false=>none
  | _=>none
 | .own h τ,v=>match v with
  | .aO h' τ'=>match Nat.beq h' h with
   | true=>match decEq τ' τ with
    | isTrue _=>some []
    | isFalse _=>none
   | false=>none
  | _=>none
 | .loc h o,v=>match v with
  | .loc h' o'=>match Nat.beq h' h&&Nat.beq o' o with
   | true=>some []
   | false=>none
  | _=>none
 | .aM f l,v=>match v with
  | .aM f' vs=>match Nat.beq f' f with
   | true=>pz l vs
   | false=>none
  | _=>none
 | .agg l,v=>match v with
  | .agg vs=>pz l vs
  | _=>none
 | .cq h,v=>match v with
  | .cq h'=>match Nat.beq h' h with
   | true=>some []
   | false=>none
  | _=>none
 | .mp h,v=>match v with
  | .mp h'=>match Nat.beq h' h with
   | true=>some []
   | false=>none
  | _=>none
 | .any,_=>some []
 | .lR,v=>match v with
  | .aM f []=>some [⟨.int .i64,(f:Int)⟩]
  | _=>none
 | .sub h τ,v=>match v with
  | .sub h' τ' o n=>match Nat.beq h' h with
   | true=>match decEq τ' τ with
    | isTrue _=>some [⟨.int .i64,(o:Int)⟩,⟨.int .i64,(n:Int)⟩]
    | isFalse _=>none
   | false=>none
  | _=>none
 | .ks h τ,v=>match v with
  | .ks h' τ' z n=>match Nat.beq h' h with
   | true=>match decEq τ' τ with
    | isTrue _=>some [⟨.int .i64,(z:Int)⟩,⟨.int .i64,(n:Int)⟩]
    | isFalse _=>none
   | false=>none
  | _=>none
 | .fA h τ,v=>match v with
  | .val (.pointer none)=>some [⟨.bool,true⟩,⟨.int .i64,(0:Int)⟩,⟨.int .i64,(0:Int)⟩]
  | .kp h' τ' i j=>match Nat.beq h' h with
   | true=>match decEq τ' τ with
    | isTrue _=>some [⟨.bool,false⟩,⟨.int .i64,(i:Int)⟩,⟨.int .i64,(j:Int)⟩]
    | isFalse _=>none
   | false=>none
  | .fA b h' τ' i j=>match Nat.beq h' h with
   | true=>match decEq τ' τ with
    | isTrue _=>some [⟨.bool,b⟩,⟨.int .i64,(i:Int)⟩,⟨.int .i64,(j:Int)⟩]
    | isFalse _=>none
   | false=>none
  | _=>none
def pz:List Sh→List (TV S)→Option (List (bo S.α))
 | [],[]=>some []
 | sh::r,v::vs=>match kH sh v with
  | some xs=>match pz r vs with
   | some ys=>some (xs++ys)
   | none=>none
  | none=>none
 | _,_=>none
end
mutual
def ig:Sh→List (bo S.α)→TV S×List (bo S.α)
 | .af f _,ls=>match ls with
  | x::r=>(.af f x.τ x.a,r)
  | []=>(.any,[])
 | .ptr f _,ls=>match ls with
  | x::r=>(.ptr f x.τ x.a,r)
  | []=>(.any,[])
 | .own h τ,ls=>(.aO h τ,ls)
 | .loc h o,ls=>(.loc h o,ls)
 | .aM f l,ls=>(.aM f (cW l ls).1,(cW l ls).2)
 | .agg l,ls=>(.agg (cW l ls).1,(cW l ls).2)
 | .cq h,ls=>(.cq h,ls)
 | .mp h,ls=>(.mp h,ls)
 | .any,ls=>(.any,ls)
 | .lR,ls=>match ls with
  | ⟨.int _,a⟩::r=>(.aM (Int.toNat a) [],r)
  | r=>(.any,r)
 | .sub h τ,ls=>match ls with
  | ⟨.int _,a⟩::⟨.int _,b⟩::r=>(.sub h τ (Int.toNat a) (Int.toNat b),r)
  | r=>(.any,r)
 | .ks h τ,ls=>match ls with
  | ⟨.int _,a⟩::⟨.int _,b⟩::r=>(.ks h τ (Int.toNat a) (Int.toNat b),r)
  | r=>(.any,r)
 | .fA h τ,ls=>match ls with
  | ⟨.bool,b⟩::⟨.int _,i⟩::⟨.int _,j⟩::r=>(.fA b h τ (Int.toNat i) (Int.toNat j),r)
  | r=>(.any,r)
def cW:List Sh→List (bo S.α)→List (TV S)×List (bo S.α)
 | [],ls=>([],ls)
 | sh::r,ls=>((ig sh ls).1::(cW r (ig sh ls).2).1,(cW r (ig sh ls).2).2)
end
theorem RW.any (g:G):RW g .any:=fun _ _ _ _ _ _=>.aF (.any _)
theorem RW.aM {f:FuncId}{gs gs':List G}(hl:gs'.length=gs.length) (h:∀(j:Nat) (g':G),gs'[j]?=some g'→∃g,gs[j]?=some g∧RW g g'):RW (.aM f gs) (.aM f gs'):=by
 intro O base w μ v hv
 cases hv with
 | aF hv=>cases hv
 | aM _ _ us h1 h2=>exact .aM f _ us (h1.trans hl.symm) fun j g' v hg' hv=>(by
   obtain⟨g,hg,hw⟩:=h j g' hg'
   exact hw _ _ _ _ _ (h2 j g v hg hv))
theorem RW.af (f f':Bool) (τ:Ty) (a:S.D τ) (hc:(!f||f')=true):RW (nf f' τ a) (nf f τ a):=by
 cases f with
 | true=>
  have:f'=true:=by simpa using hc
  subst this
  exact RW.refl _
 | false=>
  unfold nf
  split
  ·rename_i n a
   refine RW.agg (by simp) fun j g' hg'=>?_
   rw[ay] at hg'⊢
   obtain⟨g,hg,rfl⟩:=au.1 hg'
   exact⟨_,by rw[hg];rfl,RW.dq _ _ _ (fun e=>by cases e)⟩
  ·exact RW.dq _ _ _ (fun e=>by cases e)
theorem RW.R4 (f f':Bool) (τ:Ty) (a:S.D τ) (hc:(!f||f')=true):RW (Nj f' τ a) (Nj f τ a):=by
 cases f with
 | true=>
  have:f'=true:=by simpa using hc
  subst this
  exact RW.refl _
 | false=>
  cases f' with
  | false=>exact RW.refl _
  | true=>exact RW.Qj (.ptr (aK S τ a))
theorem OV {ln:Nat→Nat}{vs vs':List (TV S)}(hl:vs'.length=vs.length) (h:∀(j:Nat) (v':TV S),vs'[j]?=some v'→∃v,vs[j]?=some v∧RW (v.er ln) (v'.er ln)):
  (TV.er.go ln vs').length=(TV.er.go ln vs).length∧∀(j:Nat) (g':G),(TV.er.go ln vs')[j]?=some g'→∃g,(TV.er.go ln vs)[j]?=some g∧RW g g':=by
 rw[cR,cR]
 refine⟨by simp[hl],fun j g' hg'=>?_⟩
 rw[ay] at hg'
 obtain⟨v',h1,rfl⟩:=au.1 hg'
 obtain⟨v,h2,h3⟩:=h j v' h1
 exact⟨v.er ln,by rw[ay,h2];rfl,h3⟩
mutual
theorem AJ (ln:Nat→Nat):∀{sh:Sh}{v:TV S}{xs:List (bo S.α)},kH sh v=some xs→∀(r:List (bo S.α)),(ig sh (xs++r)).2=r∧RW (v.er ln) ((ig sh (xs++r)).1.er ln)
 | .af f τ,v,xs,h,r=>by
  simp only[kH] at h
  split at h
  ·rename_i f' a ha
   split at h
   ·rename_i hc
    cases h
    exact⟨rfl,(Ql ha ln).trans (RW.af _ _ _ _ hc)⟩
   ·cases h
  ·cases h
 | .ptr f τ,v,xs,h,r=>by
  simp only[kH] at h
  split at h
  ·rename_i f' τ' a
   split at h
   ·rename_i hc
    split at h
    ·rename_i b hb
     cases h
     have:=dW hb
     cases this
     exact⟨rfl,RW.R4 _ _ _ _ hc⟩
    ·cases h
   ·cases h
  ·cases h
 | .own h0 τ,v,xs,h,r=>by
  simp only[kH] at h
  split at h
  ·split at h
   ·rename_i hb
    split at h
    ·rename_i e _
     cases h
     subst e
     have:=aa hb
     subst this
     exact⟨rfl,RW.refl _⟩
    ·cases h
   ·cases h
  ·cases h
 | .loc h0 o,v,xs,h,r=>by
  simp only[kH] at h
  split at h
  ·split at h
   ·rename_i hb
    simp only[ai] at hb
    cases h
    have e1:=aa hb.1
    have e2:=aa hb.2
    subst e1;subst e2
    exact⟨rfl,RW.refl _⟩
   ·cases h
  ·cases h
 | .aM f l,v,xs,h,r=>by
  simp only[kH] at h
  split at h
  ·rename_i f' vs
   split at h
   ·rename_i hb
    have e:=aa hb
    subst e
    obtain⟨i1,i2,i3⟩:=qv ln h r
    obtain⟨j1,j2⟩:=OV i2 i3
    exact⟨i1,RW.aM j1 j2⟩
   ·cases h
  ·cases h
 | .agg l,v,xs,h,r=>by
  simp only[kH] at h
  split at h
  ·rename_i vs
   obtain⟨i1,i2,i3⟩:=qv ln h r
   obtain⟨j1,j2⟩:=OV i2 i3
   exact⟨i1,RW.agg j1 j2⟩
  ·cases h
 | .cq h0,v,xs,h,r=>by
  simp only[kH] at h
  split at h
  ·split at h
   ·rename_i hb
    cases h
    have:=aa hb
    subst this
    exact⟨rfl,RW.refl _⟩
   ·cases h
  ·cases h
 | .mp h0,v,xs,h,r=>by
  simp only[kH] at h
  split at h
  ·split at h
   ·rename_i hb
    cases h
    have:=aa hb
    subst this
    exact⟨rfl,RW.refl _⟩
   ·cases h
  ·cases h
 | .any,v,xs,h,r=>by
  simp only[kH] at h
  cases h
  exact⟨rfl,RW.any _⟩
 | .lR,v,xs,h,r=>by
  simp only[kH] at h
  split at h
  ·cases h
   exact⟨rfl,RW.refl _⟩
  ·cases h
 | .sub h0 τ,v,xs,h,r=>by
  simp only[kH] at h
  split at h
  ·split at h
   ·rename_i hb
    split at h
    ·rename_i e _
     cases h
     subst e
     have:=aa hb
     subst this
     exact⟨rfl,RW.refl _⟩
    ·cases h
   ·cases h
  ·cases h
 | .ks h0 τ,v,xs,h,r=>by
  simp only[kH] at h
  split at h
  ·split at h
   ·rename_i hb
    split at h
    ·rename_i e _
     cases h
     subst e
     have:=aa hb
     subst this
     exact⟨rfl,RW.refl _⟩
    ·cases h
   ·cases h
  ·cases h
 | .fA h0 τ,v,xs,h,r=>by
  simp only[kH] at h
  split at h
  ·cases h
   exact⟨rfl,RW.refl _⟩
  ·split at h
   ·rename_i hb
    split at h
    ·rename_i e _
     cases h
     subst e
     have:=aa hb
     subst this
     exact⟨rfl,RW.refl _⟩
    ·cases h
   ·cases h
  ·split at h
   ·rename_i hb
    split at h
    ·rename_i e _
     cases h
     subst e
     have:=aa hb
     subst this
     exact⟨rfl,RW.refl _⟩
    ·cases h
   ·cases h
  ·cases h
theorem qv (ln:Nat→Nat):∀{l:List Sh}{vs:List (TV S)}{xs:List (bo S.α)},pz l vs=some xs→∀(r:List (bo S.α)),(cW l (xs++r)).2=r∧(cW l (xs++r)).1.length=vs.length∧
  ∀(j:Nat) (v':TV S),(cW l (xs++r)).1[j]?=some v'→∃v,vs[j]?=some v∧RW (v.er ln) (v'.er ln)
 | [],[],xs,h,r=>by simp only[pz] at h;cases h;exact⟨rfl,rfl,fun j v' h=>by cases h⟩
 | sh::l,v::vs,xs,h,r=>by
  simp only[pz] at h
  split at h
  ·rename_i x1 h1
   split at h
   ·rename_i ys h2
    cases h
    rw[aC]
    obtain⟨e1,e2⟩:=AJ ln h1 (ys++r)
    obtain⟨i1,i2,i3⟩:=qv ln h2 r
    simp only[cW]
    rw[e1]
    refine⟨i1,by simp[i2],fun j v' hj=>?_⟩
    cases j with
    | zero=>cases hj;exact⟨v,rfl,e2⟩
    | succ j=>exact i3 j v' hj
   ·cases h
  ·cases h
 | [],_::_,_,h,_=>by simp[pz] at h
 | _::_,[],_,h,_=>by simp[pz] at h
end
def BX (fr:List (Nat×TV S)):List (Nat×Sh)→Option (List (bo S.α))
 | []=>some []
 | (d,sh)::r=>match bc fr d with
  | some v=>match kH sh v with
   | some xs=>match BX fr r with
    | some ys=>some (xs++ys)
    | none=>none
   | none=>none
  | none=>none
def cu:List (Nat×Sh)→List (bo S.α)→List (Nat×TV S)×List (bo S.α)
 | [],ls=>([],ls)
 | (d,sh)::r,ls=>((d,(ig sh ls).1)::(cu r (ig sh ls).2).1,(cu r (ig sh ls).2).2)
theorem wz {fr:List (Nat×TV S)}(ln:Nat→Nat):∀{l:List (Nat×Sh)}{xs:List (bo S.α)},BX fr l=some xs→∀(r:List (bo S.α)),(cu l (xs++r)).2=r∧
  ∀d v',bc (cu l (xs++r)).1 d=some v'→∃v,bc fr d=some v∧RW (v.er ln) (v'.er ln)
 | [],xs,h,r=>by cases h;exact⟨rfl,fun d v' h=>by cases h⟩
 | (d0,sh)::l,xs,h,r=>by
  simp only[BX] at h
  split at h
  ·rename_i v hv
   split at h
   ·rename_i x1 h1
    split at h
    ·rename_i ys h2
     cases h
     rw[aC]
     obtain⟨e1,e2⟩:=AJ ln h1 (ys++r)
     obtain⟨i1,i2⟩:=wz ln h2 r
     simp only[cu]
     rw[e1]
     refine⟨i1,fun d v' hd=>?_⟩
     simp only[bc] at hd
     cases hb:Nat.beq d0 d with
     | true=>
      rw[hb] at hd
      cases hd
      have:=aa hb
      subst this
      exact⟨v,hv,e2⟩
     | false=>rw[hb] at hd;exact i2 d v' hd
    ·cases h
   ·cases h
  ·cases h
def Jb:Ty→Bool
 | .list (.list t)=>t.fV
 | .map=>true
 | _=>false
def JZ (oh:Oh) (o:TO S):Option (List (bo S.α)):=
 match oh with
 | .aT e m f τ=>match o with
  | .aT e' m' f' τ' l=>match Nat.beq e' e&&((!m||m')&&(!f||(f'||τ'.fV))) with
   | true=>match ik (.list τ') (.list τ) l with
    | some l=>some [⟨.list τ,l⟩]
    | none=>none
   | false=>none
  | _=>none
 | .box e m cs=>match o with
  | .box e' m' vs=>match Nat.beq e' e&&(!m||m') with
   | true=>pz cs vs
   | false=>none
  | _=>none
 | .lp key lv cs=>match o with
  | .lp key' n vs=>match Nat.beq key' key with
   | true=>match lv with
    | true=>match pz cs vs with
     | some xs=>some (⟨.int .i64,n⟩::xs)
     | none=>none
    | false=>match decEq n 0 with
     | isTrue _=>pz cs vs
     | isFalse _=>none
   | false=>none
  | _=>none
 | .deep e m f dk τ=>match o with
  | .deep e' m' f' dk' τ' a=>match Nat.beq e' e&&((!m||m')&&(!f||(f'||Jb τ'))) with
   | true=>match decEq dk' dk with
    | isTrue _=>match ik τ' τ a with
     | some a=>some [⟨τ,a⟩]
     | none=>none
    | isFalse _=>none
   | false=>none
  | _=>none
def kS (oh:Oh) (ls:List (bo S.α)):TO S×List (bo S.α):=
 match oh with
 | .aT e m f _=>match ls with
  | ⟨.list τ,l⟩::r=>(.aT e m f τ l,r)
  | r=>(.box e m [],r)
 | .box e m cs=>(.box e m (cW cs ls).1,(cW cs ls).2)
 | .lp key lv cs=>match lv with
  | true=>match ls with
   | ⟨.int _,n⟩::r=>(.lp key n (cW cs r).1,(cW cs r).2)
   | r=>(.box 0 false [],r)
  | false=>(.lp key 0 (cW cs ls).1,(cW cs ls).2)
 | .deep e m f dk _=>match ls with
  | x::r=>(.deep e m f dk x.τ x.a,r)
  | r=>(.box e m [],r)
theorem Ky {st st':List (Nat×ap)}{vs vs':List (TV S)}(ln ln':Nat→Nat) (hl:vs'.length=vs.length) (h:∀(j:Nat) (v':TV S),vs'[j]?=some v'→∃v,vs[j]?=some v∧CV st st' (v.er ln) (v'.er ln')):Ia st st' (TV.er.go ln vs) (TV.er.go ln' vs'):=by
 rw[cR,cR]
 refine⟨by simp[hl],fun j g' hg'=>?_⟩
 rw[ay] at hg'
 obtain⟨v',h1,rfl⟩:=au.1 hg'
 obtain⟨v,h2,h3⟩:=h j v' h1
 exact⟨v.er ln,by rw[ay,h2];rfl,h3⟩
theorem EB {τ:Ty}(hs:τ.fV=true):∀(l:List (S.D τ)) (g:G),g∈List.flatMap (aK S τ) l→∃v,g=.val v
 | l,g,hg=>by
  obtain⟨a,_,hg⟩:=g7.1 hg
  cases τ with
  | int _=>exact⟨_,cB.1 hg⟩
  | bool=>exact⟨_,cB.1 hg⟩
  | str=>exact⟨_,cB.1 hg⟩
  | list _=>cases hs
  | st _=>cases hs
  | map=>cases hs
theorem Il (dk:Dk) (e:TypeId){τ:Ty}(hs:Jb τ=true) (a:S.D τ) (O O':Nat→Prop) (w:World) (b:Nat) (m:Mm) (h:(dk.dp e τ a).φ O w b m):(dk.dp e τ a).φ O' w b m:=by
 cases dk with
 | dG kty=>
  obtain⟨cs,h⟩:=h
  refine⟨cs,{len:=h.len,root:=h.root,inj:=h.inj,heap:=h.heap,size:=h.size,le:=h.le,max:=h.max,row:=fun i n gs hi=>?_}⟩
  obtain⟨u,x,h1,h2,h3⟩:=h.row i n gs hi
  refine⟨u,x,h1,h2,?_⟩
  cases x with
  | none=>exact h3
  | some ck=>
   obtain⟨cap,cs',q1,q2,q3,q4,q5,q6,q7,q8⟩:=h3
   refine⟨cap,cs',q1,q2,q3,q4,q5,q6,q7,fun j g hg=>?_⟩
   obtain⟨v,hv,hr⟩:=q8 j g hg
   refine⟨v,hv,?_⟩
   cases τ with
   | list t=>cases t with
    | list t=>
     have hi:(List.map (fun l=>(List.length l,List.flatMap (aK S t) l)) a)[i]?=some (n,gs):=hi
     rw[ay] at hi
     obtain⟨l,_,e⟩:=au.1 hi
     cases e
     obtain⟨u,rfl⟩:=EB (τ:=t) hs l g (ar hg)
     cases hr
     exact .val _
    | _=>cases hs
   | map=>
    have hi:([]:List (Nat×List G))[i]?=some (n,gs):=hi
    simp at hi
   | _=>cases hs
 | rows kty ho=>
  obtain⟨cs,h⟩:=h
  have hno:(E1 τ a).2.2=[]:=by
   cases τ with
   | list t=>cases t with
    | list t=>rfl
    | _=>cases hs
   | map=>rfl
   | _=>cases hs
  refine⟨cs,{len:=h.len,root:=h.root,inj:=h.inj,heap:=h.heap,size:=h.size,le:=h.le,max:=h.max,row:=fun i n gs hi _=>?_,hole:=h.hole}⟩
  rw[hno] at hi
  cases hi
 | map q kty tty=>
  have h:zJ q kty tty (mapOf τ a).n ((mapOf τ a).es.map (bP.me q)) (vo q (mapOf τ a).pd) O w b m:=h
  show zJ q kty tty (mapOf τ a).n ((mapOf τ a).es.map (bP.me q)) (vo q (mapOf τ a).pd) O' w b m
  have val:∀(l:List Int) (j:Nat) (g:G) (v:Value),(gA q l)[j]?=some g→bA O w g v→bA O' w g v:=by
   intro l j g v hg hr
   unfold gA at hg
   rw[ay] at hg
   obtain⟨x,_,rfl⟩:=au.1 hg
   cases hr
   exact .val _
  refine {len:=h.len,tn:=h.tn,vg:=h.vg,heap:=h.heap,root:=h.root,n4:=fun e he=>?_,inj:=h.inj,xD:=fun sr x gs hp=>?_}
  ·obtain⟨c,cs,h1,h2,h3,h4⟩:=h.n4 e he
   refine⟨c,cs,h1,h2,h3,fun j p hp=>?_⟩
   obtain⟨u,h5,h6⟩:=h4 j p hp
   refine⟨u,h5,?_⟩
   obtain⟨e0,_,rfl⟩:=iV.1 he
   have hp:(e0.f.map fun p=>(p.1,gA q p.2))[j]?=some p:=hp
   rw[ay] at hp
   obtain⟨p0,_,rfl⟩:=au.1 hp
   refine h6.imp id fun ⟨h0,c',k',r1,cap,cs',q1,q2,q3,q4,q5,q6,q7,q8⟩=>⟨h0,c',k',r1,cap,cs',q1,q2,q3,q4,q5,q6,q7,fun j g hg=>?_⟩
   obtain⟨v,hv,hr⟩:=q8 j g hg
   exact⟨v,hv,val _ _ _ _ hg hr⟩
  ·obtain⟨h0,⟨c,k,cs,h1,h2,h3,h4,h5,h6⟩,h7⟩:=h.xD sr x gs hp
   refine⟨h0,⟨c,k,cs,h1,h2,h3,h4,h5,fun i g hg=>?_⟩,h7⟩
   obtain⟨v,hv,hr⟩:=h6 i g hg
   refine⟨v,hv,?_⟩
   cases hd:(mapOf τ a).pd with
   | none=>rw[hd] at hp;cases hp
   | some p=>
    obtain⟨sr',x',l⟩:=p
    rw[hd] at hp
    cases hp
    exact val _ _ _ _ hg hr
theorem HW {a b:Bool}(h:(!a||b)=true) (ha:a=true):b=true:=by subst ha;simpa using h
theorem Nn {st st':List (Nat×ap)}{oh:Oh}{o:TO S}{xs:List (bo S.α)}(h:JZ oh o=some xs) (ln:Nat→Nat) (r:List (bo S.α)):(kS oh (xs++r)).2=r∧(kS oh (xs++r)).1.len=o.len∧oq st st' (o.er ln) ((kS oh (xs++r)).1.er ln):=by
 unfold JZ at h
 split at h
 ·split at h
  ·split at h
   ·rename_i hc
    simp only[ai] at hc
    obtain⟨c1,c2,c3⟩:=hc
    split at h
    ·rename_i l' hl
     cases h
     obtain⟨e,hl⟩:=nK hl
     subst e
     cases hl
     have c1:=aa c1
     subst c1
     refine⟨rfl,rfl,rfl,HW c2,rfl,rfl,rfl,rfl,.inl ⟨rfl,rfl,fun hf=>?_⟩⟩
     have c4:=HW c3 hf
     rw[dC] at c4
     exact c4.imp id fun hs=>.inl ⟨rfl,EB hs _⟩
    ·cases h
   ·cases h
  ·cases h
 ·split at h
  ·split at h
   ·rename_i hc
    simp only[ai] at hc
    have c1:=aa hc.1
    have c2:=hc.2
    subst c1
    obtain⟨i1,i2,i3⟩:=qv ln h r
    refine⟨i1,rfl,rfl,HW c2,rfl,rfl,rfl,?_,.inr ⟨rfl,?_⟩⟩
    ·show(TV.er.go ln _).length=(TV.er.go ln _).length
     rw[cR,cR,a5,a5,i2]
    ·exact(Ky ln ln i2 fun j v' hj=>let ⟨v,h1,h2⟩:=i3 j v' hj;⟨v,h1,CV.rw h2⟩).2
   ·cases h
  ·cases h
 ·split at h
  ·split at h
   ·rename_i hc
    have c1:=aa hc
    subst c1
    split at h
    ·split at h
     ·rename_i xs' hx
      cases h
      obtain⟨i1,i2,i3⟩:=qv ln hx r
      refine⟨i1,rfl,rfl,id,rfl,rfl,rfl,?_,.inr ⟨rfl,?_⟩⟩
      ·show(TV.er.go ln _).length=(TV.er.go ln _).length
       rw[cR,cR,a5,a5]
       exact i2
      ·exact(Ky ln ln i2 fun j v' hj=>let ⟨v,h1,h2⟩:=i3 j v' hj;⟨v,h1,CV.rw h2⟩).2
     ·cases h
    ·split at h
     ·rename_i hn _
      subst hn
      obtain⟨i1,i2,i3⟩:=qv ln h r
      refine⟨i1,rfl,rfl,id,rfl,rfl,rfl,?_,.inr ⟨rfl,?_⟩⟩
      ·show(TV.er.go ln _).length=(TV.er.go ln _).length
       rw[cR,cR,a5,a5,i2]
      ·exact(Ky ln ln i2 fun j v' hj=>let ⟨v,h1,h2⟩:=i3 j v' hj;⟨v,h1,CV.rw h2⟩).2
     ·cases h
   ·cases h
  ·cases h
 ·split at h
  ·rename_i e' m' f' dk' τ' a
   split at h
   ·rename_i hc
    simp only[ai] at hc
    obtain⟨c1,c2,c3⟩:=hc
    split at h
    ·rename_i e1 _
     subst e1
     split at h
     ·rename_i a' ha
      cases h
      cases dW ha
      have c1:=aa c1
      subst c1
      refine⟨rfl,rfl,rfl,HW c2,rfl,rfl,rfl,rfl,.inl ⟨rfl,rfl,fun hf=>?_⟩⟩
      have c4:=HW c3 hf
      rw[dC] at c4
      exact c4.imp id fun hs=>.inr ⟨_,rfl,fun O O' w b m=>Il _ _ hs _ O O' w b m⟩
     ·cases h
    ·cases h
   ·cases h
  ·cases h
def wx (st:List (Nat×TO S)):List (Nat×Oh)→Option (List (bo S.α))
 | []=>some []
 | (h,oh)::r=>match aw st h with
  | some o=>match JZ oh o with
   | some xs=>match wx st r with
    | some ys=>some (xs++ys)
    | none=>none
   | none=>none
  | none=>none
def ca:List (Nat×Oh)→List (bo S.α)→List (Nat×TO S)×List (bo S.α)
 | [],ls=>([],ls)
 | (h,oh)::r,ls=>((h,(kS oh ls).1)::(ca r (kS oh ls).2).1,(ca r (kS oh ls).2).2)
theorem AK {st:List (Nat×TO S)}(ln:Nat→Nat) (gst gst':List (Nat×ap)):∀{l:List (Nat×Oh)}{xs:List (bo S.α)},wx st l=some xs→∀(r:List (bo S.α)),(ca l (xs++r)).2=r∧
  (∀h,(∃o',aw (ca l (xs++r)).1 h=some o')∨(aw (ca l (xs++r)).1 h=none∧h∉l.map (·.1)))∧
  ∀h o',aw (ca l (xs++r)).1 h=some o'→∃o,aw st h=some o∧o'.len=o.len∧oq gst gst' (o.er ln) (o'.er ln)
 | [],xs,h,r=>by
  cases h
  refine⟨rfl,fun h=>.inr (And.intro rfl (fun e=>nomatch e)),fun d v' h=>nomatch h⟩
 | (h0,oh)::l,xs,h,r=>by
  simp only[wx] at h
  split at h
  ·rename_i o ho
   split at h
   ·rename_i x1 h1
    split at h
    ·rename_i ys h2
     cases h
     rw[aC]
     obtain⟨e1,e2,e3⟩:=Nn (st:=gst) (st':=gst') h1 ln (ys++r)
     obtain⟨i1,i2,i3⟩:=AK ln gst gst' h2 r
     simp only[ca]
     rw[e1]
     refine⟨i1,fun h=>?_,fun h o' hd=>?_⟩
     ·simp only[aw]
      cases hb:Nat.beq h0 h with
      | true=>exact .inl ⟨_,rfl⟩
      | false=>
       rcases i2 h with h3 | ⟨h3,h4⟩
       ·exact .inl h3
       ·refine .inr ⟨h3,?_⟩
        simp only[aH,aX,not_or]
        exact⟨fun e=>(by subst e;rw[aG] at hb;cases hb),h4⟩
     ·simp only[aw] at hd
      cases hb:Nat.beq h0 h with
      | true=>
       rw[hb] at hd
       cases hd
       have:=aa hb
       subst this
       exact⟨o,ho,e2,e3⟩
      | false=>rw[hb] at hd;exact i3 h o' hd
    ·cases h
   ·cases h
  ·cases h
end
end Go.DN
/-
 DN,part P:into a loop or a join,and out of it.
-/
namespace Go.DN
open Go.AM
section
variable {S:eB}
def TV.bad (ks:List Nat):TV S→Bool
 | .aO h _=>!(br h ks)
 | .agg l=>go ks l
 | .bj l=>go ks l
 | .aM _ l=>go ks l
 | _=>false
where go (ks:List Nat):List (TV S)→Bool
 | []=>false
 | x::r=>x.bad ks||go ks r
mutual
theorem lg {ln ln':Nat→Nat}{ks:List Nat}(h:∀k,k∈ks→ln k=ln' k):∀v:TV S,v.bad ks=false→v.er ln=v.er ln'
 | .af f τ a,_=>rfl
 | .ptr f τ a,_=>rfl
 | .agg l,e=>congrArg G.agg (oI h l e)
 | .bj l,e=>congrArg G.bj (oI h l e)
 | .aM f l,e=>congrArg (G.aM f) (oI h l e)
 | .loc _ _,_=>rfl
 | .gF _ _ _ _,_=>rfl
 | .aO k τ,e=>congrArg (G.aO k (S.sz τ) 0) (h k (bO.1 (by simpa[TV.bad] using e)))
 | .sub _ _ _ _,_=>rfl
 | .cq _,_=>rfl
 | .mp _,_=>rfl
 | .ks _ _ _ _,_=>rfl
 | .kp _ _ _ _,_=>rfl
 | .fA _ _ _ _ _,_=>rfl
 | .val _,_=>rfl
 | .any,_=>rfl
theorem oI {ln ln':Nat→Nat}{ks:List Nat}(h:∀k,k∈ks→ln k=ln' k):∀l:List (TV S),TV.bad.go ks l=false→TV.er.go ln l=TV.er.go ln' l
 | [],_=>rfl
 | x::r,e=>by
  simp only[TV.bad.go,bD] at e
  simp only[TV.er.go]
  rw[lg h x e.1,oI h r e.2]
end
def TO.bad (ks:List Nat):TO S→Bool
 | .box _ _ cs=>TV.bad.go ks cs
 | .aT ..=>false
 | .lp _ _ cs=>TV.bad.go ks cs
 | .deep ..=>false
theorem TO.lg {ln ln':Nat→Nat}{ks:List Nat}(h:∀k,k∈ks→ln k=ln' k) (o:TO S) (e:o.bad ks=false):o.er ln=o.er ln':=by
 cases o with
 | box e' m cs=>simp only[TO.er];rw[oI h cs e]
 | aT e' m f τ l=>rfl
 | lp p n cs=>simp only[TO.er];rw[oI h cs e]
 | deep=>rfl
def cc {α:Type}(D:List Nat):List (Nat×α)→List (Nat×α)
 | []=>[]
 | x::r=>match br x.1 D with
  | true=>cc D r
  | false=>x::cc D r
theorem jI {D:List Nat}:∀{fr:List (Nat×TV S)}{d:Nat},bc (cc D fr) d=match br d D with | true=>none | false=>bc fr d
 | [],d=>by simp only[cc,bc];cases br d D <;> rfl
 | (t,v)::r,d=>by
  simp only[cc]
  cases hb:Nat.beq t d with
  | true=>
   have:=aa hb
   subst this
   cases hm:br t D with
   | true=>simp only;rw[jI,hm]
   | false=>simp only[bc,hb,cond_true]
  | false=>
   cases hm:br t D with
   | true=>simp only;rw[jI];simp only[bc,hb,cond_false]
   | false=>simp only[bc,hb,cond_false];exact jI
theorem iX {D:List Nat}:∀{st:List (Nat×TO S)}{d:Nat},aw (cc D st) d=match br d D with | true=>none | false=>aw st d
 | [],d=>by simp only[cc,aw];cases br d D <;> rfl
 | (t,v)::r,d=>by
  simp only[cc]
  cases hb:Nat.beq t d with
  | true=>
   have:=aa hb
   subst this
   cases hm:br t D with
   | true=>simp only;rw[iX,hm]
   | false=>simp only[aw,hb,cond_true]
  | false=>
   cases hm:br t D with
   | true=>simp only;rw[iX];simp only[aw,hb,cond_false]
   | false=>simp only[aw,hb,cond_false];exact iX
mutual
def Sh.owns:Sh→List Nat
 | .af _ _=>[]
 | .ptr _ _=>[]
 | .own h _=>[h]
 | .loc _ _=>[]
 | .aM _ l=>rr l
 | .agg l=>rr l
 | .cq _=>[]
 | .mp _=>[]
 | .any=>[]
 | .lR=>[]
 | .sub _ _=>[]
 | .fA _ _=>[]
 | .ks _ _=>[]
def rr:List Sh→List Nat
 | []=>[]
 | x::r=>x.owns++rr r
end
def mL:List (Nat×Sh)→List Nat
 | []=>[]
 | (_,x)::r=>x.owns++mL r
def Oh.owns:Oh→List Nat
 | .aT ..=>[]
 | .box _ _ cs=>rr cs
 | .lp _ _ cs=>rr cs
 | .deep ..=>[]
def oZ:List (Nat×Oh)→List Nat
 | []=>[]
 | (_,x)::r=>x.owns++oZ r
mutual
theorem w5 (ks:List Nat):∀(sh:Sh) (ls:List (bo S.α)),(∀k,k∈sh.owns→k∈ks)→(ig sh ls).1.bad ks=false
 | .af f τ,ls,_=>by cases ls <;> rfl
 | .ptr f τ,ls,_=>by cases ls <;> rfl
 | .own k τ,ls,h=>by
  show(!(br k ks))=false
  rw[bO.2 (h k (by simp[Sh.owns]))];rfl
 | .loc _ _,ls,_=>rfl
 | .aM f l,ls,h=>nG ks l ls h
 | .agg l,ls,h=>nG ks l ls h
 | .cq _,ls,_=>rfl
 | .mp _,ls,_=>rfl
 | .any,ls,_=>rfl
 | .lR,ls,_=>by
  simp only[ig]
  split <;> rfl
 | .sub _ _,ls,_=>by
  simp only[ig]
  split <;> rfl
 | .ks _ _,ls,_=>by
  simp only[ig]
  split <;> rfl
 | .fA _ _,ls,_=>by
  simp only[ig]
  split <;> rfl
theorem nG (ks:List Nat):∀(l:List Sh) (ls:List (bo S.α)),(∀k,k∈rr l→k∈ks)→TV.bad.go ks (cW l ls).1=false
 | [],_,_=>rfl
 | sh::r,ls,hk=>by
  simp only[cW,TV.bad.go,w5 ks sh ls fun k hk'=>hk k (by simp[rr,hk']),nG ks r _ fun k hk'=>hk k (by simp[rr,hk']),Bool.or_self]
end
theorem Cs (ks:List Nat):∀(l:List (Nat×Sh)) (ls:List (bo S.α)),(∀k,k∈mL l→k∈ks)→∀d v,bc (cu l ls).1 d=some v→v.bad ks=false
 | [],ls,_,d,v,h=>by cases h
 | (d0,sh)::r,ls,hk,d,v,h=>by
  simp only[cu,bc] at h
  cases hb:Nat.beq d0 d with
  | true=>rw[hb] at h;cases h;exact w5 ks sh ls fun k hk'=>hk k (by simp[mL,hk'])
  | false=>rw[hb] at h;exact Cs ks r _ (fun k hk'=>hk k (by simp[mL,hk'])) d v h
theorem KD (ks:List Nat) (oh:Oh) (ls:List (bo S.α)) (h:∀k,k∈oh.owns→k∈ks):(kS oh ls).1.bad ks=false:=by
 cases oh with
 | aT e m f τ=>
  unfold kS
  dsimp only
  split <;> rfl
 | box e m cs=>exact nG ks cs ls h
 | lp key lv cs=>
  unfold kS
  dsimp only
  split
  ·split
   ·exact nG ks cs _ h
   ·rfl
  ·exact nG ks cs ls h
 | deep e m f dk τ=>
  unfold kS
  dsimp only
  split <;> rfl
theorem sD (ks:List Nat):∀(l:List (Nat×Oh)) (ls:List (bo S.α)),(∀k,k∈oZ l→k∈ks)→∀h o,aw (ca l ls).1 h=some o→o.bad ks=false
 | [],ls,_,d,v,h=>by cases h
 | (d0,oh)::r,ls,hk,d,v,h=>by
  simp only[ca,aw] at h
  cases hb:Nat.beq d0 d with
  | true=>rw[hb] at h;cases h;exact KD ks oh ls fun k hk'=>hk k (by simp[oZ,hk'])
  | false=>rw[hb] at h;exact sD ks r _ (fun k hk'=>hk k (by simp[oZ,hk'])) d v h
theorem told {t u:ah S}{aA:List (Nat×Sh)}{aZ:List (Nat×Oh)}{xs ys:List (bo S.α)}{F':List (Nat×TV S)}{O':List (Nat×TO S)}{ks:List Nat}
  (hp:BX t.bW aA=some xs) (hq:wx t.bg aZ=some ys) (hf:u.bW=(cu aA (xs++ys)).1++F') (ho:u.bg=(ca aZ ys).1++O')
  (hF:∀d v,bc F' d=some v→bc t.bW d=some v∧v.bad ks=false) (hO:∀h o,aw O' h=some o→aw t.bg h=some o∧o.bad ks=false)
  (hk:∀k,k∈ks→t.ln k=u.ln k) (h1:∀k,k∈mL aA→k∈ks) (h2:∀k,k∈oZ aZ→k∈ks) (hdf:u.df=t.df) (hdg:TV.bad.go ks t.df=false):Gh t.er u.er:=by
 obtain⟨p1,p2⟩:=wz t.ln hp ys
 obtain⟨q1,_,q2⟩:=AK t.ln t.er.st u.er.st hq []
 rw[b9] at q2
 refine Gh.qV (fun d v' hv'=>?_) (fun h o' ho'=>?_) ?_
 ·rw[hf,jV] at hv'
  split at hv'
  ·rename_i v1 e
   cases hv'
   obtain⟨v,e1,e2⟩:=p2 d _ e
   refine⟨v,e1,CV.rw ?_⟩
   rw[←lg hk _ (Cs ks aA _ h1 d _ e)]
   exact e2
  ·obtain⟨e1,e2⟩:=hF d v' hv'
   refine⟨v',e1,?_⟩
   rw[lg hk v' e2]
   exact CV.refl _ _ _
 ·rw[ho,db] at ho'
  split at ho'
  ·rename_i v1 e
   cases ho'
   obtain⟨o,e1,e2,e3⟩:=q2 h _ e
   refine⟨o,e1,?_⟩
   rw[←TO.lg hk _ (sD ks aZ _ h2 h _ e)]
   exact e3
  ·obtain⟨e1,e2⟩:=hO h o' ho'
   refine⟨o',e1,?_⟩
   rw[TO.lg hk o' e2]
   exact oq.refl _ _ _
 ·rw[hdf]
  exact oI hk _ hdg
def qS (ks:List Nat):List (Nat×TV S)→List Nat
 | []=>[]
 | (t,v)::r=>match v.bad ks with
  | true=>t::qS ks r
  | false=>qS ks r
def qR (ks:List Nat):List (Nat×TO S)→List Nat
 | []=>[]
 | (t,o)::r=>match o.bad ks with
  | true=>t::qR ks r
  | false=>qR ks r
def stay (H:List Nat):List (Nat×TO S)→List Nat
 | []=>[]
 | (t,o)::r=>match o with
  | .aT ..=>match br t H with
   | true=>stay H r
   | false=>t::stay H r
  | .deep ..=>match br t H with
   | true=>stay H r
   | false=>t::stay H r
  | _=>stay H r
theorem xr {ks:List Nat}:∀{fr:List (Nat×TV S)}{d:Nat}{v:TV S},bc fr d=some v→br d (qS ks fr)=false→v.bad ks=false
 | [],_,_,h,_=>by cases h
 | (t,v')::r,d,v,h,hm=>by
  simp only[bc] at h
  simp only[qS] at hm
  cases hb:v'.bad ks with
  | true=>
   rw[hb] at hm
   simp only[br] at hm
   cases ht:Nat.beq t d with
   | true=>rw[ht] at hm;cases hm
   | false=>rw[ht] at hm h;exact xr h hm
  | false=>
   rw[hb] at hm
   cases ht:Nat.beq t d with
   | true=>rw[ht] at h;cases h;exact hb
   | false=>rw[ht] at h;exact xr h hm
theorem xq {ks:List Nat}:∀{st:List (Nat×TO S)}{d:Nat}{o:TO S},aw st d=some o→br d (qR ks st)=false→o.bad ks=false
 | [],_,_,h,_=>by cases h
 | (t,v')::r,d,v,h,hm=>by
  simp only[aw] at h
  simp only[qR] at hm
  cases hb:v'.bad ks with
  | true=>
   rw[hb] at hm
   simp only[br] at hm
   cases ht:Nat.beq t d with
   | true=>rw[ht] at hm;cases hm
   | false=>rw[ht] at hm h;exact xq h hm
  | false=>
   rw[hb] at hm
   cases ht:Nat.beq t d with
   | true=>rw[ht] at h;cases h;exact hb
   | false=>rw[ht] at h;exact xq h hm
end
end Go.DN
/-
 DN,part Q:states taken apart and put together again.
-/
namespace Go.DN
open Go.AM
section
variable {S:eB}
theorem yZ {ks ks':List Nat}(h:∀k,k∈ks→k∈ks'):∀v:TV S,v.bad ks=false→v.bad ks'=false:=by
 intro v
 exact TV.rec (motive_1:=fun v=>v.bad ks=false→v.bad ks'=false) (motive_2:=fun l=>TV.bad.go ks l=false→TV.bad.go ks' l=false)
  (fun _ _ _ _=>rfl) (fun _ _ _ _=>rfl) (fun l ih e=>ih e) (fun l ih e=>ih e) (fun _ _ _=>rfl) (fun _ _ _ _ _=>rfl)
  (fun k τ e=>by
   have:br k ks=true:=by simpa[TV.bad] using e
   show(!(br k ks'))=false
   rw[bO.2 (h k (bO.1 this))];rfl)
  (fun _ _ _ _ _=>rfl) (fun _ l ih e=>ih e) (fun _ _=>rfl) (fun _ _=>rfl) (fun _ _ _ _ _=>rfl) (fun _ _ _ _ _=>rfl) (fun _ _ _ _ _ _=>rfl) (fun _ _=>rfl) (fun _=>rfl) (fun _=>rfl)
  (fun x r i1 i2 e=>by
   simp only[TV.bad.go,bD] at e⊢
   exact⟨i1 e.1,i2 e.2⟩) v
theorem rM {ks ks':List Nat}(h:∀k,k∈ks→k∈ks'):∀l:List (TV S),TV.bad.go ks l=false→TV.bad.go ks' l=false
 | [],_=>rfl
 | x::r,e=>by
  simp only[TV.bad.go,bD] at e⊢
  exact⟨yZ h x e.1,rM h r e.2⟩
theorem EK {ks ks':List Nat}(h:∀k,k∈ks→k∈ks') (o:TO S) (e:o.bad ks=false):o.bad ks'=false:=by
 cases o with
 | box e' m cs=>exact rM h cs e
 | aT=>rfl
 | lp p n cs=>exact rM h cs e
 | deep=>rfl
def aE {α:Type}:List (Nat×α)→List Nat
 | []=>[]
 | x::r=>x.1::aE r
def apart (a b:List Nat):Bool:=match a with
 | []=>true
 | x::r=>match br x b with
  | true=>false
  | false=>apart r b
theorem apart_spec {b:List Nat}:∀{a:List Nat},apart a b=true→∀x,x∈a→x∉b
 | [],_,x,h=>by cases h
 | y::r,h,x,hx=>by
  simp only[apart] at h
  cases hm:br y b with
  | true=>rw[hm] at h;cases h
  | false=>
   rw[hm] at h
   rcases aX.1 hx with e | hx
   ·subst e;intro hb;rw[bO.2 hb] at hm;cases hm
   ·exact apart_spec h x hx
def within (a b:List Nat):Bool:=match a with
 | []=>true
 | x::r=>match br x b with
  | true=>within r b
  | false=>false
theorem l7 {b:List Nat}:∀{a:List Nat},within a b=true→∀x,x∈a→x∈b
 | [],_,x,h=>by cases h
 | y::r,h,x,hx=>by
  simp only[within] at h
  cases hm:br y b with
  | false=>rw[hm] at h;cases h
  | true=>
   rw[hm] at h
   rcases aX.1 hx with e | hx
   ·subst e;exact bO.1 hm
   ·exact l7 h x hx
theorem xS:∀{fr:List (Nat×TV S)}{d:Nat}{v:TV S},bc fr d=some v→d∈aE fr
 | [],_,_,h=>by cases h
 | (t,v')::r,d,v,h=>by
  simp only[bc] at h
  cases hb:Nat.beq t d with
  | true=>have:=aa hb;subst this;exact av
  | false=>rw[hb] at h;exact ao _ (xS h)
theorem rE:∀{st:List (Nat×TO S)}{d:Nat}{o:TO S},aw st d=some o→d∈aE st
 | [],_,_,h=>by cases h
 | (t,v')::r,d,v,h=>by
  simp only[aw] at h
  cases hb:Nat.beq t d with
  | true=>have:=aa hb;subst this;exact av
  | false=>rw[hb] at h;exact ao _ (rE h)
theorem FD {fr:List (Nat×TV S)}{d:Nat}(h:d∉aE fr):bc fr d=none:=by
 cases e:bc fr d with
 | none=>rfl
 | some v=>exact absurd (xS e) h
theorem la {st:List (Nat×TO S)}{d:Nat}(h:d∉aE st):aw st d=none:=by
 cases e:aw st d with
 | none=>rfl
 | some v=>exact absurd (rE e) h
theorem mQ:∀{st:List (Nat×TO S)}{k:Nat},k∈aE st→∃o,aw st k=some o
 | [],_,h=>by cases h
 | (y,g)::r,k,h=>by
  simp only[aw]
  cases hb:Nat.beq y k with
  | true=>exact⟨g,rfl⟩
  | false=>
   rcases aX.1 h with e2 | h2
   ·subst e2;rw[aG] at hb;cases hb
   ·exact mQ h2
theorem jK:∀(l:List (Nat×Oh)) (ls:List (bo S.α)),aE (ca l ls).1=aE l
 | [],_=>rfl
 | (d,sh)::r,ls=>by simp only[ca,aE,jK r]
structure Cut where
 D:List Nat
 DO:List Nat
 ks:List Nat
def dV (s:ah S) (A H B:List Nat):Cut:=
 {D:=A++(B++qS (stay H s.bg) s.bW),DO:=H++qR (stay H s.bg) s.bg,ks:=stay H s.bg}
def KM (s:ah S) (c:Cut):Bool:=
 apart c.ks c.DO&&(!(TV.bad.go c.ks s.df)&&(apart (aE s.lo) c.D&&apart (aE s.bL) c.DO))
theorem FV {H:List Nat}:∀{st:List (Nat×TO S)}{k:Nat},k∈stay H st→k∉H∧k∈aE st
 | [],_,h=>by cases h
 | (t,o)::r,k,h=>by
  have key:k∈stay H r→k∉H∧k∈aE ((t,o)::r):=fun h=>let ⟨h1,h2⟩:=FV h;⟨h1,ao _ h2⟩
  cases o with
  | aT e m f τ l=>
   simp only[stay] at h
   cases hm:br t H with
   | true=>rw[hm] at h;exact key h
   | false=>
    rw[hm] at h
    rcases aX.1 h with e | h
    ·subst e
     exact⟨fun hh=>(by rw[bO.2 hh] at hm;cases hm),av⟩
    ·exact key h
  | deep e m f dk τ l=>
   simp only[stay] at h
   cases hm:br t H with
   | true=>rw[hm] at h;exact key h
   | false=>
    rw[hm] at h
    rcases aX.1 h with e | h
    ·subst e
     exact⟨fun hh=>(by rw[bO.2 hh] at hm;cases hm),av⟩
    ·exact key h
  | _=>exact key h
def ow {α:Type}(D:List Nat):List (Nat×α)→List (Nat×α)
 | []=>[]
 | x::r=>match br x.1 D with
  | true=>x::ow D r
  | false=>ow D r
theorem ss {D:List Nat}:∀{fr:List (Nat×TV S)}{d:Nat},bc (ow D fr) d=match br d D with | true=>bc fr d | false=>none
 | [],d=>by simp only[ow,bc];cases br d D <;> rfl
 | (t,v)::r,d=>by
  simp only[ow]
  cases hb:Nat.beq t d with
  | true=>
   have:=aa hb
   subst this
   cases hm:br t D with
   | true=>simp only[bc,hb,cond_true]
   | false=>simp only;rw[ss,hm]
  | false=>
   cases hm:br t D with
   | true=>simp only[bc,hb,cond_false];exact ss
   | false=>simp only;rw[ss];simp only[bc,hb,cond_false]
theorem sy {D:List Nat}:∀{fr:List (Nat×TO S)}{d:Nat},aw (ow D fr) d=match br d D with | true=>aw fr d | false=>none
 | [],d=>by simp only[ow,aw];cases br d D <;> rfl
 | (t,v)::r,d=>by
  simp only[ow]
  cases hb:Nat.beq t d with
  | true=>
   have:=aa hb
   subst this
   cases hm:br t D with
   | true=>simp only[aw,hb,cond_true]
   | false=>simp only;rw[sy,hm]
  | false=>
   cases hm:br t D with
   | true=>simp only[aw,hb,cond_false];exact sy
   | false=>simp only;rw[sy];simp only[aw,hb,cond_false]
def xd (s:ah S) (c:Cut):ah S:={fr:=ow c.D s.bW,lo:=cc c.D s.bW,st:=ow c.DO s.bg,bL:=cc c.DO s.bg,df:=s.df,nx:=s.nx,last:=s.last}
theorem CZ {s t:ah S}(h1:∀d,bc t.bW d=bc s.bW d) (h2:∀d,aw t.bg d=aw s.bg d) (h3:t.df=s.df):Gh s.er t.er:=by
 have hln:t.ln=s.ln:=by
  funext k
  show bZ t.bg k=bZ s.bg k
  unfold bZ
  rw[h2]
 refine Gh.qV (fun d v' hv'=>⟨v',by rw[←h1];exact hv',?_⟩) (fun h o' ho'=>⟨o',by rw[←h2];exact ho',?_⟩) (by rw[h3,hln])
 ·rw[hln];exact CV.refl _ _ _
 ·rw[hln];exact oq.refl _ _ _
theorem D3 {s t:ah S}(h1:∀d,bc t.bW d=bc s.bW d) (h2:∀d,aw t.bg d=aw s.bg d) (h3:t.last=s.last) (hl:aY s):aY t:=by
 intro d h x hm
 rw[h3] at hm
 obtain⟨i,bM,m,f,τ,l,a,e1,e2,e3⟩:=hl d h x hm
 exact⟨i,bM,m,f,τ,l,a,by rw[h1];exact e1,by rw[h2];exact e2,e3⟩
theorem xc (s:ah S) (c:Cut):∀d,bc (xd s c).bW d=bc s.bW d:=by
 intro d
 show bc (ow c.D s.bW++cc c.D s.bW) d=_
 rw[jV,ss,jI]
 cases br d c.D with
 | true=>dsimp only;cases bc s.bW d <;> rfl
 | false=>rfl
theorem HL (s:ah S) (c:Cut):∀d,aw (xd s c).bg d=aw s.bg d:=by
 intro d
 show aw (ow c.DO s.bg++cc c.DO s.bg) d=_
 rw[db,sy,iX]
 cases br d c.DO with
 | true=>dsimp only;cases aw s.bg d <;> rfl
 | false=>rfl
theorem HM (s:ah S) (c:Cut) (hl:aY s):Gh s.er (xd s c).er∧aY (xd s c):=
 ⟨CZ (xc s c) (HL s c) rfl,D3 (xc s c) (HL s c) rfl hl⟩
def flat (s:ah S) (c:Cut) (t:ah S):ah S:={fr:=t.fr++cc c.D s.fr,lo:=s.lo,st:=t.st++cc c.DO s.st,bL:=s.bL,df:=s.df,nx:=t.nx,last:=t.last}
theorem Bb {α:Type}{D:List Nat}:∀{l:List (Nat×α)},apart (aE l) D=true→cc D l=l
 | [],_=>rfl
 | x::r,h=>by
  simp only[aE,apart] at h
  simp only[cc]
  cases hm:br x.1 D with
  | true=>rw[hm] at h;cases h
  | false=>rw[hm] at h;dsimp only;rw[Bb h]
theorem yM {α:Type}{D:List Nat}:∀(l l':List (Nat×α)),cc D (l++l')=cc D l++cc D l'
 | [],_=>rfl
 | x::r,l'=>by
  simp only[bx,cc]
  cases br x.1 D <;> simp[yM r l']
structure sK (s:ah S) (c:Cut):Prop where
 ks:∀k,k∈c.ks→k∉c.DO
 df:TV.bad.go c.ks s.df=false
 lo:cc c.D s.bW=cc c.D s.fr++s.lo
 bL:cc c.DO s.bg=cc c.DO s.st++s.bL
theorem KL {s:ah S}{c:Cut}(h:KM s c=true):sK s c:=by
 unfold KM at h
 simp only[ai,a6] at h
 obtain⟨h1,h2,h3,h4⟩:=h
 exact⟨apart_spec h1,h2,by unfold ah.bW;rw[yM,Bb h3],by unfold ah.bg;rw[yM,Bb h4]⟩
theorem I8 {s t:ah S}{c:Cut}(hc:sK s c) (h1:t.lo=cc c.D s.bW) (h2:t.bL=cc c.DO s.bg) (h3:t.df=s.df) (hl:aY t):Gh t.er (flat s c t).er∧aY (flat s c t)∧bz s (flat s c t):=by
 have e1:(flat s c t).bW=t.bW:=by
  show(t.fr++cc c.D s.fr)++s.lo=t.fr++t.lo
  rw[h1,hc.lo,aC]
 have e2:(flat s c t).bg=t.bg:=by
  show(t.st++cc c.DO s.st)++s.bL=t.st++t.bL
  rw[h2,hc.bL,aC]
 exact⟨CZ (fun d=>by rw[e1]) (fun d=>by rw[e2]) h3.symm,D3 (s:=t) (t:=flat s c t) (fun d=>by rw[e1]) (fun d=>by rw[e2]) rfl hl,⟨rfl,rfl,rfl⟩⟩
def wy (s:ah S) (j:JH):Option (List (bo S.α)):=
 match BX s.bW j.aA with
 | some xs=>match wx s.bg j.aZ with
  | some ys=>some (xs++ys)
  | none=>none
 | none=>none
def tz:List Nat→Nat→Nat
 | [],n=>n
 | x::r,n=>tz r (bif Nat.ble n x&&Nat.blt x 500 then x+1 else n)
def kJ (s:ah S) (c:Cut) (j:JH) (ls:List (bo S.α)):ah S:=
 {fr:=(cu j.aA ls).1,lo:=cc c.D s.bW,st:=(ca j.aZ (cu j.aA ls).2).1,bL:=cc c.DO s.bg,df:=s.df,nx:=tz (aE j.aZ) s.nx,last:=[]}
def qw (s:ah S) (c:Cut) (j:JH) (ls:List (bo S.α)):ah S:=
 {fr:=(cu j.aA ls).1++cc c.D s.fr,lo:=s.lo,st:=(ca j.aZ (cu j.aA ls).2).1++cc c.DO s.st,bL:=s.bL,df:=s.df,nx:=tz (aE j.aZ) s.nx,last:=[]}
def z8 (c:Cut) (j:JH):Bool:=within (mL j.aA++oZ j.aZ) (c.ks++aE j.aZ)&&apart c.ks (aE j.aZ)
def H0 (t:ah S):Bool:=apart (aE t.fr) (aE t.lo)&&apart (aE t.st) (aE t.bL)
theorem Pw {s:ah S}{c:Cut}(hc:sK s c) (j:JH) (ls:List (bo S.α)):(qw s c j ls).bW=(kJ s c j ls).bW:=by
 show((cu j.aA ls).1++cc c.D s.fr)++s.lo=(cu j.aA ls).1++cc c.D s.bW
 rw[hc.lo,aC]
theorem Pv {s:ah S}{c:Cut}(hc:sK s c) (j:JH) (ls:List (bo S.α)):(qw s c j ls).bg=(kJ s c j ls).bg:=by
 show((ca j.aZ (cu j.aA ls).2).1++cc c.DO s.st)++s.bL=(ca j.aZ (cu j.aA ls).2).1++cc c.DO s.bg
 rw[hc.bL,aC]
theorem yj {st:List (Nat×TO S)}{l:List (Nat×Oh)}{ys:List (bo S.α)}(h:wx st l=some ys) (k:Nat) (hk:k∈aE l):∃o o',aw (ca l ys).1 k=some o'∧aw st k=some o∧o'.len=o.len:=by
 obtain⟨_,_,q⟩:=AK (fun _=>0) [] [] h []
 rw[b9] at q
 obtain⟨o',e⟩:=mQ (st:=(ca l ys).1) (k:=k) (by rw[jK];exact hk)
 obtain⟨o,h1,h2,_⟩:=q k o' e
 exact⟨o,o',e,h1,h2⟩
theorem I2 {s:ah S}{c:Cut}{A H B:List Nat}{j:JH}{ls:List (bo S.α)}(hcc:c=dV s A H B) (hc:sK s c) (hj:z8 c j=true) (hp:wy s j=some ls):Gh s.er (kJ s c j ls).er:=by
 unfold wy at hp
 split at hp
 ·rename_i xs hx
  split at hp
  ·rename_i ys hy
   cases hp
   obtain⟨p1,_⟩:=wz s.ln hx ys
   unfold z8 at hj
   simp only[ai] at hj
   obtain⟨j1,j2⟩:=hj
   have j1:=l7 j1
   have j2:=apart_spec j2
   have hks:∀k,k∈c.ks++aE j.aZ→s.ln k=(kJ s c j (xs++ys)).ln k:=by
    intro k hk
    show bZ s.bg k=bZ (kJ s c j (xs++ys)).bg k
    have est:(kJ s c j (xs++ys)).bg=(ca j.aZ ys).1++cc c.DO s.bg:=by
     show(ca j.aZ (cu j.aA (xs++ys)).2).1++cc c.DO s.bg=_
     rw[p1]
    rw[est]
    unfold bZ
    rw[db]
    rcases cU.1 hk with hk | hk
    ·have:aw (ca j.aZ ys).1 k=none:=la (by rw[jK];exact j2 k hk)
     rw[this]
     dsimp only
     rw[iX]
     have:br k c.DO=false:=by
      cases hm:br k c.DO with
      | false=>rfl
      | true=>exact absurd (bO.1 hm) (hc.ks k hk)
     rw[this]
    ·obtain⟨o,o',e1,e2,e3⟩:=yj hy k hk
     rw[e1,e2]
     exact e3.symm
   refine told (u:=kJ s c j (xs++ys)) (F':=cc c.D s.bW) (O':=cc c.DO s.bg) hx hy rfl ?_ (fun d v hv=>?_) (fun h o ho=>?_) hks (fun k hk=>j1 k (bS _ hk)) (fun k hk=>j1 k (cC _ hk)) rfl (rM (fun k hk=>bS _ hk) _ hc.df)
   ·show(ca j.aZ (cu j.aA (xs++ys)).2).1++cc c.DO s.bg=_
    rw[p1]
   ·rw[jI] at hv
    cases hm:br d c.D with
    | true=>rw[hm] at hv;cases hv
    | false=>
     rw[hm] at hv
     refine⟨hv,yZ (fun k hk=>bS _ hk) v (xr hv ?_)⟩
     subst hcc
     cases hq:br d (qS (dV s A H B).ks s.bW) with
     | false=>rfl
     | true=>
      rw[bO.2 (show d∈(dV s A H B).D from cC _ (cC _ (bO.1 hq)))] at hm
      cases hm
   ·rw[iX] at ho
    cases hm:br h c.DO with
    | true=>rw[hm] at ho;cases ho
    | false=>
     rw[hm] at ho
     refine⟨ho,EK (fun k hk=>bS _ hk) o (xq ho ?_)⟩
     subst hcc
     cases hq:br h (qR (dV s A H B).ks s.bg) with
     | false=>rfl
     | true=>
      rw[bO.2 (show h∈(dV s A H B).DO from cC _ (bO.1 hq))] at hm
      cases hm
  ·cases hp
 ·cases hp
theorem Mi {s t:ah S}{c:Cut}{A H B:List Nat}{j:JH}{ls:List (bo S.α)}(hcc:c=dV s A H B) (hc:sK s c) (hj:z8 c j=true) (h1:t.lo=cc c.D s.bW) (h2:t.bL=cc c.DO s.bg) (h3:t.df=s.df)
  (ha:H0 t=true) (hp:wy t j=some ls):Gh t.er (kJ s c j ls).er:=by
 unfold wy at hp
 split at hp
 ·rename_i xs hx
  split at hp
  ·rename_i ys hy
   cases hp
   obtain⟨p1,_⟩:=wz t.ln hx ys
   unfold z8 at hj
   simp only[ai] at hj
   obtain⟨j1,j2⟩:=hj
   have j1:=l7 j1
   have j2:=apart_spec j2
   unfold H0 at ha
   simp only[ai] at ha
   have a1:=apart_spec ha.1
   have a2:=apart_spec ha.2
   have tf:∀{d v},bc t.lo d=some v→bc t.bW d=some v:=by
    intro d v hv
    show bc (t.fr++t.lo) d=_
    rw[jV,FD fun hd=>a1 d hd (xS hv)]
    exact hv
   have of:∀{d o},aw t.bL d=some o→aw t.bg d=some o:=by
    intro d v hv
    show aw (t.st++t.bL) d=_
    rw[db,la fun hd=>a2 d hd (rE hv)]
    exact hv
   have hgood:∀{d v},bc (cc c.D s.bW) d=some v→v.bad c.ks=false:=by
    intro d v hv
    rw[jI] at hv
    cases hm:br d c.D with
    | true=>rw[hm] at hv;cases hv
    | false=>
     rw[hm] at hv
     refine xr hv ?_
     subst hcc
     cases hq:br d (qS (dV s A H B).ks s.bW) with
     | false=>rfl
     | true=>
      rw[bO.2 (show d∈(dV s A H B).D from cC _ (cC _ (bO.1 hq)))] at hm
      cases hm
   have hgoodO:∀{d o},aw (cc c.DO s.bg) d=some o→o.bad c.ks=false:=by
    intro h o ho
    rw[iX] at ho
    cases hm:br h c.DO with
    | true=>rw[hm] at ho;cases ho
    | false=>
     rw[hm] at ho
     refine xq ho ?_
     subst hcc
     cases hq:br h (qR (dV s A H B).ks s.bg) with
     | false=>rfl
     | true=>
      rw[bO.2 (show h∈(dV s A H B).DO from cC _ (bO.1 hq))] at hm
      cases hm
   have hkst:∀k,k∈c.ks→∃o,aw (cc c.DO s.bg) k=some o:=by
    intro k hk
    rw[iX]
    have:br k c.DO=false:=by
     cases hm:br k c.DO with
     | false=>rfl
     | true=>exact absurd (bO.1 hm) (hc.ks k hk)
    rw[this]
    have hk2:k∈aE s.bg:=by subst hcc;exact(FV hk).2
    exact mQ hk2
   have hks:∀k,k∈c.ks++aE j.aZ→t.ln k=(kJ s c j (xs++ys)).ln k:=by
    intro k hk
    show bZ t.bg k=bZ (kJ s c j (xs++ys)).bg k
    have est:(kJ s c j (xs++ys)).bg=(ca j.aZ ys).1++cc c.DO s.bg:=by
     show(ca j.aZ (cu j.aA (xs++ys)).2).1++cc c.DO s.bg=_
     rw[p1]
    rw[est]
    unfold bZ
    rw[db]
    rcases cU.1 hk with hk | hk
    ·have:aw (ca j.aZ ys).1 k=none:=la (by rw[jK];exact j2 k hk)
     rw[this]
     dsimp only
     obtain⟨o,ho⟩:=hkst k hk
     rw[ho]
     rw[of (by rw[h2];exact ho)]
    ·obtain⟨o,o',e1,e2,e3⟩:=yj hy k hk
     rw[e1,e2]
     exact e3.symm
   refine told (u:=kJ s c j (xs++ys)) (F':=cc c.D s.bW) (O':=cc c.DO s.bg) hx hy rfl ?_ (fun d v hv=>⟨tf (by rw[h1];exact hv),yZ (fun k hk=>bS _ hk) v (hgood hv)⟩)
    (fun h o ho=>⟨of (by rw[h2];exact ho),EK (fun k hk=>bS _ hk) o (hgoodO ho)⟩) hks (fun k hk=>j1 k (bS _ hk)) (fun k hk=>j1 k (cC _ hk)) h3.symm (by rw[h3];exact rM (fun k hk=>bS _ hk) _ hc.df)
   show(ca j.aZ (cu j.aA (xs++ys)).2).1++cc c.DO s.bg=_
   rw[p1]
  ·cases hp
 ·cases hp
end
end Go.DN
/-
 DN,part R:code.
-/
namespace Go.DN
open Go.AM
section
variable {S:eB}
mutual
def J4:Sh→TV S→List Nat
 | .af _ _,v=>v.J1
 | .aM _ l,v=>match v with
  | .aM _ vs=>E6 l vs
  | _=>[]
 | .agg l,v=>match v with
  | .agg vs=>E6 l vs
  | _=>[]
 | _,_=>[]
def E6:List Sh→List (TV S)→List Nat
 | sh::r,v::vs=>J4 sh v++E6 r vs
 | _,_=>[]
end
def J5 (fr:List (Nat×TV S)):List (Nat×Sh)→List Nat
 | []=>[]
 | (d,sh)::r=>match bc fr d with
  | some v=>J4 sh v++J5 fr r
  | none=>J5 fr r
def B8 (st:List (Nat×TO S)):List (Nat×Oh)→List Nat
 | []=>[]
 | (h,.box _ _ cs)::r=>match aw st h with
  | some (.box _ _ vs)=>E6 cs vs++B8 st r
  | _=>B8 st r
 | _::r=>B8 st r
def Ct (h:Nat):List (Nat×Oh)→Option TypeId
 | []=>none
 | (k,.aT e _ _ _)::r=>bif Nat.beq k h then some e else Ct h r
 | (k,.deep e _ _ _ _)::r=>bif Nat.beq k h then some e else Ct h r
 | _::r=>Ct h r
def Oa (h:Nat):List (Nat×Oh)→Option TypeId
 | []=>none
 | (k,.deep _ _ _ (.dG kty) _)::r=>bif Nat.beq k h then some kty else Oa h r
 | _::r=>Oa h r
def uF (s:ah S) (h:Nat):ah S:=match s.free h with
 | true=>s
 | false=>match zD s h with
  | some s'=>s'
  | none=>s
theorem NU {s:ah S}{h:Nat}(hl:aY s):Gh s.er (uF s h).er∧aY (uF s h)∧bz s (uF s h):=by
 unfold uF
 split
 ·exact⟨Gh.refl _,hl,bz.refl s⟩
 ·split
  ·rename_i s' hs
   exact Cp hl hs
  ·exact⟨Gh.refl _,hl,bz.refl s⟩
def FP (s:ah S) (d h:Nat):ah S:=match bc s.bW d with
 | some (.aO h' τ)=>match Nat.beq h' h with
  | true=>match aw s.bg h' with
   | some (.aT _ _ _ τ' l)=>s.put d (.sub h' τ 0 (List.length l))
   | _=>s
  | false=>s
 | _=>s
theorem O9 {s:ah S}(d h:Nat) (hl:aY s):Gh s.er (FP s d h).er∧aY (FP s d h)∧bz s (FP s d h):=by
 unfold FP
 split
 ·rename_i h' τ hx
  split
  ·split
   ·rename_i τ' l ho
    refine⟨?_,hl.put _ _,⟨rfl,rfl,rfl⟩⟩
    rw[fB]
    have e1:get s.er.fr d=some (.aO h' (S.sz τ) 0 (List.length l)):=by
     rw[show get s.er.fr d=_ from eZ hx]
     show some (G.aO _ _ 0 (s.ln h'))=_
     rw[l4 ho]
    have e2:(TV.sub h' τ 0 (List.length l):TV S).er s.ln=.aO h' (S.sz τ) 0 (List.length l):=by
     show G.aO _ _ (0*_) _=_
     rw[ep]
    rw[e2]
    refine Gh.gen (s:=s.er) (t:=s.er.put d (.aO h' (S.sz τ) 0 (List.length l))) (fun x g' hg=>?_) (fun x k' hk=>⟨k',hk,oq.refl _ _ _⟩) rfl
    simp only[St.put,gC] at hg
    cases hb:Nat.beq d x with
    | true=>
     rw[hb] at hg
     cases hg
     have:=aa hb
     subst this
     exact⟨_,e1,CV.refl _ _ _⟩
    | false=>
     rw[hb] at hg
     exact⟨g',hg,CV.refl _ _ _⟩
   ·exact⟨Gh.refl _,hl,bz.refl s⟩
  ·exact⟨Gh.refl _,hl,bz.refl s⟩
 ·exact⟨Gh.refl _,hl,bz.refl s⟩
def nl (aZ:List (Nat×Oh)):List (Nat×Sh)→ah S→Option (ah S)
 | [],s=>some s
 | (d,.own h τ)::r,s=>match bc s.bW d with
  | some (.val (.slice none 0 0))=>match Ct h aZ with
   | some e=>match bc (uF s h).bW d with
    | some (.val (.slice none 0 0))=>match (uF s h).free h with
     | true=>match Oa h aZ with
      | none=>nl aZ r ((uF s h).lT h d e τ)
      | some kty=>EY ((uF s h).lT h d e τ) h kty fun s=>nl aZ r s
     | false=>none
    | _=>none
   | none=>none
  | _=>nl aZ r s
 | (d,.sub h _)::r,s=>nl aZ r (FP s d h)
 | _::r,s=>nl aZ r s
theorem eA {aZ:List (Nat×Oh)}:∀{l:List (Nat×Sh)}{s t:ah S},aY s→nl aZ l s=some t→Gh s.er t.er∧aY t∧bz s t
 | [],s,t,hl,h=>by cases h;exact⟨Gh.refl _,hl,bz.refl s⟩
 | (d,.af _ _)::r,s,t,hl,h=>eA (l:=r) hl h
 | (d,.ptr _ _)::r,s,t,hl,h=>eA (l:=r) hl h
 | (d,.loc _ _)::r,s,t,hl,h=>eA (l:=r) hl h
 | (d,.aM _ _)::r,s,t,hl,h=>eA (l:=r) hl h
 | (d,.agg _)::r,s,t,hl,h=>eA (l:=r) hl h
 | (d,.cq _)::r,s,t,hl,h=>eA (l:=r) hl h
 | (d,.mp _)::r,s,t,hl,h=>eA (l:=r) hl h
 | (d,.any)::r,s,t,hl,h=>eA (l:=r) hl h
 | (d,.lR)::r,s,t,hl,h=>eA (l:=r) hl h
 | (d,.sub hh _)::r,s,t,hl,h=>by
  obtain⟨a1,a2,a3⟩:=O9 d hh hl
  obtain⟨b1,b2,b3⟩:=eA (l:=r) a2 h
  exact⟨a1.trans b1,b2,a3.trans b3⟩
 | (d,.fA _ _)::r,s,t,hl,h=>eA (l:=r) hl h
 | (d,.ks _ _)::r,s,t,hl,h=>eA (l:=r) hl h
 | (d,.own hh τ)::r,s,t,hl,h=>by
  simp only[nl] at h
  split at h
  ·rename_i hx
   split at h
   ·rename_i e _
    split at h
    ·rename_i hx2
     split at h
     ·rename_i hf
      obtain⟨z1,z2,z3⟩:=NU (h:=hh) hl
      obtain⟨a1,a2⟩:=Br (e:=e) (τ:=τ) z2 hx2 hf
      split at h
      ·obtain⟨b1,b2,b3⟩:=eA (l:=r) a2 h
       exact⟨z1.trans (Gh.trans a1 b1),b2,z3.trans ⟨b3.lo,b3.bL,b3.df⟩⟩
      ·obtain⟨t0,c1,c2,c3,h⟩:=Fy a2 h
       obtain⟨b1,b2,b3⟩:=eA (l:=r) c2 h
       exact⟨z1.trans (Gh.trans a1 (Gh.trans c1 b1)),b2,z3.trans ⟨b3.lo.trans c3.lo,b3.bL.trans c3.bL,b3.df.trans c3.df⟩⟩
     ·cases h
    ·cases h
   ·cases h
  ·exact eA hl h
def FR (s:ah S) (h j hd:Nat):ah S:=match aw s.st h with
 | some (.box e m cs)=>match cs[j]? with
  | some (.aO h' τ)=>match Nat.beq h' hd with
   | true=>match aw s.bg h' with
    | some (.aT _ _ _ τ' l)=>s.set h (.box e m (cs.set j (.sub h' τ 0 (List.length l))))
    | _=>s
   | false=>s
  | _=>s
 | _=>s
theorem Pb {s:ah S}(h j hd:Nat) (hl:aY s):Gh s.er (FR s h j hd).er∧aY (FR s h j hd)∧bz s (FR s h j hd):=by
 unfold FR
 split
 ·rename_i e m cs ho
  split
  ·rename_i h' τ hj
   split
   ·split
    ·rename_i τ' l ho2
     refine⟨?_,hl.set ho _,⟨rfl,rfl,rfl⟩⟩
     obtain⟨e1,_⟩:=kZ (o':=.box e m (cs.set j (.sub h' τ 0 (List.length l)))) ho rfl
     rw[e1]
     have e2:(TV.sub h' τ 0 (List.length l):TV S).er s.ln=(TV.aO h' τ:TV S).er s.ln:=by
      show G.aO _ _ (0*_) _=G.aO _ _ 0 (s.ln h')
      rw[ep,l4 ho2]
     have e3:TV.er.go s.ln (cs.set j (.sub h' τ 0 (List.length l)))=TV.er.go s.ln cs:=by
      rw[cR,kz,cR,e2]
      apply kA
      intro q
      rw[dI]
      split
      ·rename_i hq
       subst hq
       rw[ay,hj]
       split
       ·rfl
       ·rename_i hlt
        have:=(al.1 hj).1
        rw[a5] at hlt
        exact absurd this hlt
      ·rfl
     have e4:(TO.box e m (cs.set j (.sub h' τ 0 (List.length l))):TO S).er s.ln=(TO.box e m cs:TO S).er s.ln:=by
      show ap.mk _ _ _ _ _ _ _=ap.mk _ _ _ _ _ _ _
      rw[e3]
     rw[e4,ui (cO (dQ ho))]
     exact Gh.refl _
    ·exact⟨Gh.refl _,hl,bz.refl s⟩
   ·exact⟨Gh.refl _,hl,bz.refl s⟩
  ·exact⟨Gh.refl _,hl,bz.refl s⟩
 ·exact⟨Gh.refl _,hl,bz.refl s⟩
def nN (aZ:List (Nat×Oh)) (h:Nat):Nat→List Sh→ah S→Option (ah S)
 | _,[],s=>some s
 | j,.own hd τ::r,s=>match aw s.st h with
  | some (.box e' m cs)=>match cs[j]? with
   | some (.val (.slice none 0 0))=>match Ct hd aZ with
    | some e=>match aw (rc s hd).st h with
     | some (.box e' m cs)=>match cs[j]? with
      | some (.val (.slice none 0 0))=>match (rc s hd).free hd with
       | true=>nN aZ h (j+1) r (((rc s hd).add hd (.aT e true true τ [])).set h (.box e' m (cs.set j (.aO hd τ))))
       | false=>none
      | _=>none
     | _=>none
    | none=>none
   | _=>nN aZ h (j+1) r s
  | _=>nN aZ h (j+1) r s
 | j,.sub hd _::r,s=>nN aZ h (j+1) r (FR s h j hd)
 | j,_::r,s=>nN aZ h (j+1) r s
theorem eN {aZ:List (Nat×Oh)}{h:Nat}:∀{l:List Sh}{j:Nat}{s t:ah S},aY s→nN aZ h j l s=some t→Gh s.er t.er∧aY t∧bz s t
 | [],_,s,t,hl,h=>by cases h;exact⟨Gh.refl _,hl,bz.refl s⟩
 | .af _ _::r,_,s,t,hl,h=>eN (l:=r) hl h
 | .ptr _ _::r,_,s,t,hl,h=>eN (l:=r) hl h
 | .loc _ _::r,_,s,t,hl,h=>eN (l:=r) hl h
 | .aM _ _::r,_,s,t,hl,h=>eN (l:=r) hl h
 | .agg _::r,_,s,t,hl,h=>eN (l:=r) hl h
 | .cq _::r,_,s,t,hl,h=>eN (l:=r) hl h
 | .mp _::r,_,s,t,hl,h=>eN (l:=r) hl h
 | .any::r,_,s,t,hl,h=>eN (l:=r) hl h
 | .lR::r,_,s,t,hl,h=>eN (l:=r) hl h
 | .sub hd _::r,j,s,t,hl,hh=>by
  obtain⟨a1,a2,a3⟩:=Pb h j hd hl
  obtain⟨b1,b2,b3⟩:=eN (l:=r) a2 hh
  exact⟨a1.trans b1,b2,a3.trans b3⟩
 | .fA _ _::r,_,s,t,hl,h=>eN (l:=r) hl h
 | .ks _ _::r,_,s,t,hl,h=>eN (l:=r) hl h
 | .own hd τ::r,j,s,t,hl,h=>by
  simp only[nN] at h
  split at h
  ·rename_i e' m cs ho
   split at h
   ·rename_i hj
    split at h
    ·rename_i e _
     obtain⟨z1,z2,z3⟩:=Hq hd hl
     split at h
     ·rename_i ho2
      split at h
      ·rename_i hj2
       split at h
       ·rename_i hf
        obtain⟨a1,a2⟩:=MT (e:=e) (τ:=τ) z2 ho2 hj2 hf
        obtain⟨b1,b2,b3⟩:=eN (l:=r) a2 h
        exact⟨z1.trans (Gh.trans a1 b1),b2,z3.trans ⟨b3.lo,b3.bL,b3.df⟩⟩
       ·cases h
      ·cases h
     ·cases h
    ·cases h
   ·exact eN (l:=r) hl h
  ·exact eN (l:=r) hl h
def vS (aZ:List (Nat×Oh)):List (Nat×Oh)→ah S→Option (ah S)
 | [],s=>some s
 | (h,.box _ _ cs)::r,s=>match nN aZ h 0 cs s with
  | some s'=>vS aZ r s'
  | none=>none
 | _::r,s=>vS aZ r s
theorem qa {aZ:List (Nat×Oh)}:∀{l:List (Nat×Oh)}{s t:ah S},aY s→vS aZ l s=some t→Gh s.er t.er∧aY t∧bz s t
 | [],s,t,hl,h=>by cases h;exact⟨Gh.refl _,hl,bz.refl s⟩
 | (_,.aT _ _ _ _)::r,s,t,hl,h=>qa (l:=r) hl h
 | (_,.deep _ _ _ _ _)::r,s,t,hl,h=>qa (l:=r) hl h
 | (_,.lp _ _ _)::r,s,t,hl,h=>qa (l:=r) hl h
 | (_,.box _ _ cs)::r,s,t,hl,h=>by
  simp only[vS] at h
  split at h
  ·rename_i s' hs
   obtain⟨a1,a2,a3⟩:=eN hl hs
   obtain⟨b1,b2,b3⟩:=qa (l:=r) a2 h
   exact⟨a1.trans b1,b2,a3.trans b3⟩
  ·cases h
def CK (aA:List (Nat×Sh)) (aZ:List (Nat×Oh)) (s:ah S):Option (ah S):=match nl aZ aA s with
 | some s'=>vS aZ aZ s'
 | none=>none
theorem EN {aA:List (Nat×Sh)}{aZ:List (Nat×Oh)}{s t:ah S}(hl:aY s) (h:CK aA aZ s=some t):Gh s.er t.er∧aY t∧bz s t:=by
 unfold CK at h
 split at h
 ·rename_i s' hs
  obtain⟨a1,a2,a3⟩:=eA hl hs
  obtain⟨b1,b2,b3⟩:=qa a2 h
  exact⟨a1.trans b1,b2,a3.trans b3⟩
 ·cases h
def BV (s:ah S) (j:JH):Option (ah S):=match CK j.aA j.aZ s with
 | some s'=>pM (J5 s'.bW j.aA++B8 s'.bg j.aZ) s'
 | none=>none
theorem AH {s t:ah S}{j:JH}(hl:aY s) (h:BV s j=some t):Gh s.er t.er∧aY t∧bz s t:=by
 unfold BV at h
 split at h
 ·rename_i s' hs
  obtain⟨a1,a2,a3⟩:=EN hl hs
  obtain⟨b1,b2,b3⟩:=lO a2 h
  exact⟨a1.trans b1,b2,a3.trans b3⟩
 ·cases h
def carry (t:ah S) (j:JH):Option (bj S.α j.dg):=
 match BV t j with
 | some t'=>match H0 t' with
  | true=>match wy t' j with
   | some ls=>ly j.dg ls
   | none=>none
  | false=>none
 | none=>none
theorem xg {s t:ah S}{c:Cut}{A H B:List Nat}{j:JH}{q:bj S.α j.dg}(hcc:c=dV s A H B) (hc:sK s c) (hj:z8 c j=true) (h1:t.lo=cc c.D s.bW) (h2:t.bL=cc c.DO s.bg) (h3:t.df=s.df) (hl:aY t)
  (h:carry t j=some q):Gh t.er (kJ s c j (leaves j.dg q)).er:=by
 unfold carry at h
 split at h
 ·rename_i t' hp
  obtain⟨a1,a2,a3⟩:=AH hl hp
  split at h
  ·rename_i ha
   split at h
   ·rename_i ls hls
    rw[fW h]
    exact a1.trans (Mi hcc hc hj (a3.lo.trans h1) (a3.bL.trans h2) (a3.df.trans h3) ha hls)
   ·cases h
  ·cases h
 ·cases h
theorem uQ {s t:ah S}{c:Cut}{A H B:List Nat}{j:JH}{q:bj S.α j.dg}(hcc:c=dV s A H B) (hc:sK s c) (hj:z8 c j=true) (h1:t.lo=cc c.D s.bW) (h2:t.bL=cc c.DO s.bg) (h3:t.df=s.df) (hl:aY t)
  (h:carry t j=some q):Gh t.er (qw s c j (leaves j.dg q)).er:=
 (xg hcc hc hj h1 h2 h3 hl h).trans (CZ (fun d=>by rw[Pw hc]) (fun d=>by rw[Pv hc]) rfl)
inductive mn where
 | join (j:JH)
 | OR (j:JH)
 | loop (j:JH) (id:Nat) (x:JH)
 | ie (j:JH) (id:Nat) (x:JH)
 | mN (W:List Nat)
 | iJ (W:List Nat) (j:JH)
 | fz (l:List Nat)
 | tr (d:Nat)
 | th (h kty:Nat)
 | LD (key hd:Nat)
def fg:List (Nat×mn)→Nat→Option mn
 | [],_=>none
 | (k,h)::r,p=>bif Nat.beq k p then some h else fg r p
def oO:List Oper→List Nat
 | []=>[]
 | o::r=>match o.dst with
  | some d=>d::oO r
  | none=>oO r
def kM:Code→List Nat
 | .region _ ops _=>oO ops.toList
 | .seq a b=>kM a++kM b
 | .cond _ a b=>kM a++kM b
 | .block _ c=>kM c
 | .loop c=>kM c
 | .scope c=>kM c
 | .rangeFunc _ ps a b=>ps.toList++(kM a++kM b)
 | _=>[]
def jt:Code→Nat
 | .seq x y=>jt x+jt y+1
 | .cond _ x y=>jt x+jt y+1
 | .block _ c=>jt c+1
 | .loop c=>jt c+1
 | .scope c=>jt c+1
 | _=>1
abbrev vU (S:eB):=ah S→(B:Type)→(Exit→ah S→Option B)→Option B
def Dw (s:ah S) (c:Cut) (j:JH):Bool:=KM s c&&z8 c j
def zA:Exit→Bool
 | .panic _=>true
 | _=>false
def wI (s:ah S) (c:Cut) (j:JH) (at_:Exit→Bool) (run:vU S){A:Type}(K:Exit→ah S→Option A):Option A:=
 match Dw s c j with
 | true=>Option.bind (run (xd s c) (bj S.α j.dg) fun e t=>match at_ e with
   | true=>carry t j
   | false=>none) fun q=>K .normal (qw s c j (leaves j.dg q))
 | false=>none
def zu (s:ah S) (c:Cut) (j:JH) (at_:Exit→Bool) (run:vU S){A:Type}(K:Exit→ah S→Option A):Option A:=
 match Dw s c j with
 | true=>eR (fun r=>r) (run (xd s c) (Ex (bj S.α j.dg) A) fun e t=>match at_ e with
   | true=>match carry t j with
    | some q=>some (.dS q)
    | none=>none
   | false=>match K e (flat s c t) with
     | some r=>some (.ret r)
     | none=>none) fun q=>K .normal (qw s c j (leaves j.dg q))
 | false=>none
def lM:Exit→Bool
 | .normal=>true
 | _=>false
def wS (id:Nat):Exit→Bool
 | .normal=>true
 | .exit id'=>Nat.beq id' id
 | _=>false
def Kj (fu:Nat) (s:ah S) (c:Cut) (j:JH) (id:Nat) (x:JH) (run:vU S){A:Type}(K:Exit→ah S→Option A):Option A:=
 match Dw s c j&&z8 c x with
 | true=>match wy s j with
   | some ls=>match ly j.dg ls with
    | some q0=>Option.bind (aB (fun q=>run (kJ s c j (leaves j.dg q)) (bj S.α j.dg⊕bj S.α x.dg) fun e t=>match e with
      | .normal=>match carry t j with
       | some q=>some (.inl q)
       | none=>none
      | .exit id'=>match Nat.beq id' id with
       | true=>match carry t x with
        | some q=>some (.inr q)
        | none=>none
       | false=>none
      | _=>none) fu q0) fun q=>K (.exit id) (qw s c x (leaves x.dg q))
    | none=>none
   | none=>none
 | false=>none
def ie (fu:Nat) (s:ah S) (c:Cut) (j:JH) (id:Nat) (x:JH) (run:vU S){A:Type}(K:Exit→ah S→Option A):Option A:=
 match Dw s c j&&z8 c x with
 | true=>match wy s j with
   | some ls=>match ly j.dg ls with
    | some q0=>eR (fun r=>r) (aB (fun q=>run (kJ s c j (leaves j.dg q)) (bj S.α j.dg⊕Ex (bj S.α x.dg) A) fun e t=>match e with
      | .normal=>match carry t j with
       | some q=>some (.inl q)
       | none=>none
      | .exit id'=>match Nat.beq id' id with
       | true=>match carry t x with
        | some q=>some (.inr (.dS q))
        | none=>none
       | false=>match K (.exit id') (flat s c t) with
        | some r=>some (.inr (.ret r))
        | none=>none
      | e=>match K e (flat s c t) with
        | some r=>some (.inr (.ret r))
        | none=>none) fu q0) fun q=>K (.exit id) (qw s c x (leaves x.dg q))
    | none=>none
   | none=>none
 | false=>none
def JX (h:Option mn) (s:ah S){A:Type}(k:ah S→Option A):Option A:=
 match h with
 | some (.fz l)=>match pM l s with
  | some s'=>k s'
  | none=>none
 | some (.tr d)=>xR s (.tmp d) k
 | some (.th h kty)=>EY s h kty k
 | _=>k s
theorem II {h:Option mn}{s:ah S}{A:Type}{k:ah S→Option A}{r:A}(hl:aY s) (e:JX h s k=some r):∃t,Gh s.er t.er∧aY t∧bz s t∧k t=some r:=by
 unfold JX at e
 split at e
 ·split at e
  ·rename_i s' hz
   obtain⟨a1,a2,a3⟩:=lO hl hz
   exact⟨s',a1,a2,a3,e⟩
  ·cases e
 ·exact xQ hl e
 ·exact Fy hl e
 ·exact⟨s,Gh.refl _,hl,bz.refl s,e⟩
def lD:Code→Nat→List (Nat×Array Tmp×Code×Code)
 | .seq x y,p=>lD x (p+1)++lD y (p+1+jt x)
 | .cond _ x y,p=>lD x (p+1)++lD y (p+1+jt x)
 | .block _ c,p=>lD c (p+1)
 | .loop c,p=>lD c (p+1)
 | .rangeFunc _ ps a b,p=>[(p,ps,a,b)]
 | _,_=>[]
def oz (S:eB) (N:Nat) (H:List (Nat×mn)):List (Nat×Array Tmp×Code×Code)→Prop
 | []=>True
 | (p,ps,a,b)::r=>(match fg H p with
  | some (.LD key _)=>(S.eS key).N=N∧(S.eS key).ps=ps∧(S.eS key).lh=a∧(S.eS key).body=b
  | _=>True)∧oz S N H r
theorem oz.gr {N:Nat}{H:List (Nat×mn)}:∀{a b:List (Nat×Array Tmp×Code×Code)},oz S N H (a++b)→oz S N H a∧oz S N H b
 | [],b,h=>⟨trivial,h⟩
 | x::r,b,h=>⟨⟨h.1,(oz.gr h.2).1⟩,(oz.gr h.2).2⟩
structure Cl (S:eB) where
 call:(Nat→Bool)→(A:Type)→(List PanicEntry→ah S→Option A)→ah S→Option Nat→Call→(ah S→Option A)→Option A
 rf:(key hd:Nat)→ah S→Operand→(A:Type)→(Exit→ah S→Option A)→Option A
def vv (ds:List Nat):List (Nat×TV S)→Bool
 | []=>true
 | (d,_)::r=>!(br d ds)&&vv ds r
def forget (ds:List Nat) (s:ah S):ah S:={s with fr:=cc ds s.fr,last:=[]}
def zY (ops:Array Oper){A:Type}(K:Exit→ah S→Option A) (ch:List PanicEntry) (t:ah S):Option A:=
 match vv (oO ops.toList) t.lo with
 | true=>K (.panic ch) (forget (oO ops.toList) t)
 | false=>none
noncomputable def gD (P:Program) (N fu:Nat) (H:List (Nat×mn)) (cl:Cl S):Code→Nat→ah S→(A:Type)→(Exit→ah S→Option A)→Option A
 | .skip,_,s,_,K=>K .normal s
 | .region _ ops draw,p,s,A,K=>match fg H p with
  | some (.iJ W j)=>wI s (dV s (oO ops.toList) (aE j.aZ) (aE j.aA)) j lM (fun s' B K'=>match draw with
   | true=>uM P N (fun h=>br h W) W ops (cl.call (fun h=>br h W) B (zY ops K')) s' (K' .normal)
   | false=>pp P N (fun h=>Nat.blt h 1100) ops.toList (cl.call (fun h=>Nat.blt h 1100) B fun ch=>K' (.panic ch)) ops.toList s' (K' .normal)) K
  | some (.mN W)=>match draw with
   | true=>uM P N (fun h=>br h W) W ops (cl.call (fun h=>br h W) A (zY ops K)) s (K .normal)
   | false=>pp P N (fun h=>Nat.blt h 1100) ops.toList (cl.call (fun h=>Nat.blt h 1100) A fun ch=>K (.panic ch)) ops.toList s (K .normal)
  | _=>JX (fg H p) s fun s=>match draw with
   | true=>uM P N (fun h=>Nat.blt h 1100) (List.range 1100) ops (cl.call (fun h=>Nat.blt h 1100) A (zY ops K)) s (K .normal)
   | false=>pp P N (fun h=>Nat.blt h 1100) ops.toList (cl.call (fun h=>Nat.blt h 1100) A fun ch=>K (.panic ch)) ops.toList s (K .normal)
 | .seq x y,p,s,A,K=>JX (fg H p) s fun s=>gD P N fu H cl x (p+1) s A fun e s'=>match e with
  | .normal=>gD P N fu H cl y (p+1+jt x) s' A K
  | e=>K e s'
 | .cond o x y,p,s,A,K=>match o with
  | .tmp t=>match bc s.bW t with
   | some (.af _ .bool b)=>match fg H p with
    | some (.join j)=>wI s (dV s (kM x++kM y) (aE j.aZ) (aE j.aA)) j lM (fun s' B K'=>cond b (gD P N fu H cl x (p+1) s' B K') (gD P N fu H cl y (p+1+jt x) s' B K')) K
    | some (.OR j)=>zu s (dV s (kM x++kM y) (aE j.aZ) (aE j.aA)) j lM (fun s' B K'=>cond b (gD P N fu H cl x (p+1) s' B K') (gD P N fu H cl y (p+1+jt x) s' B K')) K
    | _=>cond b (gD P N fu H cl x (p+1) s A K) (gD P N fu H cl y (p+1+jt x) s A K)
   | _=>none
  | _=>none
 | .block id c,p,s,A,K=>match fg H p with
  | some (.join j)=>wI s (dV s (kM c) (aE j.aZ) (aE j.aA)) j (wS id) (fun s' B K'=>gD P N fu H cl c (p+1) s' B K') K
  | some (.OR j)=>zu s (dV s (kM c) (aE j.aZ) (aE j.aA)) j (wS id) (fun s' B K'=>gD P N fu H cl c (p+1) s' B K') K
  | _=>gD P N fu H cl c (p+1) s A fun e s'=>match e with
   | .exit id'=>match Nat.beq id' id with
    | true=>K .normal s'
    | false=>K (.exit id') s'
   | e=>K e s'
 | .loop c,p,s,A,K=>match fg H p with
  | some (.loop j id x)=>match BV s j with
   | some s'=>Kj fu s' (dV s' (kM c) (aE j.aZ) (aE j.aA)) j id x (fun s' B K'=>gD P N fu H cl c (p+1) s' B K') K
   | none=>none
  | some (.ie j id x)=>match BV s j with
   | some s'=>ie fu s' (dV s' (kM c) (aE j.aZ) (aE j.aA)) j id x (fun s' B K'=>gD P N fu H cl c (p+1) s' B K') K
   | none=>none
  | _=>none
 | .exit id,_,s,_,K=>K (.exit id) s
 | .ret,_,s,_,K=>K .ret s
 | .rangeFunc g _ _ _,p,s,A,K=>match fg H p with
  | some (.LD key hd)=>cl.rf key hd s g A K
  | _=>none
 | _,_,_,_,_=>none
section
variable {P:Program}{N:Nat}{cx:Cx}
def H9 (P:Program) (N:Nat) (cx:Cx) (c:Code) (run:vU S):Prop:=
 ∀(s:ah S) (B:Type) (K:Exit→ah S→Option B) (r:B),aY s→run s B K=some r→∀Q:Exit→St→Prop,(∀e t,aY t→bz s t→K e t=some r→Q e t.er)→GW P N cx c Q s.er
theorem GW.ON {σ ρ:Type}{c:Code}{Q:Exit→St→Prop}(E:σ→St) (R:ρ→Exit→St→Prop){body:σ→Option (σ⊕ρ)}{n:Nat}{x0:σ}{e:ρ}(hl:AM.aB body n x0=some e)
  (hr:∀x o,body x=some o→GW P N cx c (fun ex s=>match o with | .inl x'=>ex=.normal∧Gh s (E x') | .inr r=>ex≠.normal∧R r ex s) (E x)) (hq:∀ex s,ex≠.normal→R e ex s→Q ex s):GW P N cx (.loop c) Q (E x0):=by
 intro μ a w hrel
 refine Bt (fun k a w=>∃x μ,AM.aB body k x=some e∧Rel N cx μ (E x) a w) n ⟨x0,μ,hl,hrel⟩ ?_
 rintro k a w ⟨x,μ,hI,hrel⟩
 cases k with
 | zero=>exact absurd hI (by simp[AM.aB])
 | succ k=>
  simp only[AM.aB] at hI
  cases hb:body x with
  | none=>rw[hb] at hI;cases hI
  | some o=>
   rw[hb] at hI
   refine wpIn_mono (hr x o hb μ a w hrel) fun ex a' w' hl=>?_
   cases o with
   | inl x'=>
    cases ex with
    | normal=>
     obtain⟨μ',s',hr',_,hg⟩:=hl
     obtain⟨μ2,h1,_⟩:=hg N cx μ' a' w' hr'
     exact⟨k,jQ k,x',μ2,hI,h1⟩
    | outgrown=>exact hl.elim
    | _=>obtain⟨μ',s',hr',hq',_⟩:=hl;cases hq'
   | inr r=>
    cases hI
    cases ex with
    | normal=>obtain⟨μ',s',hr',hq',_⟩:=hl;exact absurd rfl hq'
    | outgrown=>exact hl.elim
    | _=>obtain⟨μ',s',hr',hn,hq'⟩:=hl;exact⟨μ',s',hr',hq _ _ hn hq'⟩
theorem uI {s:ah S}{c:Cut}{j:JH}(h:Dw s c j=true):sK s c∧z8 c j=true:=by
 unfold Dw at h
 simp only[ai] at h
 exact⟨KL h.1,h.2⟩
theorem GW.BU {c:Code}{Q Q':Exit→St→Prop}{s:St}(h:GW P N cx c Q' s) (hq:∀e s,Q' e s→∃t,Gh s t∧Q e t):GW P N cx c Q s:=fun μ a w hr=>
 wpIn_mono (h μ a w hr) fun e a' w' hl=>by
  cases e with
  | outgrown=>exact hl.elim
  | _=>
   obtain⟨μ',s',hr',h4⟩:=hl
   obtain⟨t,h5,h6⟩:=hq _ _ h4
   obtain⟨μ2,h7,_⟩:=h5 N cx μ' a' w' hr'
   exact⟨μ2,t,h7,h6⟩
theorem Cz {s t:ah S}{c:Cut}(h:bz (xd s c) t):t.lo=cc c.D s.bW∧t.bL=cc c.DO s.bg∧t.df=s.df:=⟨h.lo,h.bL,h.df⟩
theorem AS {code:Code}{s:ah S}{A H B:List Nat}{j:JH}{at_:Exit→Bool}{run:vU S}{X:Type}{K:Exit→ah S→Option X}{r:X}(hat:∀e,at_ e=true→zA e=false) (hrun:H9 P N cx code run) (hl:aY s)
  (h:wI s (dV s A H B) j at_ run K=some r){Q:Exit→St→Prop}(hQ:∀e t,aY t→bz s t→K e t=some r→Q e t.er):
  GW P N cx code (fun e s'=>at_ e=true∧∃t,Gh s' t∧Q .normal t) s.er:=by
 unfold wI at h
 split at h
 ·rename_i hf
  obtain⟨hc,hj⟩:=uI hf
  obtain⟨q,h1,h2⟩:=bind_some h
  obtain⟨g1,g2⟩:=HM s (dV s A H B) hl
  refine GW.gh g1 (hrun _ _ _ q g2 h1 _ fun e t hlt hk hK=>?_)
  split at hK
  ·rename_i he
   obtain⟨k1,k2,k3⟩:=Cz hk
   exact⟨he,_,uQ rfl hc hj k1 k2 k3 hlt hK,hQ _ _ (gE rfl) ⟨rfl,rfl,rfl⟩ h2⟩
  ·cases hK
 ·cases h
theorem GQ {code:Code}{s:ah S}{A H B:List Nat}{j:JH}{at_:Exit→Bool}{run:vU S}{X:Type}{K:Exit→ah S→Option X}{r:X}(hat:∀e,at_ e=true→zA e=false) (hrun:H9 P N cx code run) (hl:aY s)
  (h:zu s (dV s A H B) j at_ run K=some r){Q:Exit→St→Prop}(hQ:∀e t,aY t→bz s t→K e t=some r→Q e t.er):
  GW P N cx code (fun e s'=>(at_ e=true∧∃t,Gh s' t∧Q .normal t)∨(at_ e=false∧∃t,Gh s' t∧Q e t)) s.er:=by
 unfold zu at h
 split at h
 ·rename_i hf
  obtain⟨hc,hj⟩:=uI hf
  obtain⟨ex,h1,h2,h3⟩:=CF h
  obtain⟨g1,g2⟩:=HM s (dV s A H B) hl
  refine GW.gh g1 (hrun _ _ _ ex g2 h1 _ fun e t hlt hk hK=>?_)
  obtain⟨k1,k2,k3⟩:=Cz hk
  split at hK
  ·rename_i he
   split at hK
   ·rename_i q hq
    cases hK
    exact .inl ⟨he,_,uQ rfl hc hj k1 k2 k3 hlt hq,hQ _ _ (gE rfl) ⟨rfl,rfl,rfl⟩ (h2 q rfl)⟩
   ·cases hK
  ·rename_i he
   split at hK
   ·rename_i r' hr'
    cases hK
    obtain⟨f1,f2,f3⟩:=I8 hc k1 k2 k3 hlt
    refine .inr ⟨he,_,f1,hQ e _ f2 f3 ?_⟩
    rw[hr',←h3 r' rfl]
   ·cases hK
 ·cases h
theorem Nx {body:Code}{fu:Nat}{s:ah S}{A H B:List Nat}{j x:JH}{id:Nat}{run:vU S}{X:Type}{K:Exit→ah S→Option X}{r:X}(hrun:H9 P N cx body run) (hl:aY s)
  (h:Kj fu s (dV s A H B) j id x run K=some r){Q:Exit→St→Prop}(hQ:∀e t,aY t→bz s t→K e t=some r→Q e t.er):
  GW P N cx (.loop body) Q s.er:=by
 unfold Kj at h
 split at h
 ·rename_i hf
  simp only[ai] at hf
  obtain⟨hc,hj⟩:=uI hf.1
  have hx:=hf.2
  split at h
  ·rename_i ls hls
   split at h
   ·rename_i q0 hq0
    obtain⟨q,h1,h2⟩:=bind_some h
    refine GW.gh (I2 rfl hc hj hls) ?_
    rw[←fW hq0]
    refine GW.BU (GW.ON (fun q=>(kJ s (dV s A H B) j (leaves j.dg q)).er) (fun (b:bj S.α x.dg) e s'=>e=.exit id∧∃t,Gh s' t∧t=(qw s (dV s A H B) x (leaves x.dg b)).er) h1 (Q:=fun e s'=>e=.exit id∧∃t,Gh s' t∧t=(qw s (dV s A H B) x (leaves x.dg q)).er) (fun q' o ho=>?_) (fun e s' hne hR=>hR)) (fun e s' hR=>?_)
    ·refine hrun _ _ _ o (gE rfl) ho _ fun e t hlt hk hK=>?_
     have k1:t.lo=cc (dV s A H B).D s.bW:=hk.lo
     have k2:t.bL=cc (dV s A H B).DO s.bg:=hk.bL
     have k3:t.df=s.df:=hk.df
     split at hK
     ·split at hK
      ·rename_i q2 hq2
       cases hK
       exact⟨rfl,xg rfl hc hj k1 k2 k3 hlt hq2⟩
      ·cases hK
     ·split at hK
      ·rename_i hid
       split at hK
       ·rename_i q2 hq2
        cases hK
        have:=aa hid
        subst this
        exact⟨fun e=>(by cases e),rfl,_,uQ rfl hc hx k1 k2 k3 hlt hq2,rfl⟩
       ·cases hK
      ·cases hK
     ·cases hK
    ·obtain⟨e1,t,e2,e3⟩:=hR
     subst e1;subst e3
     exact⟨_,e2,hQ _ _ (gE (t:=qw s (dV s A H B) x (leaves x.dg q)) rfl) ⟨rfl,rfl,rfl⟩ h2⟩
   ·cases h
  ·cases h
 ·cases h
def LR {β X:Type}(s:ah S) (K:Exit→ah S→Option X) (id:Nat) (out:β→St) (b:Ex β X) (e:Exit) (s':St):Prop:=
 match b with
 | .dS b=>e=.exit id∧∃t,Gh s' t∧t=out b
 | .ret r'=>∃t:ah S,Gh s' t.er∧aY t∧bz s t∧K e t=some r'
theorem Nw {body:Code}{fu:Nat}{s:ah S}{A H B:List Nat}{j x:JH}{id:Nat}{run:vU S}{X:Type}{K:Exit→ah S→Option X}{r:X}(hrun:H9 P N cx body run) (hl:aY s)
  (h:ie fu s (dV s A H B) j id x run K=some r){Q:Exit→St→Prop}(hQ:∀e t,aY t→bz s t→K e t=some r→Q e t.er):
  GW P N cx (.loop body) Q s.er:=by
 unfold ie at h
 split at h
 ·rename_i hf
  simp only[ai] at hf
  obtain⟨hc,hj⟩:=uI hf.1
  have hx:=hf.2
  split at h
  ·rename_i ls hls
   split at h
   ·rename_i q0 hq0
    obtain⟨ex,h1,h2,h3⟩:=CF h
    refine GW.gh (I2 rfl hc hj hls) ?_
    rw[←fW hq0]
    refine GW.BU (GW.ON (fun q=>(kJ s (dV s A H B) j (leaves j.dg q)).er)
     (LR s K id fun b=>(qw s (dV s A H B) x (leaves x.dg b)).er) h1
     (Q:=LR s K id (fun b=>(qw s (dV s A H B) x (leaves x.dg b)).er) ex) (fun q' o ho=>?_) (fun e s' hne hR=>hR)) (fun e s' hR=>?_)
    ·refine hrun _ _ _ o (gE rfl) ho _ fun e t hlt hk hK=>?_
     have k1:t.lo=cc (dV s A H B).D s.bW:=hk.lo
     have k2:t.bL=cc (dV s A H B).DO s.bg:=hk.bL
     have k3:t.df=s.df:=hk.df
     obtain⟨f1,f2,f3⟩:=I8 hc k1 k2 k3 hlt
     split at hK
     ·split at hK
      ·rename_i q2 hq2
       cases hK
       exact⟨rfl,xg rfl hc hj k1 k2 k3 hlt hq2⟩
      ·cases hK
     ·split at hK
      ·rename_i hid
       split at hK
       ·rename_i q2 hq2
        cases hK
        have:=aa hid
        subst this
        exact⟨fun e=>(by cases e),rfl,_,uQ rfl hc hx k1 k2 k3 hlt hq2,rfl⟩
       ·cases hK
      ·split at hK
       ·rename_i r' hr'
        cases hK
        exact⟨fun e=>(by cases e),_,f1,f2,f3,hr'⟩
       ·cases hK
     ·rename_i hn1 hn2
      split at hK
      ·rename_i r' hr'
       cases hK
       exact⟨fun e=>hn1 e,_,f1,f2,f3,hr'⟩
      ·cases hK
    ·cases ex with
     | dS b=>
      obtain⟨e1,t,e2,e3⟩:=hR
      subst e1;subst e3
      exact⟨_,e2,hQ _ _ (gE (t:=qw s (dV s A H B) x (leaves x.dg b)) rfl) ⟨rfl,rfl,rfl⟩ (h2 b rfl)⟩
     | ret r'=>
      obtain⟨t,e2,e3,e4,e5⟩:=hR
      refine⟨_,e2,hQ _ _ e3 e4 ?_⟩
      rw[e5,←h3 r' rfl]
   ·cases h
  ·cases h
 ·cases h
end
end
end Go.DN
/-
 DN,part S:what the code does is what 'denC' says.
-/
namespace Go.DN
open Go.AM
section
variable {S:eB}{P:Program}{N:Nat}{cx:Cx}{fu:Nat}{H:List (Nat×mn)}{cl:Cl S}
structure zL (P:Program) (N:Nat) (cl:Cl S):Prop where
 call:∀(ok:Nat→Bool) (W:List Nat),(∀h,ok h=true→W.contains h=true)→∀(A:Type) (kp:List PanicEntry→ah S→Option A) (r:A),ze P N W (cl.call ok A kp) kp r
 cq:∀(ok:Nat→Bool) (A:Type) (kp:List PanicEntry→ah S→Option A) (r:A),OD P N (cl.call ok A kp) r
 rf:∀(cx:Cx),cx.ro=none→∀(key hd:Nat) (g:Operand),(S.eS key).N=N→∀(s:ah S) (B:Type) (K:Exit→ah S→Option B) (r:B),aY s→cl.rf key hd s g B K=some r→∀Q:Exit→St→Prop,(∀e t,aY t→bz s t→K e t=some r→Q e t.er)→
  GW P N cx (.rangeFunc g (S.eS key).ps (S.eS key).lh (S.eS key).body) Q s.er
theorem wq:∀h,Nat.blt h 1100=true→(List.range 1100).contains h=true:=fun h hh=>fI.2 (List.mem_range.2 (by simpa[fS] using hh))
theorem IS (W:List Nat):∀h,br h W=true→W.contains h=true:=fun h hh=>fI.2 (bO.1 hh)
theorem Gh.lift {c:Code}{Q:Exit→St→Prop}{s:St}(h:GW P N cx c (fun e s'=>∃t,Gh s' t∧Q e t) s):GW P N cx c Q s:=
 GW.BU h fun e s' hq=>hq
theorem Bo:∀{l:List Oper}{d:Nat},d∈l.filterMap (·.dst)→d∈oO l
 | [],d,h=>by cases h
 | o::r,d,h=>by
  simp only[oO]
  cases ho:o.dst with
  | none=>
   rw[List.filterMap_cons_none ho] at h
   exact Bo h
  | some x=>
   rw[List.filterMap_cons_some ho] at h
   rcases aX.1 h with e | h
   ·subst e;exact av
   ·exact ao _ (Bo h)
theorem B7 {ds:List Nat}:∀{l:List (Nat×TV S)}{d:Nat},vv ds l=true→d∈ds→bc l d=none
 | [],_,_,_=>rfl
 | (k,v)::r,d,h,hm=>by
  simp only[vv,ai,a6] at h
  simp only[bc]
  cases hb:Nat.beq k d with
  | true=>
   have:=aa hb
   subst this
   rw[bO.2 hm] at h;cases h.1
  | false=>exact B7 h.2 hm
theorem yC {ln:Nat→Nat}:∀{fr:List (Nat×TV S)}{t:Nat},bc fr t=none→get (fZ ln fr) t=none
 | [],_,_=>rfl
 | (k,g)::r,t,h=>by
  simp only[bc] at h
  simp only[fZ,AM.get]
  cases hk:Nat.beq k t with
  | true=>rw[hk] at h;cases h
  | false=>rw[hk] at h;exact yC h
theorem KC (ds:List Nat) (s:ah S) (hn:vv ds s.lo=true) (d:Nat):bc (forget ds s).bW d=if br d ds=true then none else bc s.bW d:=by
 show bc (cc ds s.fr++s.lo) d=if br d ds=true then none else bc (s.fr++s.lo) d
 rw[jV,jV,jI]
 cases h:br d ds with
 | true=>rw[B7 hn (bO.1 h)];rfl
 | false=>rfl
theorem Gh.Sx {s t:St}(h1:∀d g,get t.fr d=some g→get s.fr d=some g) (h2:t.st=s.st) (h3:t.df=s.df):Gh s t:=by
 obtain⟨fr,st,df⟩:=s
 obtain⟨fr',st',df'⟩:=t
 dsimp only at h1 h2 h3
 subst h2;subst h3
 exact fun N cx μ a w hr=>⟨μ,{st:=hr.st,nd:=hr.nd,sz:=hr.sz,fr:=fun d g hg=>hr.fr d g (h1 d g hg)},Gh.same fun h k b m h4 h5=>⟨k,h4,h5⟩⟩
theorem Ae {ln:Nat→Nat}(fr:List (Nat×TV S)) (t:Nat):get (fZ ln fr) t=(bc fr t).map (TV.er ln):=by
 cases h:bc fr t with
 | none=>exact yC h
 | some v=>exact eZ h
theorem Mq {ops:Array Oper}{s:ah S}(hn:vv (oO ops.toList) s.lo=true):Gh s.er (forget (oO ops.toList) s).er∧∀d,d∈qI ops→get (forget (oO ops.toList) s).er.fr d=none:=by
 have key:∀d,get (forget (oO ops.toList) s).er.fr d=if br d (oO ops.toList)=true then none else get s.er.fr d:=by
  intro d
  show get (fZ s.ln (forget (oO ops.toList) s).bW) d=if br d (oO ops.toList)=true then none else get (fZ s.ln s.bW) d
  rw[Ae,Ae,KC _ _ hn]
  split <;> rfl
 refine⟨Gh.Sx (fun d g hg=>?_) rfl rfl,fun d hd=>?_⟩
 ·rw[key] at hg
  split at hg
  ·cases hg
  ·exact hg
 ·rw[key,if_pos (bO.2 (Bo hd))]
theorem yf (hm:P.follows .mixedOrders=true) (hcl:zL P N cl) (id:Nat) (ops:Array Oper) (draw:Bool) (W:Option (List Nat)):H9 P N cx (.region id ops draw) (fun s B K=>match draw with
  | true=>match W with
   | some W=>uM P N (fun h=>br h W) W ops (cl.call (fun h=>br h W) B (zY ops K)) s (K .normal)
   | none=>uM P N (fun h=>Nat.blt h 1100) (List.range 1100) ops (cl.call (fun h=>Nat.blt h 1100) B (zY ops K)) s (K .normal)
  | false=>pp P N (fun h=>Nat.blt h 1100) ops.toList (cl.call (fun h=>Nat.blt h 1100) B fun ch=>K (.panic ch)) ops.toList s (K .normal)):=by
 intro s B K r hl h Q hQ
 have hp:∀ch (t:ah S),aY t→bz s t→zY ops K ch t=some r→∃u,Gh t.er u∧Q (.panic ch) u∧∀d,d∈qI ops→get u.fr d=none:=by
  intro ch t a b c
  unfold zY at c
  split at c
  ·rename_i hn
   obtain⟨f1,f2⟩:=Mq hn
   exact⟨_,f1,hQ (.panic ch) _ (gE rfl) ⟨b.lo,b.bL,b.df⟩ c,f2⟩
  ·cases c
 cases draw with
 | true=>
  cases W with
  | some W=>exact HE hm (IS W) (hcl.call _ _ (IS W) B (zY ops K) r) hl h (fun t a b c=>hQ .normal t a b c) hp
  | none=>exact HE hm wq (hcl.call _ _ wq B (zY ops K) r) hl h (fun t a b c=>hQ .normal t a b c) hp
 | false=>
  have:ops=ops.toList.toArray:=by simp
  rw[this]
  exact GW.region (oV wq (hcl.call _ _ wq B _ r) (hcl.cq _ B _ r) hl h (fun t a b c=>hQ .normal t a b c) fun ch t a b c=>⟨_,Gh.refl _,hQ (.panic ch) t a b c⟩)
theorem wR:∀e,lM e=true→zA e=false:=fun e h=>by cases e <;> first | rfl | cases h
theorem I0 (id:Nat):∀e,wS id e=true→zA e=false:=fun e h=>by cases e <;> first | rfl | cases h
theorem zX {c:Code}{Q:Exit→St→Prop}{s:St}(h:GW P N cx c (fun e s'=>lM e=true∧∃t,Gh s' t∧Q .normal t) s):GW P N cx c Q s:=
 Gh.lift (h.mono fun e s' ⟨h1,t,h2,h3⟩=>by
  cases e with
  | normal=>exact⟨t,h2,h3⟩
  | _=>cases h1)
theorem GO {c:Code}{Q:Exit→St→Prop}{s:St}(h:GW P N cx c (fun e s'=>(lM e=true∧∃t,Gh s' t∧Q .normal t)∨(lM e=false∧∃t,Gh s' t∧Q e t)) s):GW P N cx c Q s:=
 Gh.lift (h.mono fun e s' hq=>by
  rcases hq with ⟨h1,t,h2,h3⟩ | ⟨h0,t,h2,h3⟩
  ·cases e with
   | normal=>exact⟨t,h2,h3⟩
   | _=>cases h1
  ·exact⟨t,h2,h3⟩)
theorem Nu {id:Nat}{c:Code}{Q:Exit→St→Prop}{s:St}(h:GW P N cx c (fun e s'=>wS id e=true∧∃t,Gh s' t∧Q .normal t) s):GW P N cx (.block id c) Q s:=
 GW.block (Gh.lift (h.mono fun e s' ⟨h1,t,h2,h3⟩=>by
  refine⟨t,h2,?_⟩
  cases e with
  | normal=>exact h3
  | exit id'=>
   have:=aa h1
   subst this
   simp only[vX,if_true]
   exact h3
  | _=>cases h1))
theorem L2 {id:Nat}{c:Code}{Q:Exit→St→Prop}{s:St}(h:GW P N cx c (fun e s'=>(wS id e=true∧∃t,Gh s' t∧Q .normal t)∨(wS id e=false∧∃t,Gh s' t∧Q e t)) s):GW P N cx (.block id c) Q s:=
 GW.block (Gh.lift (h.mono fun e s' hq=>by
  rcases hq with ⟨h1,t,h2,h3⟩ | ⟨h0,t,h2,h3⟩
  ·refine⟨t,h2,?_⟩
   cases e with
   | normal=>exact h3
   | exit id'=>
    have:=aa h1
    subst this
    simp only[vX,if_true]
    exact h3
   | _=>cases h1
  ·refine⟨t,h2,?_⟩
   cases e with
   | normal=>exact h3
   | exit id'=>
    simp only[wS] at h0
    simp only[vX]
    rw[if_neg (fun e=>by subst e;rw[aG] at h0;cases h0)]
    exact h3
   | _=>exact h3))
theorem QK {a b:List (Nat×Array Tmp×Code×Code)}(h:a++b=[]∨cx.ro=none):a=[]∨cx.ro=none:=h.imp (fun h=>(List.append_eq_nil_iff.1 h).1) id
theorem QJ {a b:List (Nat×Array Tmp×Code×Code)}(h:a++b=[]∨cx.ro=none):b=[]∨cx.ro=none:=h.imp (fun h=>(List.append_eq_nil_iff.1 h).2) id
theorem jq (hm:P.follows .mixedOrders=true) (hcl:zL P N cl):∀(c:Code) (p:Nat),oz S N H (lD c p)→(lD c p=[]∨cx.ro=none)→H9 P N cx c (fun s B K=>gD P N fu H cl c p s B K)
 | .skip,p,_,_=>fun s B K r hl h Q hQ=>GW.skip (hQ _ s hl (bz.refl s) h)
 | .region id ops draw,p,_,_=>fun s B K r hl h Q hQ=>by
  simp only[gD] at h
  split at h
  ·rename_i W j _
   refine zX (AS wR (run:=fun s B K=>match draw with
    | true=>uM P N (fun h=>br h W) W ops (cl.call (fun h=>br h W) B (zY ops K)) s (K .normal)
    | false=>pp P N (fun h=>Nat.blt h 1100) ops.toList (cl.call (fun h=>Nat.blt h 1100) B fun ch=>K (.panic ch)) ops.toList s (K .normal)) ?_ hl h hQ)
   intro s B K r hl h Q hQ
   refine yf hm hcl id ops draw (some W) s B K r hl ?_ Q hQ
   cases draw <;> exact h
  ·rename_i W _
   refine yf hm hcl id ops draw (some W) s B K r hl ?_ Q hQ
   cases draw <;> exact h
  ·obtain⟨s1,g1,g2,g3,h⟩:=II hl h
   refine GW.gh g1 (yf hm hcl id ops draw none s1 B K r g2 ?_ Q fun e t a b c=>hQ e t a (g3.trans b) c)
   cases draw <;> exact h
 | .seq x y,p,hr,ho=>fun s B K r hl h Q hQ=>by
  simp only[gD] at h
  obtain⟨s1,g1,g2,g3,h⟩:=II hl h
  refine GW.gh g1 (GW.seq (jq hm hcl x _ hr.gr.1 (QK ho) s1 B _ r g2 h _ fun e t hlt hk hK=>?_))
  cases e with
  | normal=>exact jq hm hcl y _ hr.gr.2 (QJ ho) t B K r hlt hK Q fun e' t' a b c=>hQ e' t' a (g3.trans (hk.trans b)) c
  | _=>exact hQ _ t hlt (g3.trans hk) hK
 | .cond o x y,p,hr,ho=>fun s B K r hl h Q hQ=>by
  simp only[gD] at h
  split at h
  ·rename_i t
   split at h
   ·rename_i f b hb
    have hg:get s.er.fr t=some (.val (.bool b)):=by rw[show get s.er.fr t=_ from eZ hb];exact congrArg some (fX f b)
    have sub:∀(s:ah S),(∀d,bc s.bW d=bc s.bW d)→True:=fun _ _=>trivial
    have hrun:H9 P N cx (.cond (.tmp t) x y) (fun s' B' K'=>match bc s'.bW t with
     | some (.af _ .bool b')=>cond b' (gD P N fu H cl x (p+1) s' B' K') (gD P N fu H cl y (p+1+jt x) s' B' K')
     | _=>none):=by
     intro s' B' K' r' hl' h' Q' hQ'
     dsimp only at h'
     split at h'
     ·rename_i f' b' hb'
      have hg':get s'.er.fr t=some (.val (.bool b')):=by rw[show get s'.er.fr t=_ from eZ hb'];exact congrArg some (fX f' b')
      refine GW.cond hg' (fun e=>?_) (fun e=>?_)
      ·subst e;exact jq hm hcl x _ hr.gr.1 (QK ho) s' B' K' r' hl' h' Q' hQ'
      ·subst e;exact jq hm hcl y _ hr.gr.2 (QJ ho) s' B' K' r' hl' h' Q' hQ'
     ·cases h'
    split at h
    ·rename_i j _
     have h2:wI s (dV s (kM x++kM y) (aE j.aZ) (aE j.aA)) j lM (fun s' B' K'=>match bc s'.bW t with
      | some (.af _ .bool b')=>cond b' (gD P N fu H cl x (p+1) s' B' K') (gD P N fu H cl y (p+1+jt x) s' B' K')
      | _=>none) K=some r:=by
      rw[←h]
      unfold wI
      split
      ·congr 1
       dsimp only
       rw[xc,hb]
      ·rfl
     exact zX (AS wR hrun hl h2 hQ)
    ·rename_i j _
     have h2:zu s (dV s (kM x++kM y) (aE j.aZ) (aE j.aA)) j lM (fun s' B' K'=>match bc s'.bW t with
      | some (.af _ .bool b')=>cond b' (gD P N fu H cl x (p+1) s' B' K') (gD P N fu H cl y (p+1+jt x) s' B' K')
      | _=>none) K=some r:=by
      rw[←h]
      unfold zu
      split
      ·congr 1
       dsimp only
       rw[xc,hb]
      ·rfl
     exact GO (GQ wR hrun hl h2 hQ)
    ·refine GW.cond hg (fun e=>?_) (fun e=>?_)
     ·subst e;exact jq hm hcl x _ hr.gr.1 (QK ho) s B K r hl h Q hQ
     ·subst e;exact jq hm hcl y _ hr.gr.2 (QJ ho) s B K r hl h Q hQ
   ·cases h
  ·cases h
 | .block id c,p,hr,ho=>fun s B K r hl h Q hQ=>by
  simp only[gD] at h
  split at h
  ·exact Nu (AS (I0 id) (jq hm hcl c _ hr ho) hl h hQ)
  ·exact L2 (GQ (I0 id) (jq hm hcl c _ hr ho) hl h hQ)
  ·refine GW.block (jq hm hcl c _ hr ho s B _ r hl h _ fun e t hlt hk hK=>?_)
   cases e with
   | exit id'=>
    dsimp only at hK
    simp only[vX]
    split at hK
    ·rename_i he
     rw[if_pos (aa he)]
     exact hQ _ t hlt hk hK
    ·rename_i he
     rw[if_neg (fun e=>by subst e;rw[aG] at he;cases he)]
     exact hQ _ t hlt hk hK
   | _=>exact hQ _ t hlt hk hK
 | .loop c,p,hr,ho=>fun s B K r hl h Q hQ=>by
  simp only[gD] at h
  split at h
  ·split at h
   ·rename_i s' hp
    obtain⟨a1,a2,a3⟩:=AH hl hp
    exact GW.gh a1 (Nx (jq hm hcl c _ hr ho) a2 h fun e t x y z=>hQ e t x (a3.trans y) z)
   ·cases h
  ·split at h
   ·rename_i s' hp
    obtain⟨a1,a2,a3⟩:=AH hl hp
    exact GW.gh a1 (Nw (jq hm hcl c _ hr ho) a2 h fun e t x y z=>hQ e t x (a3.trans y) z)
   ·cases h
  ·cases h
 | .exit id,p,_,_=>fun s B K r hl h Q hQ=>GW.exit (hQ _ s hl (bz.refl s) h)
 | .ret,p,_,_=>fun s B K r hl h Q hQ=>GW.ret (hQ _ s hl (bz.refl s) h)
 | .rangeFunc g ps a b,p,hr,ho=>fun s B K r hl h Q hQ=>by
  simp only[gD] at h
  split at h
  ·rename_i key hd hh
   have h1:=hr.1
   rw[hh] at h1
   obtain⟨e1,e2,e3,e4⟩:=h1
   subst e2;subst e3;subst e4
   exact hcl.rf cx (ho.resolve_left fun h=>by cases h) key hd g e1 s B K r hl h Q hQ
  ·cases h
 | .scope _,p,_,_=>fun s B K r hl h Q hQ=>by simp[gD] at h
 | .label _,p,_,_=>fun s B K r hl h Q hQ=>by simp[gD] at h
 | .goto _,p,_,_=>fun s B K r hl h Q hQ=>by simp[gD] at h
 | .refuse _,p,_,_=>fun s B K r hl h Q hQ=>by simp[gD] at h
end
end Go.DN
/-
 DN,part Sb:a lent slice under a number of the call's own.
-/
namespace Go.DN
open Go.AM
mutual
theorem LY {h h':Nat}:∀g:G,g.b7 h=false→mB h h' g=g
 | .loc x off,e=>by
  show G.loc (mv h h' x) off=_
  rw[iz fun e'=>by subst e';simp[G.b7,aG] at e]
 | .aO x sz off n,e=>by
  show G.aO (mv h h' x) sz off n=_
  rw[iz fun e'=>by subst e';simp[G.b7,aG] at e]
 | .cq x,e=>by
  show G.cq (mv h h' x)=_
  rw[iz fun e'=>by subst e';simp[G.b7,aG] at e]
 | .dR x,e=>by
  show G.dR (mv h h' x)=_
  rw[iz fun e'=>by subst e';simp[G.b7,aG] at e]
 | .ks x i sz n,e=>by
  show G.ks (mv h h' x) i sz n=_
  rw[iz fun e'=>by subst e';simp[G.b7,aG] at e]
 | .kp x i off,e=>by
  show G.kp (mv h h' x) i off=_
  rw[iz fun e'=>by subst e';simp[G.b7,aG] at e]
 | .agg gs,e=>congrArg G.agg (zr gs e)
 | .bj gs,e=>congrArg G.bj (zr gs e)
 | .aM f gs,e=>congrArg (G.aM f) (zr gs e)
 | .any,_=>rfl
 | .val _,_=>rfl
 | .sl _ _,_=>rfl
 | .ptr _,_=>rfl
 | .fr _,_=>rfl
theorem zr {h h':Nat}:∀gs:List G,G.b7.go h gs=false→mB.go h h' gs=gs
 | [],_=>rfl
 | x::r,e=>by
  simp only[G.b7.go,bD] at e
  simp only[mB.go,LY x e.1,zr r e.2]
end
section
variable {S:eB}
def yp (h h':Nat):TV S→TV S
 | .loc x o=>.loc (mv h h' x) o
 | .gF x τ i j=>.gF (mv h h' x) τ i j
 | .aO x τ=>.aO (mv h h' x) τ
 | .sub x τ o n=>.sub (mv h h' x) τ o n
 | .cq x=>.cq (mv h h' x)
 | .mp x=>.mp (mv h h' x)
 | .ks x τ i n=>.ks (mv h h' x) τ i n
 | .kp x τ i j=>.kp (mv h h' x) τ i j
 | .fA b x τ i j=>.fA b (mv h h' x) τ i j
 | .agg l=>.agg (go l)
 | .bj l=>.bj (go l)
 | .aM f l=>.aM f (go l)
 | v=>v
where go:List (TV S)→List (TV S)
 | []=>[]
 | x::r=>yp h h' x::go r
mutual
theorem LX {h h':Nat}{ln ln':Nat→Nat}(hln:∀x,x≠h'→ln' (mv h h' x)=ln x):∀v:TV S,v.has h'=false→(yp h h' v).er ln'=mB h h' (v.er ln)
 | .af f τ a,_=>(LY _ (HK h f τ a)).symm
 | .ptr f τ a,_=>by cases f <;> rfl
 | .loc _ _,_=>rfl
 | .gF _ _ _ _,_=>rfl
 | .aO x τ,e=>by
  show G.aO _ _ _ (ln' (mv h h' x))=G.aO _ _ _ (ln x)
  rw[hln x fun e'=>by subst e';simp[TV.has,aG] at e]
 | .sub _ _ _ _,_=>rfl
 | .cq _,_=>rfl
 | .mp _,_=>rfl
 | .ks _ _ _ _,_=>rfl
 | .kp _ _ _ _,_=>rfl
 | .fA b _ _ _ _,_=>by cases b <;> rfl
 | .val _,_=>rfl
 | .any,_=>rfl
 | .agg l,e=>congrArg G.agg (qB hln l e)
 | .bj l,e=>congrArg G.bj (qB hln l e)
 | .aM f l,e=>congrArg (G.aM f) (qB hln l e)
theorem qB {h h':Nat}{ln ln':Nat→Nat}(hln:∀x,x≠h'→ln' (mv h h' x)=ln x):∀l:List (TV S),TV.has.go h' l=false→TV.er.go ln' (yp.go h h' l)=mB.go h h' (TV.er.go ln l)
 | [],_=>rfl
 | x::r,e=>by
  simp only[TV.has.go,bD] at e
  simp only[yp.go,TV.er.go,mB.go,LX hln x e.1,qB hln r e.2]
end
def QP (h h':Nat):TO S→TO S
 | .box e m cs=>.box e m (yp.go h h' cs)
 | .lp l n cs=>.lp l n (yp.go h h' cs)
 | o=>o
def LZ (h h':Nat):List (Nat×TV S)→List (Nat×TV S)
 | []=>[]
 | (t,v)::r=>(t,yp h h' v)::LZ h h' r
def Eg (h h':Nat):List (Nat×TO S)→List (Nat×TO S)
 | []=>[]
 | (k,o)::r=>(mv h h' k,QP h h' o)::Eg h h' r
def ah.move (s:ah S) (h h':Nat):ah S:={fr:=LZ h h' s.bW,lo:=[],st:=Eg h h' s.bg,bL:=[],df:=yp.go h h' s.df,nx:=s.nx,last:=[]}
theorem QO {h h' x y:Nat}(hx:x≠h') (hy:y≠h'):Nat.beq (mv h h' x) (mv h h' y)=Nat.beq x y:=by
 cases hb:Nat.beq x y with
 | true=>have:=aa hb;subst this;exact aG _
 | false=>
  cases hc:Nat.beq (mv h h' x) (mv h h' y) with
  | false=>rfl
  | true=>
   have e:=aa hc
   have hne:x≠y:=fun e=>by subst e;rw[aG] at hb;cases hb
   by_cases h1:x=h
   ·subst h1
    by_cases h2:y=x
    ·exact absurd h2.symm hne
    ·rw[sP,iz h2] at e;exact absurd e.symm hy
   ·by_cases h2:y=h
    ·subst h2;rw[sP,iz h1] at e;exact absurd e hx
    ·rw[iz h1,iz h2] at e;exact absurd e hne
theorem Gz {h h':Nat}:∀{st:List (Nat×TO S)}{x:Nat},aw st h'=none→x≠h'→aw (Eg h h' st) (mv h h' x)=(aw st x).map (QP h h')
 | [],_,_,_=>rfl
 | (k,o)::r,x,hn,hx=>by
  simp only[aw] at hn
  cases hb:Nat.beq k h' with
  | true=>rw[hb] at hn;cases hn
  | false=>
   rw[hb] at hn
   have hk:k≠h':=fun e=>by subst e;rw[aG] at hb;cases hb
   simp only[Eg,aw,QO hk hx]
   cases Nat.beq k x with
   | true=>rfl
   | false=>exact Gz hn hx
theorem PE (h h':Nat) (o:TO S):(QP h h' o).len=o.len:=by cases o <;> rfl
theorem IP {s:ah S}{h h':Nat}(hf:s.free h'=true):(s.move h h').er={fr:=wF h h' s.er.fr,st:=rS h h' s.er.st,df:=mB.go h h' s.er.df}:=by
 obtain⟨f1,f2,f3,f4,_⟩:=free_spec hf
 have hln:∀x,x≠h'→(s.move h h').ln (mv h h' x)=s.ln x:=by
  intro x hx
  show bZ (Eg h h' s.bg++[]) (mv h h' x)=bZ s.bg x
  rw[b9]
  unfold bZ
  rw[Gz f1 hx]
  cases aw s.bg x with
  | none=>rfl
  | some o=>exact PE h h' o
 have e1:∀fr:List (Nat×TV S),gl h' fr=false→fZ (s.move h h').ln (LZ h h' fr)=wF h h' (fZ s.ln fr):=by
  intro fr
  induction fr with
  | nil=>intro _;rfl
  | cons x r ih=>
   obtain⟨t,v⟩:=x
   intro e
   simp only[gl,bD] at e
   simp only[LZ,fZ,wF,ih e.2,LX hln v e.1]
 have e2:∀st:List (Nat×TO S),eH h' st=false→b8 (s.move h h').ln (Eg h h' st)=rS h h' (b8 s.ln st):=by
  intro st
  induction st with
  | nil=>intro _;rfl
  | cons x r ih=>
   obtain⟨t,o⟩:=x
   intro e
   simp only[eH,bD] at e
   simp only[Eg,b8,rS,ih e.2]
   congr 2
   cases o with
   | aT e m f τ l=>rfl
   | deep e m f dk τ a=>rfl
   | box e' m cs=>
    show ap.mk _ _ _ _ _ (TV.er.go _ (yp.go h h' cs)) _=ap.mk _ _ _ _ _ (mB.go h h' (TV.er.go s.ln cs)) _
    rw[qB hln cs e.1];rfl
   | lp l n cs=>
    show ap.mk _ _ _ _ _ (TV.er.go _ (yp.go h h' cs)) _=ap.mk _ _ _ _ _ (mB.go h h' (TV.er.go s.ln cs)) _
    rw[qB hln cs e.1];rfl
 show St.mk (fZ _ (LZ h h' s.bW++[])) (b8 _ (Eg h h' s.bg++[])) (TV.er.go _ (yp.go h h' s.df))=_
 rw[b9,b9,e1 _ f2,e2 _ f3,qB hln s.df f4]
 rfl
def Ca:List Nat→ah S→Option (ah S)
 | [],s=>some s
 | r::rs,s=>match s.free (r-520)&&!(Nat.beq (r-520) r) with
  | true=>Ca rs (s.move r (r-520))
  | false=>none
theorem AQ {P:Program}{N:Nat}{cx:Cx}{c:Code}{Q:Exit→St→Prop}:∀{l:List Nat}{s t:ah S},aY s→Ca l s=some t→(aY t→GW P N cx c Q t.er)→GW P N cx c Q s.er
 | [],s,t,hl,h,hk=>by cases h;exact hk hl
 | r::rs,s,t,hl,h,hk=>by
  simp only[Ca] at h
  split at h
  ·rename_i hc
   simp only[ai,a6] at hc
   refine GW.move r (r-520) (gk hc.1) hc.2 ?_
   rw[←IP hc.1]
   exact AQ (gE rfl) h hk
  ·cases h
end
end Go.DN
/-
 DN,part T:functions:what they hand back;contracts;calls that lend nothing.
-/
namespace Go.DN
open Go.AM
section
variable {S:eB}
def isNil {α:Type}:List α→Bool
 | []=>true
 | _=>false
def E2 (P:Program) (t:ah S):ResultVar→Option (TV S)
 | .tmp d=>bc t.bW d
 | .cell c ty=>match bc t.bW c with
  | some (.loc h 0)=>match aw t.bg h with
   | some (.box _ _ vs)=>match DM P ty with
    | some true=>match decEq (kq P ty) (some vs.length) with
     | isTrue _=>some (.agg vs)
     | isFalse _=>none
    | some false=>match vs with
     | [v]=>some v
     | _=>none
    | none=>none
   | _=>none
  | _=>none
def QG (D DO:List Nat) (t:ah S):ResultVar→Bool
 | .tmp d=>!(br d D)
 | .cell c _=>!(br c D)&&match bc t.bW c with
  | some (.loc h _)=>!(br h DO)
  | _=>false
def OM (P:Program) (t:ah S):List ResultVar→List (Nat×Sh)→List Nat
 | rv::r,(_,sh)::l=>(match E2 P t rv with | some v=>J4 sh v | none=>[])++OM P t r l
 | _,_=>[]
def E4 (P:Program) (D DO:List Nat) (t:ah S):List ResultVar→List (Nat×Sh)→Option (List (bo S.α))
 | [],[]=>some []
 | rv::r,(_,sh)::l=>match QG D DO t rv with
  | true=>match E2 P t rv with
   | some v=>match kH sh v with
    | some xs=>match E4 P D DO t r l with
     | some ys=>some (xs++ys)
     | none=>none
    | none=>none
   | none=>none
  | false=>none
 | _,_=>none
def P7:Sh→List Sh
 | .agg l=>l
 | x=>[x]
def sT (aZ:List (Nat×Oh)):List ResultVar→List (Nat×Sh)→ah S→Option (ah S)
 | .cell c _::r,(_,sh)::l,s=>match bc s.bW c with
  | some (.loc h 0)=>match nN aZ h 0 (P7 sh) s with
   | some s'=>sT aZ r l s'
   | none=>none
  | _=>sT aZ r l s
 | .tmp _::r,_::l,s=>sT aZ r l s
 | _,_,s=>some s
theorem sJ {aZ:List (Nat×Oh)}:∀{rvs:List ResultVar}{l:List (Nat×Sh)}{s t:ah S},aY s→sT aZ rvs l s=some t→Gh s.er t.er∧aY t∧bz s t
 | .cell c _::r,(_,sh)::l,s,t,hl,h=>by
  simp only[sT] at h
  split at h
  ·split at h
   ·rename_i s' hs
    obtain⟨a1,a2,a3⟩:=eN hl hs
    obtain⟨b1,b2,b3⟩:=sJ (rvs:=r) a2 h
    exact⟨a1.trans b1,b2,a3.trans b3⟩
   ·cases h
  ·exact sJ (rvs:=r) hl h
 | .tmp _::r,_::l,s,t,hl,h=>sJ (rvs:=r) (l:=l) hl h
 | [],_,s,t,hl,h=>by cases h;exact⟨Gh.refl _,hl,bz.refl s⟩
 | .cell _ _::_,[],s,t,hl,h=>by cases h;exact⟨Gh.refl _,hl,bz.refl s⟩
 | .tmp _::_,[],s,t,hl,h=>by cases h;exact⟨Gh.refl _,hl,bz.refl s⟩
def H6 (rvs:List ResultVar) (aA:List (Nat×Sh)) (aZ:List (Nat×Oh)) (s:ah S):Option (ah S):=match sT aZ rvs aA s with
 | some s'=>CK aA aZ s'
 | none=>none
theorem MS {rvs:List ResultVar}{aA:List (Nat×Sh)}{aZ:List (Nat×Oh)}{s t:ah S}(hl:aY s) (h:H6 rvs aA aZ s=some t):Gh s.er t.er∧aY t∧bz s t:=by
 unfold H6 at h
 split at h
 ·rename_i s' hs
  obtain⟨a1,a2,a3⟩:=sJ hl hs
  obtain⟨b1,b2,b3⟩:=EN a2 h
  exact⟨a1.trans b1,b2,a3.trans b3⟩
 ·cases h
def DD (P:Program) (t:ah S) (rvs:List ResultVar) (aA:List (Nat×Sh)) (outs:List (Nat×Oh)):Option (bj S.α (JH.dg ⟨aA,outs⟩)):=
 match H6 rvs aA outs t with
 | some t1=>match pM (OM P t1 rvs aA++B8 t1.bg outs) t1 with
  | some t2=>match isNil t2.df&&within (mL aA++oZ outs) (aE outs) with
   | true=>match E4 P (qS (aE outs) t2.bW) (aE outs++qR (aE outs) t2.bg) t2 rvs aA with
    | some xs=>match wx t2.bg outs with
     | some ys=>ly (JH.dg ⟨aA,outs⟩) (xs++ys)
     | none=>none
    | none=>none
   | false=>none
  | none=>none
 | none=>none
theorem uZ.rw {P:Program}{s:St}{rv:ResultVar}{g g':G}(h:uZ P s rv g) (hw:RW g g'):uZ P s rv g':=fun N cx μ a w hr=>by
 obtain⟨v,h1,h2⟩:=h N cx μ a w hr
 exact⟨v,hw _ _ _ _ _ h1,h2⟩
theorem Dg {ks:List Nat}:∀{fr:List (Nat×TV S)}{d:Nat}{v:TV S},bc fr d=some v→br d (qS ks fr)=false→v.bad ks=false
 | [],_,_,h,_=>by cases h
 | (t,w)::r,d,v,h,hm=>by
  simp only[bc] at h
  simp only[qS] at hm
  cases hb:Nat.beq t d with
  | true=>
   rw[hb] at h;cases h
   have e:=aa hb
   subst e
   cases hv:w.bad ks with
   | false=>rfl
   | true=>rw[hv] at hm;rw[bO.2 av] at hm;cases hm
  | false=>
   rw[hb] at h
   refine Dg h ?_
   cases hw:w.bad ks with
   | false=>rw[hw] at hm;exact hm
   | true=>
    rw[hw] at hm
    cases hx:br d (qS ks r) with
    | false=>rfl
    | true=>rw[bO.2 (ao _ (bO.1 hx))] at hm;cases hm
theorem Df {ks:List Nat}:∀{st:List (Nat×TO S)}{d:Nat}{o:TO S},aw st d=some o→br d (qR ks st)=false→o.bad ks=false
 | [],_,_,h,_=>by cases h
 | (t,w)::r,d,v,h,hm=>by
  simp only[aw] at h
  simp only[qR] at hm
  cases hb:Nat.beq t d with
  | true=>
   rw[hb] at h;cases h
   have e:=aa hb
   subst e
   cases hv:w.bad ks with
   | false=>rfl
   | true=>rw[hv] at hm;rw[bO.2 av] at hm;cases hm
  | false=>
   rw[hb] at h
   refine Df h ?_
   cases hw:w.bad ks with
   | false=>rw[hw] at hm;exact hm
   | true=>
    rw[hw] at hm
    cases hx:br d (qR ks r) with
    | false=>rfl
    | true=>rw[bO.2 (ao _ (bO.1 hx))] at hm;cases hm
theorem GN {x:Nat}{a b:List Nat}(h:br x (a++b)=false):br x a=false∧br x b=false:=by
 constructor
 ·cases h1:br x a with
  | false=>rfl
  | true=>rw[bO.2 (bS _ (bO.1 h1))] at h;cases h
 ·cases h1:br x b with
  | false=>rfl
  | true=>rw[bO.2 (cC _ (bO.1 h1))] at h;cases h
theorem Gp {P:Program}{D DO:List Nat}{t u:ah S}(hu:∀d v,br d D=false→bc t.bW d=some v→AM.get u.er.fr d=some (v.er t.ln)) (ho:∀h e m cs,br h DO=false→aw t.bg h=some (.box e m cs)→aq u.er.st h=some ((TO.box e m cs).er t.ln)):
  ∀{rvs:List ResultVar}{aA:List (Nat×Sh)}{xs:List (bo S.α)},E4 P D DO t rvs aA=some xs→∀(r:List (bo S.α)),(cu aA (xs++r)).2=r∧zc P u.er rvs (((cu aA (xs++r)).1.map (·.2)).map (TV.er t.ln))
 | [],[],xs,h,r=>by cases h;exact⟨rfl,trivial⟩
 | rv::rvs,(d,sh)::l,xs,h,r=>by
  simp only[E4] at h
  split at h
  ·rename_i hok
   split at h
   ·rename_i v hv
    split at h
    ·rename_i xs1 hx
     split at h
     ·rename_i ys hy
      cases h
      obtain⟨i1,i2⟩:=Gp hu ho hy r
      obtain⟨p1,p2⟩:=AJ t.ln hx (ys++r)
      rw[aC]
      simp only[cu]
      rw[p1]
      refine⟨i1,uZ.rw ?_ p2,i2⟩
      cases rv with
      | tmp d'=>
       simp only[QG,a6] at hok
       exact uZ.tmp (hu d' v hok hv)
      | cell c ty=>
       simp only[QG,ai,a6] at hok
       simp only[E2] at hv
       split at hv
       ·rename_i h' hc
        rw[hc] at hok
        have hc':AM.get u.er.fr c=some (.loc h' 0):=hu c _ hok.1 hc
        split at hv
        ·rename_i e m vs hb
         have hb':=ho h' e m vs (by simpa using hok.2) hb
         split at hv
         ·rename_i ha
          split at hv
          ·rename_i hs _
           cases hv
           have hl:(TV.er.go t.ln vs).length=vs.length:=by rw[cR,a5]
           have:=uZ.P8 (P:=P) (t:=ty) hc' hb' rfl (gJ ha) (dw hs) (by show 0+vs.length≤(TV.er.go t.ln vs).length;omega)
           have e3:(((TO.box e m vs:TO S).er t.ln).cells.drop 0).take vs.length=TV.er.go t.ln vs:=by
            show((TV.er.go t.ln vs).drop 0).take vs.length=_
            rw[eD,b6 (by omega)]
           rw[e3] at this
           exact this
          ·cases hv
         ·rename_i ha
          split at hv
          ·cases hv
           exact uZ.cell (P:=P) (t:=ty) hc' hb' rfl (gJ ha) (by cases hq:v.er t.ln <;> simp[ap.out,TO.er,hq])
          ·cases hv
         ·cases hv
        ·cases hv
       ·cases hv
     ·cases h
    ·cases h
   ·cases h
  ·cases h
 | [],_::_,_,h,_=>by cases h
 | _::_,[],_,h,_=>by cases h
theorem Al (ks:List Nat):∀(l:List (Nat×Sh)) (ls:List (bo S.α)),(∀k,k∈mL l→k∈ks)→∀d v,(d,v)∈(cu l ls).1→v.bad ks=false
 | [],ls,_,d,v,h=>by cases h
 | (d0,sh)::r,ls,hk,d,v,h=>by
  simp only[cu] at h
  rcases aX.1 h with e | h
  ·cases e;exact w5 ks sh ls fun k hk'=>hk k (bS _ hk')
  ·exact Al ks r _ (fun k hk'=>hk k (cC _ hk')) d v h
theorem Jf {P:Program}{t:ah S}{rvs:List ResultVar}{aA:List (Nat×Sh)}{outs:List (Nat×Oh)}{q:bj S.α (JH.dg ⟨aA,outs⟩)}(hl:aY t) (h:DD P t rvs aA outs=some q):
  ∃u:ah S,Gh t.er u.er∧u.er.df=[]∧zc P u.er rvs (((cu aA (leaves _ q)).1.map (·.2)).map (TV.er (bZ (ca outs (cu aA (leaves _ q)).2).1)))∧
   ∃O',u.bg=(ca outs (cu aA (leaves _ q)).2).1++O'∧(∀k,k∈aE outs→u.ln k=bZ (ca outs (cu aA (leaves _ q)).2).1 k)∧∀k,k∈oZ outs→k∈aE outs:=by
 unfold DD at h
 split at h
 ·rename_i t1 hp1
  obtain⟨a1,a2,a3⟩:=MS hl hp1
  split at h
  ·rename_i t2 hp2
   obtain⟨b1,b2,b3⟩:=lO a2 hp2
   split at h
   ·rename_i hc
    simp only[ai] at hc
    obtain⟨c1,c2⟩:=hc
    have c2:=l7 c2
    split at h
    ·rename_i xs hx
     split at h
     ·rename_i ys hy
      have hq:=fW h
      have hdf:t2.df=[]:=by
       cases hd:t2.df with
       | nil=>rfl
       | cons x r=>rw[hd] at c1;cases c1
      let O':=cc (aE outs++qR (aE outs) t2.bg) t2.bg
      let F':=cc (qS (aE outs) t2.bW) t2.bW
      let u:ah S:={fr:=F',lo:=[],st:=(ca outs ys).1++O',bL:=[],df:=[],nx:=0,last:=[]}
      have eu:u.bg=(ca outs ys).1++O':=b9 _
      have ef:u.bW=F':=b9 _
      have hks:∀k,k∈aE outs→t2.ln k=u.ln k∧u.ln k=bZ (ca outs ys).1 k:=by
       intro k hk
       obtain⟨o,o',e1,e2,e3⟩:=yj hy k hk
       have e4:u.ln k=bZ (ca outs ys).1 k:=by
        show bZ u.bg k=_
        rw[eu];unfold bZ;rw[db,e1]
       refine⟨?_,e4⟩
       rw[e4]
       show bZ t2.bg k=_
       unfold bZ;rw[e1,e2];exact e3.symm
      have hg:Gh t2.er u.er:=told (aA:=[]) (xs:=[]) (ks:=aE outs) (O':=O') (F':=F') rfl hy ef eu
       (fun d v hv=>by
        have hv:bc (cc (qS (aE outs) t2.bW) t2.bW) d=some v:=hv
        rw[jI] at hv
        split at hv
        ·cases hv
        ·rename_i hm;exact⟨hv,Dg hv hm⟩)
       (fun d o ho=>by
        have ho:aw (cc (aE outs++qR (aE outs) t2.bg) t2.bg) d=some o:=ho
        rw[iX] at ho
        split at ho
        ·cases ho
        ·rename_i hm;exact⟨ho,Df ho (GN hm).2⟩)
       (fun k hk=>(hks k hk).1) (fun k hk=>by cases hk) (fun k hk=>c2 k (cC _ hk)) hdf.symm (by rw[hdf];rfl)
      obtain⟨r1,r2⟩:=Gp (P:=P) (u:=u) (t:=t2) (fun d v hm hv=>by
        have e:bc u.bW d=some v:=by rw[ef];show bc (cc _ t2.bW) d=_;rw[jI,hm];exact hv
        rw[show AM.get u.er.fr d=_ from eZ e]
        rw[lg (fun k hk=>(hks k hk).1) v (Dg hv hm)])
       (fun k e m cs hm ho=>by
        obtain⟨m1,m2⟩:=GN hm
        have hout:aw (ca outs ys).1 k=none:=by
         cases hh:aw (ca outs ys).1 k with
         | none=>rfl
         | some o=>
          have:k∈aE (ca outs ys).1:=rE hh
          rw[jK] at this
          rw[bO.2 this] at m1;cases m1
        have e2:aw u.bg k=some (.box e m cs):=by
         rw[eu,db,hout]
         show aw (cc _ t2.bg) k=_
         rw[iX,hm];exact ho
        rw[show aq u.er.st k=_ from fJ e2]
        exact congrArg some (TO.lg (fun k hk=>(hks k hk).1) _ (Df ho m2)).symm) hx ys
      refine⟨u,a1.trans (b1.trans hg),rfl,?_,O',?_,?_⟩
      ·rw[hq,r1]
       have:∀(l:List (Nat×TV S)),(∀d v,(d,v)∈l→v.bad (aE outs)=false)→(l.map (·.2)).map (TV.er (bZ (ca outs ys).1))=(l.map (·.2)).map (TV.er t2.ln):=by
        intro l hl
        induction l with
        | nil=>rfl
        | cons x r ih=>
         simp only[aH]
         rw[ih fun d v hm=>hl d v (ao _ hm),lg (fun k hk=>((hks k hk).1.trans (hks k hk).2).symm) x.2 (hl x.1 x.2 av)]
       rw[this _ (Al (aE outs) aA _ fun k hk=>c2 k (bS _ hk))]
       exact r2
      ·rw[hq,r1];exact eu
      ·rw[hq,r1];exact⟨fun k hk=>(hks k hk).2,fun k hk=>c2 k (cC _ hk)⟩
     ·cases h
    ·cases h
   ·cases h
  ·cases h
 ·cases h
def mb {α:Type}:List α→Nat→List (Nat×α)
 | [],_=>[]
 | x::r,j=>(j,x)::mb r (j+1)
def eU (args:List Sh) (aZ:List Oh) (ls:List (bo S.α)):ah S:={fr:=mb (cW args ls).1 0,lo:=[],st:=(ca (mb aZ 1000) (cW args ls).2).1,bL:=[],df:=[],nx:=300,last:=[]}
def j7 (args:List Sh) (aZ:List Oh):List Ty:=wj args++B6 (mb aZ 1000)
theorem Cr (ln:Nat→Nat):∀(args:List (TV S)) (j:Nat),fZ ln (mb args j)=nF (TV.er.go ln args) j
 | [],_=>rfl
 | x::r,j=>by simp only[mb,fZ,TV.er.go,nF,Cr ln r (j+1)]
def lE (aA:List (Nat×Sh)) (ls:List (bo S.α)):TV S:=match (cu aA ls).1 with
 | [(_,v)]=>v
 | l=>.bj (l.map (·.2))
def rQ (P:Program):List ResultVar→List (Nat×Sh)→ah S→ah S
 | rv::r,(_,.own h _)::l,s=>match E2 P s rv with
  | some (.aO h' _)=>match Nat.beq h h' with
   | true=>rQ P r l s
   | false=>match (rc s h).free h with
    | true=>rQ P r l ((rc s h).move h' h)
    | false=>rQ P r l s
  | _=>rQ P r l s
 | _::r,_::l,s=>rQ P r l s
 | _,_,s=>s
def Gw (s t:St):Prop:=∀(N:Nat) (cx:Cx) (μ:Mu) (a:Act) (w:World),Rel N cx μ s a w→∃μ',Rel N cx μ' t a w
theorem Gh.w {s t:St}(h:Gh s t):Gw s t:=fun N cx μ a w hr=>let ⟨μ',h1,_⟩:=h N cx μ a w hr;⟨μ',h1⟩
theorem Gw.trans {a b c:St}(h:Gw a b) (h':Gw b c):Gw a c:=fun N cx μ ac w hr=>let ⟨μ1,h1⟩:=h N cx μ ac w hr;h' N cx μ1 ac w h1
theorem gI {P:Program}:∀{rvs:List ResultVar}{l:List (Nat×Sh)}{s:ah S},aY s→Gw s.er (rQ P rvs l s).er∧aY (rQ P rvs l s)
 | rv::r,(_,.own h _)::l,s,hl=>by
  simp only[rQ]
  split
  ·rename_i h' _ _
   cases hb:Nat.beq h h' with
   | true=>exact gI hl
   | false=>
    dsimp only
    split
    ·rename_i hf
     obtain⟨a1,a2,_⟩:=Hq h hl
     obtain⟨b1,b2⟩:=gI (P:=P) (rvs:=r) (l:=l) (s:=(rc s h).move h' h) (gE rfl)
     refine⟨a1.w.trans (Gw.trans (fun N cx μ a w hr=>?_) b1),b2⟩
     rw[IP hf]
     exact⟨_,hr.move h' h (gk hf) hb⟩
    ·exact gI hl
  ·exact gI hl
 | [],_,s,hl=>by simp only[rQ];exact⟨(Gh.refl _).w,hl⟩
 | _::_,[],s,hl=>by simp only[rQ];exact⟨(Gh.refl _).w,hl⟩
 | _::r,(_,.af _ _)::l,s,hl=>gI (rvs:=r) (l:=l) hl
 | _::r,(_,.ptr _ _)::l,s,hl=>gI (rvs:=r) (l:=l) hl
 | _::r,(_,.loc _ _)::l,s,hl=>gI (rvs:=r) (l:=l) hl
 | _::r,(_,.aM _ _)::l,s,hl=>gI (rvs:=r) (l:=l) hl
 | _::r,(_,.agg _)::l,s,hl=>gI (rvs:=r) (l:=l) hl
 | _::r,(_,.cq _)::l,s,hl=>gI (rvs:=r) (l:=l) hl
 | _::r,(_,.mp _)::l,s,hl=>gI (rvs:=r) (l:=l) hl
 | _::r,(_,.fA _ _)::l,s,hl=>gI (rvs:=r) (l:=l) hl
 | _::r,(_,.ks _ _)::l,s,hl=>gI (rvs:=r) (l:=l) hl
 | _::r,(_,.any)::l,s,hl=>gI (rvs:=r) (l:=l) hl
 | _::r,(_,.lR)::l,s,hl=>gI (rvs:=r) (l:=l) hl
 | _::r,(_,.sub _ _)::l,s,hl=>gI (rvs:=r) (l:=l) hl
theorem GW.Pp {P:Program}{N:Nat}{cx:Cx}{c:Code}{Q Q':Exit→St→Prop}{s:St}(h:GW P N cx c Q' s) (hq:∀e s,Q' e s→∃t,Gw s t∧Q e t):GW P N cx c Q s:=fun μ a w hr=>
 wpIn_mono (h μ a w hr) fun e a' w' hl=>by
  cases e with
  | outgrown=>exact hl.elim
  | _=>
   obtain⟨μ',s',hr',h4⟩:=hl
   obtain⟨t,h5,h6⟩:=hq _ _ h4
   obtain⟨μ2,h7⟩:=h5 N cx μ' a' w' hr'
   exact⟨μ2,t,h7,h6⟩
noncomputable def HG (P:Program) (N fu:Nat) (H:List (Nat×mn)) (cl:Cl S) (c:Code) (mvs:List Nat) (rvs:List ResultVar) (args:List Sh) (aZ:List Oh) (aA:List (Nat×Sh)) (outs:List (Nat×Oh)) (q:bj S.α (j7 args aZ)):Option (bj S.α (JH.dg ⟨aA,outs⟩)):=
 match Ca mvs (eU args aZ (leaves _ q)) with
 | some s=>gD P N fu H cl c 0 s _ fun e t=>match e with
  | .ret=>DD P (rQ P rvs aA t) rvs aA outs
  | .normal=>DD P (rQ P rvs aA t) rvs aA outs
  | _=>none
 | none=>none
theorem I4 (st st':List (Nat×ap)) (f:Bool){τ:Ty}(h:τ.fL=false) (a:S.D τ):iT st st' (dq f (dy S τ a))=some (dq f (dy S τ a)):=by
 cases τ with
 | st n=>cases h
 | _=>cases f <;> rfl
theorem Q1 (st st':List (Nat×ap)) (f:Bool) (τ:Ty) (a:S.D τ):iT st st' (nf f τ a)=some (nf f τ a):=by
 cases τ with
 | st n=>
  show(iT.go st st' ((aK S (.st n) a).map (dq f))).map G.agg=_
  have:iT.go st st' ((aK S (.st n) a).map (dq f))=some ((aK S (.st n) a).map (dq f)):=by
   rw[gq]
   have h:=jP n a
   generalize S.cells n a=l at h
   induction l with
   | nil=>rfl
   | cons x r ih=>
    simp only[aH,iT.go]
    rw[I4 st st' f (h x av) x.a,ih fun y hy=>h y (ao _ hy)]
  rw[this];rfl
 | _=>exact I4 st st' f rfl a
theorem Ax {ln:Nat→Nat}{st:List (Nat×ap)}:∀{l:List (Nat×TO S)},(∀j o,(j,o)∈l→aq st j=some (o.er ln))→kj st (b8 ln l)
 | [],_=>trivial
 | (j,o)::r,h=>⟨h j o av,Ax fun j o hm=>h j o (ao _ hm)⟩
def TV.still (ks:List Nat):TV S→Bool
 | .af _ _ _=>true
 | .ptr _ _ _=>true
 | .loc h _=>br h ks
 | .aO h _=>br h ks
 | .sub h _ _ _=>br h ks
 | .agg l=>go ks l
 | .bj l=>go ks l
 | .aM _ l=>go ks l
 | .val (.slice none 0 0)=>false
 | .val _=>true
 | .any=>true
 | .fA _ h _ _ _=>br h ks
 | .ks h _ _ _=>br h ks
 | .mp h=>br h ks
 | _=>false
where go (ks:List Nat):List (TV S)→Bool
 | []=>true
 | x::r=>x.still ks&&go ks r
theorem xX {ln:Nat→Nat}{l:List (Nat×TO S)}{h:Nat}(hk:h∈aE l):∃k,aq (b8 ln l) h=some k:=by
 obtain⟨o,ho⟩:=mQ hk
 exact⟨_,fJ ho⟩
mutual
theorem FU {ln lo:Nat→Nat}{st:List (Nat×ap)}{l:List (Nat×TO S)}:∀v:TV S,v.still (aE l)=true→iT st (b8 lo l) (v.er ln)=some (v.er ln)
 | .af f τ a,_=>Q1 st _ f τ a
 | .ptr f τ a,_=>by cases f <;> rfl
 | .loc h o,e=>by
  obtain⟨k,hk⟩:=xX (ln:=lo) (bO.1 e)
  simp only[TV.er,iT,hk]
 | .aO h τ,e=>by
  obtain⟨k,hk⟩:=xX (ln:=lo) (bO.1 e)
  simp only[TV.er,iT,hk]
 | .agg vs,e=>by
  show(iT.go st (b8 lo l) (TV.er.go ln vs)).map G.agg=_
  rw[ug vs e];rfl
 | .bj vs,e=>by
  show(iT.go st (b8 lo l) (TV.er.go ln vs)).map G.bj=_
  rw[ug vs e];rfl
 | .aM f vs,e=>by
  show(iT.go st (b8 lo l) (TV.er.go ln vs)).map (G.aM f)=_
  rw[ug vs e];rfl
 | .val u,e=>by
  have key:zo u=.val u:=by
   unfold TV.still at e
   unfold zo
   split
   ·cases e
   ·rfl
  show some (zo u)=some (.val u)
  rw[key]
 | .any,_=>rfl
 | .sub h τ o n,e=>by
  obtain⟨k,hk⟩:=xX (ln:=lo) (bO.1 e)
  simp only[TV.er,iT,hk]
 | .gF _ _ _ _,e=>by cases e
 | .cq _,e=>by cases e
 | .mp _,_=>rfl
 | .ks _ _ _ _,_=>rfl
 | .kp _ _ _ _,e=>by cases e
 | .fA b _ _ _ _,e=>by cases b <;> rfl
theorem ug {ln lo:Nat→Nat}{st:List (Nat×ap)}{l:List (Nat×TO S)}:∀vs:List (TV S),TV.still.go (aE l) vs=true→iT.go st (b8 lo l) (TV.er.go ln vs)=some (TV.er.go ln vs)
 | [],_=>rfl
 | x::r,e=>by
  simp only[TV.still.go,ai] at e
  simp only[TV.er.go,iT.go,FU x e.1,ug r e.2]
end
mutual
def Sh.still (ks:List Nat):Sh→Bool
 | .af _ _=>true
 | .ptr _ _=>true
 | .own h _=>br h ks
 | .loc h _=>br h ks
 | .aM _ l=>vi ks l
 | .agg l=>vi ks l
 | .cq _=>false
 | .mp h=>br h ks
 | .fA h _=>br h ks
 | .ks h _=>br h ks
 | .any=>true
 | .lR=>true
 | .sub h _=>br h ks
def vi (ks:List Nat):List Sh→Bool
 | []=>true
 | x::r=>x.still ks&&vi ks r
end
def rq (ks:List Nat):List (Nat×Sh)→Bool
 | []=>true
 | (_,x)::r=>x.still ks&&rq ks r
mutual
theorem Aj (ks:List Nat):∀(sh:Sh) (ls:List (bo S.α)),sh.still ks=true→(ig sh ls).1.still ks=true
 | .af f τ,ls,_=>by cases ls <;> rfl
 | .ptr f τ,ls,_=>by cases ls <;> rfl
 | .own k τ,ls,h=>h
 | .loc _ _,ls,h=>h
 | .aM f l,ls,h=>u4 ks l ls h
 | .agg l,ls,h=>u4 ks l ls h
 | .cq _,ls,h=>by cases h
 | .mp _,ls,h=>h
 | .ks _ _,ls,h=>by
  simp only[ig]
  split
  ·exact h
  ·rfl
 | .fA _ _,ls,h=>by
  simp only[ig]
  split
  ·exact h
  ·rfl
 | .any,ls,_=>rfl
 | .lR,ls,_=>by
  simp only[ig]
  split <;> rfl
 | .sub _ _,ls,h=>by
  simp only[ig]
  split
  ·exact h
  ·rfl
theorem u4 (ks:List Nat):∀(l:List Sh) (ls:List (bo S.α)),vi ks l=true→TV.still.go ks (cW l ls).1=true
 | [],_,_=>rfl
 | sh::r,ls,h=>by
  simp only[vi,ai] at h
  simp only[cW,TV.still.go,Aj ks sh ls h.1,u4 ks r _ h.2,fH]
end
theorem Ak (ks:List Nat):∀(l:List (Nat×Sh)) (ls:List (bo S.α)),rq ks l=true→TV.still.go ks ((cu l ls).1.map (·.2))=true
 | [],_,_=>rfl
 | (d,sh)::r,ls,h=>by
  simp only[rq,ai] at h
  simp only[cu,aH,TV.still.go,Aj ks sh ls h.1,Ak ks r _ h.2,fH]
theorem JY {ks:List Nat}{aA:List (Nat×Sh)}(ls:List (bo S.α)) (h:rq ks aA=true):(lE aA ls).still ks=true:=by
 have:=Ak ks aA ls h
 unfold lE
 generalize (cu aA ls).1=l at this
 match l with
 | []=>rfl
 | [(_,v)]=>simpa[TV.still.go] using this
 | (_,v)::(_,v')::r=>exact this
def LV:List Nat→Bool
 | []=>true
 | x::r=>!(br x r)&&LV r
theorem Dh:∀{l:List (Nat×TO S)},LV (aE l)=true→∀j o,(j,o)∈l→aw l j=some o
 | [],_,_,_,h=>by cases h
 | (k,x)::r,hn,j,o,hm=>by
  simp only[aE,LV,ai,a6] at hn
  rcases aX.1 hm with e | hm
  ·cases e;simp only[aw,aG,cond_true]
  ·have ih:=Dh hn.2 j o hm
   rw[jl _ _ fun e=>?_]
   ·exact ih
   ·subst e
    have:=bO.2 (rE ih)
    rw[hn.1] at this;cases this
theorem Cf:∀(ts:List Ty) (q:bj S.α ts),(leaves ts q).length=ts.length
 | [],_=>rfl
 | [_],_=>rfl
 | _::u::r,q=>by simp only[leaves,bN,Cf (u::r) q.2]
theorem vr (ln:Nat→Nat) (aA:List (Nat×Sh)) (ls:List (bo S.α)):pack (((cu aA ls).1.map (·.2)).map (TV.er ln))=(lE aA ls).er ln:=by
 unfold lE
 generalize (cu aA ls).1=l
 match l with
 | []=>rfl
 | [(_,v)]=>rfl
 | (_,v)::(_,v')::r=>
  simp only[aH,pack,TV.er,cR]
def sX (N:Nat) (args:List Sh) (aA:List (Nat×Sh)) (outs:List (Nat×Oh)):Bool:=
 Nat.ble args.length N&&(rq (aE outs) aA&&LV (aE outs))
theorem yG:∀(l:List Sh) (ls:List (bo S.α)),(cW l ls).1.length=l.length
 | [],_=>rfl
 | x::r,ls=>by simp only[cW,bN,yG r]
def RV (aA:List (Nat×Sh)) (outs:List (Nat×Oh)) (r:bj S.α (JH.dg ⟨aA,outs⟩)) (g:G) (st:List (Nat×ap)):Prop:=
 g=(lE aA (leaves _ r)).er (bZ (ca outs (cu aA (leaves _ r)).2).1)∧st=b8 (bZ (ca outs (cu aA (leaves _ r)).2).1) (ca outs (cu aA (leaves _ r)).2).1
theorem P3 {P:Program}{N fu:Nat}{H:List (Nat×mn)}{cl:Cl S}(hm:P.follows .mixedOrders=true) (hcl:zL P N cl)
  {f:FuncId}{fn:Func}{c:Code}{args:List Sh}{aZ:List Oh}{aA:List (Nat×Sh)}{outs:List (Nat×Oh)}{q:bj S.α (j7 args aZ)}{r:bj S.α (JH.dg ⟨aA,outs⟩)}(hf:P.funcs[f]?=some fn) (hb:fn.body=some c) (hN:fn.ntmps=N)
  (hr:sX N args aA outs=true) (hrg:oz S N H (lD c 0)){mvs:List Nat}(h:HG P N fu H cl c mvs fn.results.toList args aZ aA outs q=some r):
  GM P f (TV.er.go (eU args aZ (leaves _ q)).ln (cW args (leaves _ q)).1) (eU args aZ (leaves _ q)).er.st (RV aA outs r):=by
 simp only[sX,ai] at hr
 obtain⟨hle,hr3,hr4⟩:=hr
 refine GM.of hf hb hN (by rw[cR,a5,yG];exact hle) fun cx hro=>?_
 have e0:(⟨nF (TV.er.go (eU args aZ (leaves _ q)).ln (cW args (leaves _ q)).1) 0,(eU args aZ (leaves _ q)).er.st,[]⟩:St)=(eU args aZ (leaves _ q)).er:=by
  rw[←Cr]
  show St.mk _ _ _=St.mk (fZ _ (mb (cW args (leaves _ q)).1 0++[])) _ _
  rw[b9];rfl
 rw[e0]
 unfold HG at h
 split at h
 rotate_left
 ·cases h
 rename_i s0 hmv
 refine AQ (gE rfl) hmv fun hl0=>?_
 refine GW.Pp (Q':=fun e s'=>(e=.ret∨e=.normal)∧∃t:ah S,Gw s' t.er∧aY t∧DD P t fn.results.toList aA outs=some r) (jq hm hcl c 0 hrg (.inr hro) _ _ _ r hl0 h _ fun e t hlt hk hK=>?_) fun e s' hq=>?_
 ·split at hK
  ·obtain⟨g1,g2⟩:=gI (P:=P) (rvs:=fn.results.toList) (l:=aA) hlt
   exact⟨.inl rfl,_,g1,g2,hK⟩
  ·obtain⟨g1,g2⟩:=gI (P:=P) (rvs:=fn.results.toList) (l:=aA) hlt
   exact⟨.inr rfl,_,g1,g2,hK⟩
  ·cases hK
 ·obtain⟨he,t,hg0,hlt,hE⟩:=hq
  obtain⟨u,hg,hdf,r1,O',eu,hln,hown⟩:=Jf hlt hE
  refine⟨_,hg0.trans hg.w,?_⟩
  have hk:aE (ca outs (cu aA (leaves (JH.dg ⟨aA,outs⟩) r)).2).1=aE outs:=jK _ _
  refine DP.mk he _ ((lE aA (leaves _ r)).er (bZ (ca outs (cu aA (leaves _ r)).2).1)) _ r1 (Ax (ln:=bZ (ca outs (cu aA (leaves _ r)).2).1) (l:=(ca outs (cu aA (leaves _ r)).2).1) fun j o hm=>?_) ?_ ⟨rfl,rfl⟩ hdf
  ·have e1:aw (ca outs (cu aA (leaves _ r)).2).1 j=some o:=Dh (by rw[hk];exact hr4) j o hm
   have e2:aw u.bg j=some o:=by rw[eu,db,e1]
   rw[show aq u.er.st j=_ from fJ e2]
   have hj:o.er u.ln=o.er (bZ (ca outs (cu aA (leaves _ r)).2).1):=TO.lg hln o (sD (aE outs) outs _ hown j o e1)
   rw[hj]
  ·rw[vr]
   refine FU _ ?_
   rw[hk]
   exact JY _ hr3
end
end Go.DN
/-
 DN,part U:calls that lend nothing.
-/
namespace Go.DN
open Go.AM
section
variable {S:eB}
def wa (s:ah S) (τ:Ty):TV S→Option (S.D τ)
 | .af _ τ' a=>match τ'.fL with
  | true=>none
  | false=>ik τ' τ a
 | .val (.slice none 0 0)=>match τ with
  | .list _=>some []
  | _=>none
 | .aO h τ2=>match aw s.bg h with
  | some (.aT _ _ _ τ' l)=>match decEq τ' τ2 with
   | isTrue _=>ik (.list τ') τ l
   | isFalse _=>none
  | _=>none
 | _=>none
def Bu (s:ah S):List Ty→List (TV S)→Option (List (bo S.α))
 | [],[]=>some []
 | τ::ts,v::vs=>match wa s τ v with
  | some a=>match Bu s ts vs with
   | some l=>some (⟨τ,a⟩::l)
   | none=>none
  | none=>none
 | _,_=>none
def Jw (s:ah S) (τ:Ty) (v:TV S):Option (S.D τ):=
 match v with
 | .af _ τ' a=>ik τ' τ a
 | .agg vs=>match τ with
  | .st n=>match Bu s (S.dg n) vs with
   | some l=>S.put n l
   | none=>none
  | _=>none
 | v=>wa s τ v
def Ju (s:ah S) (τ:Ty) (v:TV S):Option (S.D τ):=
 match v with
 | .ptr _ τ' a=>ik τ' τ a
 | .loc h 0=>match aw s.bg h with
  | some (.box _ _ vs)=>match τ with
   | .st n=>match Bu s (S.dg n) vs with
    | some l=>S.put n l
    | none=>none
   | τ=>match vs with
    | [v]=>wa s τ v
    | _=>none
  | _=>none
 | _=>none
mutual
def fD (s:ah S):Sh→TV S→Option (List (bo S.α))
 | .af false τ,v=>match Jw s τ v with
  | some a=>some [⟨τ,a⟩]
  | none=>none
 | .ptr false τ,v=>match Ju s τ v with
  | some a=>some [⟨τ,a⟩]
  | none=>none
 | .aM f l,v=>match v with
  | .aM f' vs=>match Nat.beq f' f with
   | true=>jU s l vs
   | false=>none
  | _=>none
 | _,_=>none
def jU (s:ah S):List Sh→List (TV S)→Option (List (bo S.α))
 | [],[]=>some []
 | x::r,v::vs=>match fD s x v with
  | some a=>match jU s r vs with
   | some l=>some (a++l)
   | none=>none
  | none=>none
 | _,_=>none
end
theorem DT (n:Nat) (st:List (Nat×ap)) (f:Bool){τ:Ty}(h:τ.fL=false) (a:S.D τ):view (n+1) st (dq f (dy S τ a))=some (dy S τ a):=by
 cases τ with
 | st n=>cases h
 | _=>cases f <;> rfl
theorem Aw {s:ah S}{τ:Ty}{v:TV S}{a:S.D τ}(n:Nat) (h:wa s τ v=some a):view (n+1) s.er.st (v.er s.ln)=some (dy S τ a)∧τ.fL=false:=by
 unfold wa at h
 split at h
 ·split at h
  ·cases h
  ·rename_i hs
   have:=dW h
   cases this
   refine⟨?_,hs⟩
   rw[nH hs]
   exact DT n _ _ hs _
 ·split at h
  ·cases h;exact⟨rfl,rfl⟩
  ·cases h
 ·rename_i hh τ2
  split at h
  ·rename_i e m f τ' l ho
   split at h
   ·rename_i e1 _
    subst e1
    have:=dW h
    cases this
    refine⟨?_,rfl⟩
    show view (n+1) s.er.st (.aO hh (S.sz τ') 0 (s.ln hh))=_
    simp only[view,cO ho,TO.er]
    rw[l4 ho,eD,b6 (by rw[eM];exact az _)]
    rfl
   ·cases h
  ·cases h
 ·cases h
theorem Av {s:ah S}(n:Nat):∀{ts:List Ty}{vs:List (TV S)}{l:List (bo S.α)},Bu s ts vs=some l→dU (view (n+1) s.er.st) (TV.er.go s.ln vs)=some (l.map fun x=>dy S x.τ x.a)
 | [],[],_,h=>by cases h;rfl
 | τ::ts,v::vs,l,h=>by
  simp only[Bu] at h
  split at h
  ·rename_i a ha
   split at h
   ·rename_i l' hl
    cases h
    simp only[TV.er.go,dU,(Aw n ha).1,Av n hl,aH]
   ·cases h
  ·cases h
 | [],_::_,_,h=>by cases h
 | _::_,[],_,h=>by cases h
theorem Fq {n:Nat}{st:List (Nat×ap)}{gs gs':List G}(h:dU (view n st) gs=some gs'):view (n+1) st (.agg gs)=some (.agg gs'):=by
 show(match dU (view n st) gs with | some gs'=>some (G.agg gs') | none=>none)=_
 rw[h]
theorem Fp {n:Nat}{st:List (Nat×ap)}{h:Nat}{k:ap}{gs':List G}(hk:aq st h=some k) (hlp:k.lp=none) (hp:k.pure=false) (hm:dU (view n st) k.cells=some gs'):view (n+1) st (.loc h 0)=some (.ptr gs'):=by
 show(match aq st h with
  | some k=>match k.lp with
   | some _=>none
   | none=>match k.pure with
    | true=>some (G.ptr (k.cells.drop 0))
    | false=>match dU (view n st) (k.cells.drop 0) with
     | some cs=>some (.ptr cs)
     | none=>none
  | none=>none)=_
 rw[hk]
 dsimp only
 rw[hlp]
 dsimp only
 rw[hp,eD]
 dsimp only
 rw[hm]
theorem Ft {s:ah S}{τ:Ty}{v:TV S}{a:S.D τ}(n:Nat) (h:Jw s τ v=some a) (ln:Nat→Nat):view (n+2) s.er.st (v.er s.ln)=some ((TV.af false τ a:TV S).er ln):=by
 have one:wa s τ v=some a→view (n+2) s.er.st (v.er s.ln)=some ((TV.af false τ a:TV S).er ln):=by
  intro h
  obtain⟨h1,h2⟩:=Aw (n+1) h
  rw[h1,nH h2];rfl
 unfold Jw at h
 split at h
 ·rename_i f τ' a'
  have:=dW h
  cases this
  cases τ with
  | st k=>
   show view (n+2) s.er.st (.agg ((aK S (.st k) a).map (dq f)))=some (.agg ((aK S (.st k) a).map (dq false)))
   have key:dU (view (n+1) s.er.st) ((aK S (.st k) a).map (dq f))=some ((aK S (.st k) a).map (dq false)):=by
    rw[gq]
    have h:=jP k a
    generalize S.cells k a=l at h
    induction l with
    | nil=>rfl
    | cons x r ih=>
     simp only[aH,dU]
     rw[DT n _ f (h x av) x.a,ih fun y hy=>h y (ao _ hy)]
     rfl
   exact Fq key
  | _=>exact one (by unfold wa;exact h)
 ·rename_i vs
  split at h
  ·rename_i k
   split at h
   ·rename_i l hl
    have hp:=S.kD _ _ _ h
    show view (n+2) s.er.st (.agg (TV.er.go s.ln vs))=some (.agg ((aK S (.st k) a).map (dq false)))
    have e:(dq false)=(id:G→G):=rfl
    rw[e,List.map_id,gq,hp]
    exact Fq (Av n hl)
   ·cases h
  ·cases h
 ·exact one h
theorem Fs {s:ah S}{τ:Ty}{v:TV S}{a:S.D τ}(n:Nat) (h:Ju s τ v=some a) (ln:Nat→Nat):view (n+2) s.er.st (v.er s.ln)=some ((TV.ptr false τ a:TV S).er ln):=by
 unfold Ju at h
 split at h
 ·rename_i f τ' a'
  have:=dW h
  cases this
  cases f <;> rfl
 ·rename_i hh
  split at h
  ·rename_i e m vs ho
   split at h
   ·rename_i k
    split at h
    ·rename_i l hl
     have hp:=S.kD _ _ _ h
     show view (n+2) s.er.st (.loc hh 0)=some (.ptr (aK S (.st k) a))
     rw[gq,hp]
     exact Fp (cO ho) rfl rfl (Av n hl)
    ·cases h
   ·split at h
    ·obtain⟨h1,h2⟩:=Aw n h
     show view (n+2) s.er.st (.loc hh 0)=some (.ptr (aK S τ a))
     rw[jZ S h2]
     refine Fp (cO ho) rfl rfl ?_
     simp only[TO.er,TV.er.go,dU,h1]
    ·cases h
  ·cases h
 ·cases h
theorem Fu {n:Nat}{st:List (Nat×ap)}{g g':G}(h:view (n+2) st g=some g'):qU (n+2) st g=some g':=by
 cases g with
 | aM f l=>simp[view] at h
 | _=>exact h
def Sh.flat:Sh→Bool
 | .aM _ _=>false
 | _=>true
def Fb:List Sh→Bool
 | []=>true
 | x::r=>x.flat&&Fb r
def R9:Sh→Bool
 | .aM _ l=>Fb l
 | _=>true
def B4:List Sh→Bool
 | []=>true
 | x::r=>R9 x&&B4 r
theorem DU {s:ah S}(n:Nat) (ln:Nat→Nat):∀{l:List Sh}{vs:List (TV S)}{xs:List (bo S.α)},Fb l=true→jU s l vs=some xs→∀r,(cW l (xs++r)).2=r∧dU (view (n+2) s.er.st) (TV.er.go s.ln vs)=some (TV.er.go ln (cW l (xs++r)).1)
 | [],[],_,_,h,r=>by simp[jU] at h;subst h;exact⟨rfl,rfl⟩
 | x::l,v::vs,xs,hf,h,r=>by
  simp only[Fb,ai] at hf
  simp only[jU] at h
  split at h
  ·rename_i a ha
   split at h
   ·rename_i l' hl
    cases h
    rw[aC]
    obtain⟨i1,i2⟩:=DU n ln hf.2 hl r
    cases x with
    | aM f l0=>cases hf.1
    | own _ _=>simp[fD] at ha
    | loc _ _=>simp[fD] at ha
    | agg _=>simp[fD] at ha
    | cq _=>simp[fD] at ha
    | mp _=>simp[fD] at ha
    | fA _ _=>simp[fD] at ha
    | ks _ _=>simp[fD] at ha
    | lR=>simp[fD] at ha
    | sub _ _=>simp[fD] at ha
    | any=>simp[fD] at ha
    | af f τ=>
     cases f with
     | true=>simp[fD] at ha
     | false=>
     simp only[fD] at ha
     split at ha
     ·rename_i b hb
      cases ha
      refine⟨i1,?_⟩
      simp only[TV.er.go,dU,Ft n hb ln,i2]
      rfl
     ·cases ha
    | ptr f τ=>
     cases f with
     | true=>simp[fD] at ha
     | false=>
     simp only[fD] at ha
     split at ha
     ·rename_i b hb
      cases ha
      refine⟨i1,?_⟩
      simp only[TV.er.go,dU,Fs n hb ln,i2]
      rfl
     ·cases ha
   ·cases h
  ·cases h
 | [],_::_,_,_,h,_=>by simp[jU] at h
 | _::_,[],_,_,h,_=>by simp[jU] at h
theorem ue {s:ah S}(n:Nat) (ln:Nat→Nat):∀{l:List Sh}{vs:List (TV S)}{xs:List (bo S.α)},B4 l=true→jU s l vs=some xs→∀r,(cW l (xs++r)).2=r∧dU (qU (n+2) s.er.st) (TV.er.go s.ln vs)=some (TV.er.go ln (cW l (xs++r)).1)
 | [],[],_,_,h,r=>by simp[jU] at h;subst h;exact⟨rfl,rfl⟩
 | x::l,v::vs,xs,hf,h,r=>by
  simp only[B4,ai] at hf
  simp only[jU] at h
  split at h
  ·rename_i a ha
   split at h
   ·rename_i l' hl
    cases h
    rw[aC]
    obtain⟨i1,i2⟩:=ue n ln hf.2 hl r
    cases x with
    | own _ _=>simp[fD] at ha
    | loc _ _=>simp[fD] at ha
    | agg _=>simp[fD] at ha
    | cq _=>simp[fD] at ha
    | mp _=>simp[fD] at ha
    | fA _ _=>simp[fD] at ha
    | ks _ _=>simp[fD] at ha
    | lR=>simp[fD] at ha
    | sub _ _=>simp[fD] at ha
    | any=>simp[fD] at ha
    | aM f l0=>
     simp only[fD] at ha
     split at ha
     ·rename_i f' vs'
      split at ha
      ·rename_i hb
       have e:=aa hb
       subst e
       obtain⟨j1,j2⟩:=DU n ln hf.1 ha (l'++r)
       simp only[cW,ig]
       rw[j1]
       refine⟨i1,?_⟩
       simp only[TV.er.go,dU,i2]
       have hv:qU (n+2) s.er.st ((TV.aM f' vs':TV S).er s.ln)=some (.aM f' (TV.er.go ln (cW l0 (a++(l'++r))).1)):=by
        show(match dU (view (n+2) s.er.st) (TV.er.go s.ln vs') with | some c=>some (G.aM f' c) | none=>none)=_
        rw[j2]
       rw[hv]
       rfl
      ·cases ha
     ·cases ha
    | af f τ=>
     cases f with
     | true=>simp[fD] at ha
     | false=>
     simp only[fD] at ha
     split at ha
     ·rename_i b hb
      cases ha
      refine⟨i1,?_⟩
      simp only[TV.er.go,dU,Fu (Ft n hb ln),i2]
      rfl
     ·cases ha
    | ptr f τ=>
     cases f with
     | true=>simp[fD] at ha
     | false=>
     simp only[fD] at ha
     split at ha
     ·rename_i b hb
      cases ha
      refine⟨i1,?_⟩
      simp only[TV.er.go,dU,Fu (Fs n hb ln),i2]
      rfl
     ·cases ha
   ·cases h
  ·cases h
 | [],_::_,_,_,h,_=>by simp[jU] at h
 | _::_,[],_,_,h,_=>by simp[jU] at h
end
end Go.DN
/-
 DN,part V:contracts;calls by eo.
-/
namespace Go.DN
open Go.AM
structure cE (S:eB) where
 f:FuncId
 args:List Sh
 aZ:List Oh
 vw:Bool
 aA:List (Nat×Sh)
 outs:List (Nat×Oh)
 F:bj S.α (j7 args aZ)→Option (bj S.α (JH.dg ⟨aA,outs⟩))
section
variable {S:eB}
structure aV (P:Program) (con:cE S):Prop where
 call:∀args w,(callFunc con.f args).run P w=.ok (.enter con.f args) w
 ok:∀q r,con.F q=some r→GM P con.f (TV.er.go (eU con.args con.aZ (leaves _ q)).ln (cW con.args (leaves _ q)).1) (eU con.args con.aZ (leaves _ q)).er.st (RV con.aA con.outs r)
def lQ:List (Nat×Sh)→Bool
 | []=>true
 | (_,.af _ _)::r=>lQ r
 | _=>false
def pN:List (Nat×Sh)→Bool
 | []=>true
 | (_,.af f _)::r=>f&&pN r
 | _=>false
theorem Co {g:G}(h:(∃u,g=.val u)∨∃n cs,g=.sl n cs):jG (dq true g)=true:=by
 rcases h with ⟨u,rfl⟩ | ⟨n,cs,rfl⟩ <;> rfl
theorem KB (τ:Ty) (a:S.D τ):jG (nf true τ a)=true:=by
 cases τ with
 | st n=>
  show jG.go ((aK S (.st n) a).map (dq true))=true
  have h:=rI (S:=S) (.st n) a
  generalize aK S (.st n) a=l at h
  induction l with
  | nil=>rfl
  | cons x r ih=>
   simp only[aH,jG.go,Co (h x av),ih fun y hy=>h y (ao _ hy),fH]
 | _=>exact Co (vH rfl a)
theorem Cn (ln:Nat→Nat):∀(aA:List (Nat×Sh)) (ls:List (bo S.α)),pN aA=true→ls.length=(iE aA).length→jG.go (((cu aA ls).1.map (·.2)).map (TV.er ln))=true
 | [],_,_,_=>rfl
 | (d,.af f τ)::r,ls,h,hl=>by
  simp only[pN,ai] at h
  cases ls with
  | nil=>simp[iE,Sh.dg] at hl
  | cons x xs=>
   simp only[cu,ig,aH,jG.go]
   rw[h.1,Cn ln r xs h.2 (by simpa[iE,Sh.dg] using hl),iW]
   exact KB x.τ x.a
 | (d,.own h τ)::r,ls,h',_=>by cases h'
 | (d,.ptr _ _)::r,ls,h',_=>by cases h'
 | (d,.loc _ _)::r,ls,h',_=>by cases h'
 | (d,.aM _ _)::r,ls,h',_=>by cases h'
 | (d,.agg _)::r,ls,h',_=>by cases h'
 | (d,.cq _)::r,ls,h',_=>by cases h'
 | (d,.mp _)::r,ls,h',_=>by cases h'
 | (d,.fA _ _)::r,ls,h',_=>by cases h'
 | (d,.ks _ _)::r,ls,h',_=>by cases h'
 | (d,.any)::r,ls,h',_=>by cases h'
 | (d,.lR)::r,ls,h',_=>by cases h'
 | (d,.sub _ _)::r,ls,h',_=>by cases h'
theorem Ez {aA:List (Nat×Sh)}{ls:List (bo S.α)}(h:pN aA=true) (hl:ls.length=(iE aA).length) (ln:Nat→Nat):jG ((lE aA ls).er ln)=true:=by
 have:=Cn (S:=S) ln aA ls h hl
 rw[←vr]
 revert this
 generalize (((cu aA ls).1.map (·.2)).map (TV.er ln))=gs
 intro hg
 match gs with
 | []=>rfl
 | [g]=>simpa[jG.go,pack] using hg
 | g::g'::r=>exact hg
theorem Ja (ln ln':Nat→Nat):∀(aA:List (Nat×Sh)) (ls:List (bo S.α)),lQ aA=true→((cu aA ls).1.map (·.2)).map (TV.er ln)=((cu aA ls).1.map (·.2)).map (TV.er ln')
 | [],_,_=>rfl
 | (d,.af f τ)::r,ls,h=>by
  simp only[cu,aH]
  rw[Ja ln ln' r _ h]
  cases ls <;> rfl
 | (d,.own h τ)::r,ls,h'=>by cases h'
 | (d,.ptr _ _)::r,ls,h'=>by cases h'
 | (d,.loc _ _)::r,ls,h'=>by cases h'
 | (d,.aM _ _)::r,ls,h'=>by cases h'
 | (d,.agg _)::r,ls,h'=>by cases h'
 | (d,.cq _)::r,ls,h'=>by cases h'
 | (d,.mp _)::r,ls,h'=>by cases h'
 | (d,.fA _ _)::r,ls,h'=>by cases h'
 | (d,.ks _ _)::r,ls,h'=>by cases h'
 | (d,.any)::r,ls,h'=>by cases h'
 | (d,.lR)::r,ls,h'=>by cases h'
 | (d,.sub _ _)::r,ls,h'=>by cases h'
theorem Gc (ln ln':Nat→Nat){aA:List (Nat×Sh)}{ls:List (bo S.α)}(h:lQ aA=true):(lE aA ls).er ln=(lE aA ls).er ln':=by
 rw[←vr,←vr,Ja ln ln' aA ls h]
def TV.imp:TV S→Bool
 | .af _ _ _=>true
 | .ptr _ _ _=>true
 | .val _=>true
 | .agg l=>go l
 | .aM _ l=>go l
 | _=>false
where go:List (TV S)→Bool
 | []=>true
 | x::r=>x.imp&&go r
def mA:G→Bool
 | .val _=>true
 | .sl _ _=>true
 | .ptr _=>true
 | .fr _=>true
 | .agg gs=>go gs
 | .aM _ gs=>go gs
 | _=>false
where go:List G→Bool
 | []=>true
 | g::r=>mA g&&go r
mutual
theorem Mf (ln:Nat→Nat):∀v:TV S,v.imp=true→mA (v.er ln)=true
 | .af f τ a,_=>by
  cases τ with
  | st n=>
   show mA.go ((aK S (.st n) a).map (dq f))=true
   have h:=rI (S:=S) (.st n) a
   generalize aK S (.st n) a=l at h
   induction l with
   | nil=>rfl
   | cons x r ih=>
    have h1:mA (dq f x)=true:=by
     rcases h x av with ⟨u,rfl⟩ | ⟨n,cs,rfl⟩ <;> cases f <;> rfl
    simp only[aH,mA.go,h1,ih fun y hy=>h y (ao _ hy),fH]
  | _=>cases f <;> rfl
 | .ptr f τ a,_=>by cases f <;> rfl
 | .val _,_=>rfl
 | .agg l,h=>nE ln l h
 | .aM _ l,h=>nE ln l h
 | .bj _,h=>by cases h
 | .loc _ _,h=>by cases h
 | .gF _ _ _ _,h=>by cases h
 | .aO _ _,h=>by cases h
 | .sub _ _ _ _,h=>by cases h
 | .cq _,h=>by cases h
 | .mp _,h=>by cases h
 | .ks _ _ _ _,h=>by cases h
 | .kp _ _ _ _,h=>by cases h
 | .fA _ _ _ _ _,h=>by cases h
 | .any,h=>by cases h
theorem nE (ln:Nat→Nat):∀l:List (TV S),TV.imp.go l=true→mA.go (TV.er.go ln l)=true
 | [],_=>rfl
 | x::r,h=>by
  simp only[TV.imp.go,ai] at h
  simp only[TV.er.go,mA.go,Mf ln x h.1,nE ln r h.2,fH]
end
theorem wJ {f:G→Option G}:∀{gs gs':List G},(∀g g',g∈gs→f g=some g'→fN g=some g')→dU f gs=some gs'→fN.go gs=some gs'
 | [],_,_,h=>by cases h;rfl
 | g::r,gs',hf,h=>by
  simp only[dU] at h
  split at h
  ·rename_i g1 r1 h1 h2
   cases h
   simp only[fN.go,hf g g1 av h1,wJ (fun x x' hx=>hf x x' (ao _ hx)) h2]
  ·cases h
theorem ym:∀{gs:List G}{g:G},mA.go gs=true→g∈gs→mA g=true
 | x::r,g,h,hm=>by
  simp only[mA.go,ai] at h
  rcases aX.1 hm with e | hm
  ·subst e;exact h.1
  ·exact ym h.2 hm
theorem Au {st:List (Nat×ap)}:∀(n:Nat){g g':G},mA g=true→view n st g=some g'→fN g=some g'
 | 0,_,_,_,h=>by cases h
 | n+1,g,g',ho,h=>by
  cases g with
  | val v=>exact h
  | sl m cs=>exact h
  | ptr cs=>exact h
  | fr g=>exact h
  | agg gs=>
   have h:(match dU (view n st) gs with | some gs'=>some (G.agg gs') | none=>none)=some g':=h
   split at h
   ·rename_i gs' hm
    cases h
    show(fN.go gs).map G.agg=_
    rw[wJ (fun x x' hx hv=>Au n (ym ho hx) hv) hm];rfl
   ·cases h
  | aM f gs=>simp[view] at h
  | _=>cases ho
theorem K8 {n:Nat}{st:List (Nat×ap)}{g g':G}(ho:mA g=true) (h:qU n st g=some g'):fN g=some g':=by
 cases g with
 | aM f gs=>
  have h:(match dU (view n st) gs with | some c=>some (G.aM f c) | none=>none)=some g':=h
  split at h
  ·rename_i gs' hm
   cases h
   show(fN.go gs).map (G.aM f)=_
   rw[wJ (fun x x' hx hv=>Au n (ym ho hx) hv) hm];rfl
  ·cases h
 | _=>exact Au n ho h
theorem wK {n:Nat}{st:List (Nat×ap)}:∀{gs gs':List G},mA.go gs=true→dU (qU n st) gs=some gs'→dU fN gs=some gs'
 | [],_,_,h=>by cases h;rfl
 | g::r,gs',ho,h=>by
  simp only[mA.go,ai] at ho
  simp only[dU] at h
  split at h
  ·rename_i g1 r1 h1 h2
   cases h
   simp only[dU,K8 ho.1 h1,wK ho.2 h2]
  ·cases h
theorem NN (f:Bool) (τ:Ty) (a:S.D τ):lf (nf f τ a)=true:=by
 cases τ with
 | st n=>
  show lf.go ((aK S (.st n) a).map (dq f))=true
  have h:=rI (S:=S) (.st n) a
  generalize aK S (.st n) a=l at h
  induction l with
  | nil=>rfl
  | cons x r ih=>
   have h1:lf (dq f x)=true:=by
    rcases h x av with ⟨u,rfl⟩ | ⟨n,cs,rfl⟩ <;> cases f <;> rfl
   simp only[aH,lf.go,h1,ih fun y hy=>h y (ao _ hy),fH]
 | _=>cases f <;> rfl
theorem Hk (ln:Nat→Nat):∀(aA:List (Nat×Sh)) (ls:List (bo S.α)),lQ aA=true→ls.length=(iE aA).length→lf.go (((cu aA ls).1.map (·.2)).map (TV.er ln))=true
 | [],_,_,_=>rfl
 | (d,.af f τ)::r,ls,h,hl=>by
  cases ls with
  | nil=>simp[iE,Sh.dg] at hl
  | cons x xs=>
   simp only[cu,ig,aH,lf.go]
   rw[Hk ln r xs h (by simpa[iE,Sh.dg] using hl),iW]
   exact NN f x.τ x.a
 | (d,.own h τ)::r,ls,h',_=>by cases h'
 | (d,.ptr _ _)::r,ls,h',_=>by cases h'
 | (d,.loc _ _)::r,ls,h',_=>by cases h'
 | (d,.aM _ _)::r,ls,h',_=>by cases h'
 | (d,.agg _)::r,ls,h',_=>by cases h'
 | (d,.cq _)::r,ls,h',_=>by cases h'
 | (d,.mp _)::r,ls,h',_=>by cases h'
 | (d,.fA _ _)::r,ls,h',_=>by cases h'
 | (d,.ks _ _)::r,ls,h',_=>by cases h'
 | (d,.any)::r,ls,h',_=>by cases h'
 | (d,.lR)::r,ls,h',_=>by cases h'
 | (d,.sub _ _)::r,ls,h',_=>by cases h'
theorem Ds {aA:List (Nat×Sh)}{ls:List (bo S.α)}(h:lQ aA=true) (hl:ls.length=(iE aA).length) (ln:Nat→Nat):lf ((lE aA ls).er ln)=true:=by
 have:=Hk (S:=S) ln aA ls h hl
 rw[←vr]
 revert this
 generalize (((cu aA ls).1.map (·.2)).map (TV.er ln))=gs
 intro hg
 match gs with
 | []=>rfl
 | [g]=>simpa[lf.go,pack] using hg
 | g::g'::r=>exact hg
def ob (con:cE S):Bool:=isNil con.aZ&&(isNil con.outs&&(B4 con.args&&lQ con.aA))
def xi (con:cE S) (s:ah S) (d:Nat) (vs:List (TV S)){A:Type}(k:ah S→Option A):Option A:=
 match ob con&&(pN con.aA||TV.imp.go vs) with
 | true=>match jU s con.args vs with
  | some ls=>match ly (j7 con.args con.aZ) ls with
   | some q=>(con.F q).bind fun r=>k (s.put d (lE con.aA (leaves _ r)))
   | none=>none
  | none=>none
 | false=>none
theorem o7 (ln:Nat→Nat):∀(l l':List (TV S)),TV.er.go ln (l++l')=TV.er.go ln l++TV.er.go ln l'
 | [],_=>rfl
 | x::r,l'=>by simp only[bx,TV.er.go,o7 ln r l']
theorem AX {α:Type}:∀{l:List α},isNil l=true→l=[]
 | [],_=>rfl
 | _::_,h=>by cases h
theorem wu {P:Program}{con:cE S}(C:aV P con) (h:ob con=true):B4 con.args=true∧lQ con.aA=true∧
  ∀q r,con.F q=some r→GM P con.f (TV.er.go (fun _=>0) (cW con.args (leaves _ q)).1) [] (fun g st=>g=(lE con.aA (leaves _ r)).er (fun _=>0)∧st=[]):=by
 simp only[ob,ai] at h
 obtain⟨h1,h2,h3,h4⟩:=h
 refine⟨h3,h4,fun q r hr=>?_⟩
 have:=C.ok q r hr
 obtain⟨f,args,aZ,vw,aA,outs,F⟩:=con
 have h1':aZ=[]:=AX h1
 have h2':outs=[]:=AX h2
 subst h1';subst h2'
 have e1:(eU args [] (leaves (j7 args []) q)).ln=fun _=>0:=rfl
 rw[e1] at this
 exact this
theorem zk {aA:List (Nat×Sh)}{outs:List (Nat×Oh)}(r:bj S.α (JH.dg ⟨aA,outs⟩)) (h:outs=[]):(leaves _ r).length=(iE aA).length:=by
 subst h
 rw[Cf];simp[JH.dg,B6]
theorem sw {con:cE S}(h:ob con=true):con.outs=[]:=by
 simp only[ob,ai] at h
 exact AX h.2.1
theorem Oj {P:Program}{N:Nat}{W:List Nat}{con:cE S}(C:aV P con){s:ah S}{d:Nat}{vs:List (TV S)}{A:Type}{k:ah S→Option A}{r:A}(hl:aY s) (h:xi con s d vs k=some r)
  {xs:Array Operand}{ts:Array TypeId}{ty:TypeId}{pos:String}{after:Array Edge}{guard:Option (Nat×Bool)}(hv:rP s xs.toList=some vs):
  ∃T:St→Prop,bH P W s.er ⟨some d,.call ⟨.value (.func con.f),xs,ts⟩,ty,pos,after,guard⟩ T∧∀s',T s'→∃t:ah S,Gh s' t.er∧aY t∧bz s t∧k t=some r:=by
 unfold xi at h
 split at h
 ·rename_i hc
  rw[ai] at hc
  obtain⟨hp,hfr⟩:=hc
  obtain⟨C1,C2,C3⟩:=wu C hp
  split at h
  ·rename_i ls hls
   split at h
   ·rename_i q hq
    obtain⟨res,h1,h2⟩:=bind_some h
    have hview:=(ue 1 (fun _=>0) C1 hls []).2
    rw[b9,←fW hq] at hview
    have fin:∀s',(∃g st,(g=(lE con.aA (leaves _ res)).er (fun _=>0)∧st=([]:List (Nat×ap)))∧s'=s.er.put d g)→∃t:ah S,Gh s' t.er∧aY t∧bz s t∧k t=some r:=by
     intro s' hs'
     obtain⟨g,st,⟨hg,_⟩,e⟩:=hs'
     subst e;subst hg
     refine⟨_,?_,hl.put d _,⟨rfl,rfl,rfl⟩,h2⟩
     rw[fB,Gc s.ln (fun _=>0) C2]
     exact Gh.refl _
    have hlen:=zk res (sw hp)
    cases hfs:pN con.aA with
    | true=>exact⟨_,EF.call (P:=P) (W:=W) 3 C.call (kV hv).2 hview (C3 q res h1) (fun g st hg=>by rw[hg.1];exact Ez hfs hlen _),fin⟩
    | false=>
     rw[hfs] at hfr
     have himp:=nE s.ln vs hfr
     exact⟨_,EF.RM (P:=P) (W:=W) C.call (kV hv).2 (wK himp hview) (C3 q res h1) (fun g st hg=>⟨by rw[hg.1];exact Ds C2 hlen _,hg.2⟩),fin⟩
   ·cases h
  ·cases h
 ·cases h
theorem EF.Rh {P:Program}{W:List Nat}{s:St}{d:Nat}{ty:TypeId}{pos:String}{after:Array Edge}{guard:Option (Nat×Bool)}{f:FuncId}{x:Operand}{xs:Array Operand}{ts:Array TypeId}{gs caps gs':List G}{Q:G→List (Nat×ap)→Prop}(hc:∀args w,(callFunc f args).run P w=.ok (.enter f args) w)
  (hf:ev s x=some (.aM f caps)) (hx:tF s xs.toList=some gs) (hv:dU fN (gs++caps)=some gs') (hcon:GM P f gs' [] Q) (hres:∀r st',Q r st'→lf r=true∧st'=[]):
  bH P W s ⟨some d,.call ⟨.value x,xs,ts⟩,ty,pos,after,guard⟩ (fun s'=>∃r st',Q r st'∧s'=s.put d r):=by
 refine⟨(fun _ h=>by cases h),?_⟩
 intro N cx μ a w hr hN K Q' hK
 obtain⟨h1,h2⟩:=ma hx
 have hcl:=hr.ev hf
 generalize hav:a.eval x=vf at hcl
 cases hcl with
 | aF h=>cases h
 | aM _ _ us hl hrc=>
  have hcall:=CC (vs:=xs.toList.map a.eval++us) (W:=W) hr hv (by simp[h1,hl]) (fun j g v hg hv=>by
   rw[a8] at hg hv
   rw[a5,←h1] at hv
   split at hg
   ·rename_i hj
    rw[if_pos hj] at hv
    obtain⟨x,hxj,he⟩:=h2 j g hg
    rw[ay,hxj] at hv
    cases hv
    exact hr.ev he
   ·rename_i hj
    rw[if_neg hj] at hv
    exact hrc _ g v hg hv) hcon hres
  unfold Oper.wp
  have:(execOp a.eval ⟨some d,.call ⟨.value x,xs,ts⟩,ty,pos,after,guard⟩).run P w=.ok (.enter f (xs.toList.map a.eval++us).toArray) w:=by
   have e:xs.map a.eval++us.toArray=(xs.toList.map a.eval++us).toArray:=by rw[←nS,←eg]
   simp[execOp,resolve,invoke,Deferred.ofValue,hav,hc,e]
  rw[this]
  refine hcall.mono ?_
  rintro e w' ⟨v,r,st',rfl,hq,hr',hrv,hst⟩
  exact hK μ _ _ w' (hr'.put (hN d rfl) hrv) ⟨r,st',hq,rfl⟩ hst
theorem HS {P:Program}{N:Nat}{W:List Nat}{con:cE S}(C:aV P con){s:ah S}{d:Nat}{vs caps:List (TV S)}{A:Type}{k:ah S→Option A}{r:A}(hl:aY s) (h:xi con s d (vs++caps) k=some r)
  {x:Operand}{xs:Array Operand}{ts:Array TypeId}{ty:TypeId}{pos:String}{after:Array Edge}{guard:Option (Nat×Bool)}(hx:cm s x=some (.aM con.f caps)) (hv:rP s xs.toList=some vs):
  ∃T:St→Prop,bH P W s.er ⟨some d,.call ⟨.value x,xs,ts⟩,ty,pos,after,guard⟩ T∧∀s',T s'→∃t:ah S,Gh s' t.er∧aY t∧bz s t∧k t=some r:=by
 unfold xi at h
 split at h
 ·rename_i hc
  rw[ai] at hc
  obtain⟨hp,hfr⟩:=hc
  obtain⟨C1,C2,C3⟩:=wu C hp
  split at h
  ·rename_i ls hls
   split at h
   ·rename_i q hq
    obtain⟨res,h1,h2⟩:=bind_some h
    have hview:=(ue 1 (fun _=>0) C1 hls []).2
    rw[b9,←fW hq,o7] at hview
    have fin:∀s',(∃g st,(g=(lE con.aA (leaves _ res)).er (fun _=>0)∧st=([]:List (Nat×ap)))∧s'=s.er.put d g)→∃t:ah S,Gh s' t.er∧aY t∧bz s t∧k t=some r:=by
     intro s' hs'
     obtain⟨g,st,⟨hg,_⟩,e⟩:=hs'
     subst e;subst hg
     refine⟨_,?_,hl.put d _,⟨rfl,rfl,rfl⟩,h2⟩
     rw[fB,Gc s.ln (fun _=>0) C2]
     exact Gh.refl _
    cases hfs:pN con.aA with
    | true=>exact⟨_,EF.RL (P:=P) (W:=W) 3 C.call (bf hx) (kV hv).2 hview (C3 q res h1) (fun g st hg=>by rw[hg.1];exact Ez hfs (zk res (sw hp)) _),fin⟩
    | false=>
     rw[hfs] at hfr
     have himp:=nE s.ln (vs++caps) hfr
     rw[o7] at himp
     exact⟨_,EF.Rh (P:=P) (W:=W) C.call (bf hx) (kV hv).2 (wK himp hview) (C3 q res h1) (fun g st hg=>⟨by rw[hg.1];exact Ds C2 (zk res (sw hp)) _,hg.2⟩),fin⟩
   ·cases h
  ·cases h
 ·cases h
theorem aV.RS {P:Program}{N fu:Nat}{H:List (Nat×mn)}{cl:Cl S}{con:cE S}{fn:Func}{c:Code}(hm:P.follows .mixedOrders=true) (hcl:zL P N cl)
  (hf:P.funcs[con.f]?=some fn) (hcall:∀args w,(callFunc con.f args).run P w=.ok (.enter con.f args) w) (hb:fn.body=some c) (hN:fn.ntmps=N)
  (hle:sX N con.args con.aA con.outs=true) (hrg:oz S N H (lD c 0))
  {mvs:List Nat}(h:∀q,HG P N fu H cl c mvs fn.results.toList con.args con.aZ con.aA con.outs q=con.F q):aV P con:=
 ⟨hcall,fun q r hr=>P3 hm hcl hf hb hN hle hrg ((h q).trans hr)⟩
end
end Go.DN
