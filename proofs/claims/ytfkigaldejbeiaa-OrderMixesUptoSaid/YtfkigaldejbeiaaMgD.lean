/-
  DN, second half.
-/
import Derived.Test.YtfkigaldejbeiaaMgG
set_option linter.unusedSectionVars false
set_option linter.unusedSimpArgs false
set_option linter.unusedVariables false
/-
 DN,part O:what a loop or a join carries.
-/
namespace Go.DN
open Go.AM
inductive Sh where
 | ab (f:Bool) (τ:Ty)
 | ptr (f:Bool) (τ:Ty)
 | own (h:Nat) (τ:Ty)
 | loc (h off:Nat)
 | aE (f:FuncId) (l:List Sh)
 | agg (l:List Sh)
 | cq (h:Nat)
 | mp (h:Nat)
 | any
 | lT
 | sub (h:Nat) (τ:Ty)
 | fB (h:Nat) (τ:Ty)
 | ks (h:Nat) (τ:Ty)
inductive Oh where
 | aU (e:TypeId) (m f:Bool) (τ:Ty)
 | box (e:TypeId) (m:Bool) (cs:List Sh)
 | lp (key:Nat) (lv:Bool) (cs:List Sh)
 | deep (e:TypeId) (m f:Bool) (dk:Dk) (τ:Ty)
structure JH where
 aA:List (Nat×Sh)
 aZ:List (Nat×Oh)
mutual
def Sh.dg:Sh→List Ty
 | .ab _ τ=>[τ]
 | .ptr _ τ=>[τ]
 | .own _ _=>[]
 | .loc _ _=>[]
 | .aE _ l=>wH l
 | .agg l=>wH l
 | .cq _=>[]
 | .mp _=>[]
 | .any=>[]
 | .lT=>[.int .i64]
 | .sub _ _=>[.int .i64,.int .i64]
 | .fB _ _=>[.bool,.int .i64,.int .i64]
 | .ks _ _=>[.int .i64,.int .i64]
def wH:List Sh→List Ty
 | []=>[]
 | x::r=>x.dg++wH r
end
def Oh.dg:Oh→List Ty
 | .aU _ _ _ τ=>[.list τ]
 | .box _ _ cs=>wH cs
 | .lp _ lv cs=>match lv with
  | true=>.int .i64::wH cs
  | false=>wH cs
 | .deep _ _ _ _ τ=>[τ]
def iI:List (Nat×Sh)→List Ty
 | []=>[]
 | (_,x)::r=>x.dg++iI r
def Cs:List (Nat×Oh)→List Ty
 | []=>[]
 | (_,x)::r=>x.dg++Cs r
def JH.dg (j:JH):List Ty:=iI j.aA++Cs j.aZ
@[reducible] def bj (α:Nat→Type):List Ty→Type
 | []=>Unit
 | [t]=>t.den α
 | t::r=>t.den α×bj α r
section
variable {S:eC}
def lA:(ts:List Ty)→List (bo S.α)→Option (bj S.α ts)
 | [],[]=>some ()
 | [t],[x]=>ir x.τ t x.a
 | t::u::r,x::xs=>match ir x.τ t x.a with
  | some a=>match lA (u::r) xs with
   | some b=>some (a,b)
   | none=>none
  | none=>none
 | _,_=>none
def leaves:(ts:List Ty)→bj S.α ts→List (bo S.α)
 | [],_=>[]
 | [t],q=>[⟨t,q⟩]
 | t::u::r,q=>⟨t,q.1⟩::leaves (u::r) q.2
theorem fY:∀{ts:List Ty}{xs:List (bo S.α)}{q:bj S.α ts},lA ts xs=some q→leaves ts q=xs
 | [],[],_,_=>rfl
 | [t],[x],q,h=>by
  obtain⟨τ,a⟩:=x
  have:=dW h
  show[(⟨t,q⟩:bo S.α)]=_
  rw[this]
 | t::u::r,x::xs,q,h=>by
  simp only[lA] at h
  split at h
  ·rename_i a h1
   split at h
   ·rename_i b h2
    cases h
    show(⟨t,a⟩:bo S.α)::leaves (u::r) b=_
    rw[fY h2]
    obtain⟨τ,a'⟩:=x
    rw[dW h1]
   ·cases h
  ·cases h
 | [],_::_,_,h=>by cases h
 | [_],[],_,h=>by cases h
 | [_],_::_::_,_,h=>by simp[lA] at h
 | _::_::_,[],_,h=>by cases h
mutual
def kJ:Sh→TV S→Option (List (bo S.α))
 | .ab f τ,v=>match B0 τ v with
  | some (f',a)=>match !f||f' with
   | true=>some [⟨τ,a⟩]
   | false=>none
  | none=>none
 | .ptr f τ,v=>match v with
  | .ptr f' τ' a=>match !f||f' with
   | true=>match ir τ' τ a with
    | some b=>some [⟨τ,b⟩]
    | none=>none
   | false=>none
  | _=>none
 | .own h τ,v=>match v with
  | .aQ h' τ'=>match Nat.beq h' h with
   | true=>match decEq τ' τ with
    | isTrue _=>some []
    | isFalse _=>none
   | false=>none
  | _=>none
 | .loc h o,v=>match v with
  | .loc h' o'=>match Nat.beq h' h&&Nat.beq o' o with
   | true=>some []
   | false=>none
  | _=>none
 | .aE f l,v=>match v with
  | .aE f' vs=>match Nat.beq f' f with
   | true=>pJ l vs
   | false=>none
  | _=>none
 | .agg l,v=>match v with
  | .agg vs=>pJ l vs
  | _=>none
 | .cq h,v=>match v with
  | .cq h'=>match Nat.beq h' h with
   | true=>some []
   | false=>none
  | _=>none
 | .mp h,v=>match v with
  | .mp h'=>match Nat.beq h' h with
   | true=>some []
   | false=>none
  | _=>none
 | .any,_=>some []
 | .lT,v=>match v with
  | .aE f []=>some [⟨.int .i64,(f:Int)⟩]
  | _=>none
 | .sub h τ,v=>match v with
  | .sub h' τ' o n=>match Nat.beq h' h with
   | true=>match decEq τ' τ with
    | isTrue _=>some [⟨.int .i64,(o:Int)⟩,⟨.int .i64,(n:Int)⟩]
    | isFalse _=>none
   | false=>none
  | _=>none
 | .ks h τ,v=>match v with
  | .ks h' τ' z n=>match Nat.beq h' h with
   | true=>match decEq τ' τ with
    | isTrue _=>some [⟨.int .i64,(z:Int)⟩,⟨.int .i64,(n:Int)⟩]
    | isFalse _=>none
   | false=>none
  | _=>none
 | .fB h τ,v=>match v with
  | .val (.pointer none)=>some [⟨.bool,true⟩,⟨.int .i64,(0:Int)⟩,⟨.int .i64,(0:Int)⟩]
  | .kp h' τ' i j=>match Nat.beq h' h with
   | true=>match decEq τ' τ with
    | isTrue _=>some [⟨.bool,false⟩,⟨.int .i64,(i:Int)⟩,⟨.int .i64,(j:Int)⟩]
    | isFalse _=>none
   | false=>none
  | .fB b h' τ' i j=>match Nat.beq h' h with
   | true=>match decEq τ' τ with
    | isTrue _=>some [⟨.bool,b⟩,⟨.int .i64,(i:Int)⟩,⟨.int .i64,(j:Int)⟩]
    | isFalse _=>none
   | false=>none
  | _=>none
def pJ:List Sh→List (TV S)→Option (List (bo S.α))
 | [],[]=>some []
 | sh::r,v::vs=>match kJ sh v with
  | some xs=>match pJ r vs with
   | some ys=>some (xs++ys)
   | none=>none
  | none=>none
 | _,_=>none
end
mutual
def il:Sh→List (bo S.α)→TV S×List (bo S.α)
 | .ab f _,ls=>match ls with
  | x::r=>(.ab f x.τ x.a,r)
  | []=>(.any,[])
 | .ptr f _,ls=>match ls with
  | x::r=>(.ptr f x.τ x.a,r)
  | []=>(.any,[])
 | .own h τ,ls=>(.aQ h τ,ls)
 | .loc h o,ls=>(.loc h o,ls)
 | .aE f l,ls=>(.aE f (cX l ls).1,(cX l ls).2)
 | .agg l,ls=>(.agg (cX l ls).1,(cX l ls).2)
 | .cq h,ls=>(.cq h,ls)
 | .mp h,ls=>(.mp h,ls)
 | .any,ls=>(.any,ls)
 | .lT,ls=>match ls with
  | ⟨.int _,a⟩::r=>(.aE (Int.toNat a) [],r)
  | r=>(.any,r)
 | .sub h τ,ls=>match ls with
  | ⟨.int _,a⟩::⟨.int _,b⟩::r=>(.sub h τ (Int.toNat a) (Int.toNat b),r)
  | r=>(.any,r)
 | .ks h τ,ls=>match ls with
  | ⟨.int _,a⟩::⟨.int _,b⟩::r=>(.ks h τ (Int.toNat a) (Int.toNat b),r)
  | r=>(.any,r)
 | .fB h τ,ls=>match ls with
  | ⟨.bool,b⟩::⟨.int _,i⟩::⟨.int _,j⟩::r=>(.fB b h τ (Int.toNat i) (Int.toNat j),r)
  | r=>(.any,r)
def cX:List Sh→List (bo S.α)→List (TV S)×List (bo S.α)
 | [],ls=>([],ls)
 | sh::r,ls=>((il sh ls).1::(cX r (il sh ls).2).1,(cX r (il sh ls).2).2)
end
theorem RW.any (g:G):RW g .any:=fun _ _ _ _ _ _=>.aG (.any _)
theorem RW.aE {f:FuncId}{gs gs':List G}(hl:gs'.length=gs.length) (h:∀(j:Nat) (g':G),gs'[j]?=some g'→∃g,gs[j]?=some g∧RW g g'):RW (.aE f gs) (.aE f gs'):=by
 intro O base w μ v hv
 cases hv with
 | aG hv=>cases hv
 | aE _ _ us h1 h2=>exact .aE f _ us (h1.trans hl.symm) fun j g' v hg' hv=>(by
   obtain⟨g,hg,hw⟩:=h j g' hg'
   exact hw _ _ _ _ _ (h2 j g v hg hv))
theorem RW.ab (f f':Bool) (τ:Ty) (a:S.D τ) (hc:(!f||f')=true):RW (nk f' τ a) (nk f τ a):=by
 cases f with
 | true=>
  have:f'=true:=by simpa using hc
  subst this
  exact RW.refl _
 | false=>
  unfold nk
  split
  ·rename_i n a
   refine RW.agg (by simp) fun j g' hg'=>?_
   rw[ay] at hg'⊢
   obtain⟨g,hg,rfl⟩:=au.1 hg'
   exact⟨_,by rw[hg];rfl,RW.dq _ _ _ (fun e=>by cases e)⟩
  ·exact RW.dq _ _ _ (fun e=>by cases e)
theorem RW.SA (f f':Bool) (τ:Ty) (a:S.D τ) (hc:(!f||f')=true):RW (NL f' τ a) (NL f τ a):=by
 cases f with
 | true=>
  have:f'=true:=by simpa using hc
  subst this
  exact RW.refl _
 | false=>
  cases f' with
  | false=>exact RW.refl _
  | true=>exact RW.QM (.ptr (aL S τ a))
theorem Pk {ln:Nat→Nat}{vs vs':List (TV S)}(hl:vs'.length=vs.length) (h:∀(j:Nat) (v':TV S),vs'[j]?=some v'→∃v,vs[j]?=some v∧RW (v.er ln) (v'.er ln)):
  (TV.er.go ln vs').length=(TV.er.go ln vs).length∧∀(j:Nat) (g':G),(TV.er.go ln vs')[j]?=some g'→∃g,(TV.er.go ln vs)[j]?=some g∧RW g g':=by
 rw[cR,cR]
 refine⟨by simp[hl],fun j g' hg'=>?_⟩
 rw[ay] at hg'
 obtain⟨v',h1,rfl⟩:=au.1 hg'
 obtain⟨v,h2,h3⟩:=h j v' h1
 exact⟨v.er ln,by rw[ay,h2];rfl,h3⟩
mutual
theorem A3 (ln:Nat→Nat):∀{sh:Sh}{v:TV S}{xs:List (bo S.α)},kJ sh v=some xs→∀(r:List (bo S.α)),(il sh (xs++r)).2=r∧RW (v.er ln) ((il sh (xs++r)).1.er ln)
 | .ab f τ,v,xs,h,r=>by
  simp only[kJ] at h
  split at h
  ·rename_i f' a ha
   split at h
   ·rename_i hc
    cases h
    exact⟨rfl,(QO ha ln).trans (RW.ab _ _ _ _ hc)⟩
   ·cases h
  ·cases h
 | .ptr f τ,v,xs,h,r=>by
  simp only[kJ] at h
  split at h
  ·rename_i f' τ' a
   split at h
   ·rename_i hc
    split at h
    ·rename_i b hb
     cases h
     have:=dW hb
     cases this
     exact⟨rfl,RW.SA _ _ _ _ hc⟩
    ·cases h
   ·cases h
  ·cases h
 | .own h0 τ,v,xs,h,r=>by
  simp only[kJ] at h
  split at h
  ·split at h
   ·rename_i hb
    split at h
    ·rename_i e _
     cases h
     subst e
     have:=aa hb
     subst this
     exact⟨rfl,RW.refl _⟩
    ·cases h
   ·cases h
  ·cases h
 | .loc h0 o,v,xs,h,r=>by
  simp only[kJ] at h
  split at h
  ·split at h
   ·rename_i hb
    simp only[aj] at hb
    cases h
    have e1:=aa hb.1
    have e2:=aa hb.2
    subst e1;subst e2
    exact⟨rfl,RW.refl _⟩
   ·cases h
  ·cases h
 | .aE f l,v,xs,h,r=>by
  simp only[kJ] at h
  split at h
  ·rename_i f' vs
   split at h
   ·rename_i hb
    have e:=aa hb
    subst e
    obtain⟨i1,i2,i3⟩:=qE ln h r
    obtain⟨j1,j2⟩:=Pk i2 i3
    exact⟨i1,RW.aE j1 j2⟩
   ·cases h
  ·cases h
 | .agg l,v,xs,h,r=>by
  simp only[kJ] at h
  split at h
  ·rename_i vs
   obtain⟨i1,i2,i3⟩:=qE ln h r
   obtain⟨j1,j2⟩:=Pk i2 i3
   exact⟨i1,RW.agg j1 j2⟩
  ·cases h
 | .cq h0,v,xs,h,r=>by
  simp only[kJ] at h
  split at h
  ·split at h
   ·rename_i hb
    cases h
    have:=aa hb
    subst this
    exact⟨rfl,RW.refl _⟩
   ·cases h
  ·cases h
 | .mp h0,v,xs,h,r=>by
  simp only[kJ] at h
  split at h
  ·split at h
   ·rename_i hb
    cases h
    have:=aa hb
    subst this
    exact⟨rfl,RW.refl _⟩
   ·cases h
  ·cases h
 | .any,v,xs,h,r=>by
  simp only[kJ] at h
  cases h
  exact⟨rfl,RW.any _⟩
 | .lT,v,xs,h,r=>by
  simp only[kJ] at h
  split at h
  ·cases h
   exact⟨rfl,RW.refl _⟩
  ·cases h
 | .sub h0 τ,v,xs,h,r=>by
  simp only[kJ] at h
  split at h
  ·split at h
   ·rename_i hb
    split at h
    ·rename_i e _
     cases h
     subst e
     have:=aa hb
     subst this
     exact⟨rfl,RW.refl _⟩
    ·cases h
   ·cases h
  ·cases h
 | .ks h0 τ,v,xs,h,r=>by
  simp only[kJ] at h
  split at h
  ·split at h
   ·rename_i hb
    split at h
    ·rename_i e _
     cases h
     subst e
     have:=aa hb
     subst this
     exact⟨rfl,RW.refl _⟩
    ·cases h
   ·cases h
  ·cases h
 | .fB h0 τ,v,xs,h,r=>by
  simp only[kJ] at h
  split at h
  ·cases h
   exact⟨rfl,RW.refl _⟩
  ·split at h
   ·rename_i hb
    split at h
    ·rename_i e _
     cases h
     subst e
     have:=aa hb
     subst this
     exact⟨rfl,RW.refl _⟩
    ·cases h
   ·cases h
  ·split at h
   ·rename_i hb
    split at h
    ·rename_i e _
     cases h
     subst e
     have:=aa hb
     subst this
     exact⟨rfl,RW.refl _⟩
    ·cases h
   ·cases h
  ·cases h
theorem qE (ln:Nat→Nat):∀{l:List Sh}{vs:List (TV S)}{xs:List (bo S.α)},pJ l vs=some xs→∀(r:List (bo S.α)),(cX l (xs++r)).2=r∧(cX l (xs++r)).1.length=vs.length∧
  ∀(j:Nat) (v':TV S),(cX l (xs++r)).1[j]?=some v'→∃v,vs[j]?=some v∧RW (v.er ln) (v'.er ln)
 | [],[],xs,h,r=>by simp only[pJ] at h;cases h;exact⟨rfl,rfl,fun j v' h=>by cases h⟩
 | sh::l,v::vs,xs,h,r=>by
  simp only[pJ] at h
  split at h
  ·rename_i x1 h1
   split at h
   ·rename_i ys h2
    cases h
    rw[aC]
    obtain⟨e1,e2⟩:=A3 ln h1 (ys++r)
    obtain⟨i1,i2,i3⟩:=qE ln h2 r
    simp only[cX]
    rw[e1]
    refine⟨i1,by simp[i2],fun j v' hj=>?_⟩
    cases j with
    | zero=>cases hj;exact⟨v,rfl,e2⟩
    | succ j=>exact i3 j v' hj
   ·cases h
  ·cases h
 | [],_::_,_,h,_=>by simp[pJ] at h
 | _::_,[],_,h,_=>by simp[pJ] at h
end
def Ci (fr:List (Nat×TV S)):List (Nat×Sh)→Option (List (bo S.α))
 | []=>some []
 | (d,sh)::r=>match bc fr d with
  | some v=>match kJ sh v with
   | some xs=>match Ci fr r with
    | some ys=>some (xs++ys)
    | none=>none
   | none=>none
  | none=>none
def cv:List (Nat×Sh)→List (bo S.α)→List (Nat×TV S)×List (bo S.α)
 | [],ls=>([],ls)
 | (d,sh)::r,ls=>((d,(il sh ls).1)::(cv r (il sh ls).2).1,(cv r (il sh ls).2).2)
theorem wP {fr:List (Nat×TV S)}(ln:Nat→Nat):∀{l:List (Nat×Sh)}{xs:List (bo S.α)},Ci fr l=some xs→∀(r:List (bo S.α)),(cv l (xs++r)).2=r∧
  ∀d v',bc (cv l (xs++r)).1 d=some v'→∃v,bc fr d=some v∧RW (v.er ln) (v'.er ln)
 | [],xs,h,r=>by cases h;exact⟨rfl,fun d v' h=>by cases h⟩
 | (d0,sh)::l,xs,h,r=>by
  simp only[Ci] at h
  split at h
  ·rename_i v hv
   split at h
   ·rename_i x1 h1
    split at h
    ·rename_i ys h2
     cases h
     rw[aC]
     obtain⟨e1,e2⟩:=A3 ln h1 (ys++r)
     obtain⟨i1,i2⟩:=wP ln h2 r
     simp only[cv]
     rw[e1]
     refine⟨i1,fun d v' hd=>?_⟩
     simp only[bc] at hd
     cases hb:Nat.beq d0 d with
     | true=>
      rw[hb] at hd
      cases hd
      have:=aa hb
      subst this
      exact⟨v,hv,e2⟩
     | false=>rw[hb] at hd;exact i2 d v' hd
    ·cases h
   ·cases h
  ·cases h
def JD:Ty→Bool
 | .list (.list t)=>t.fX
 | .map=>true
 | _=>false
def Kz (oh:Oh) (o:TO S):Option (List (bo S.α)):=
 match oh with
 | .aU e m f τ=>match o with
  | .aU e' m' f' τ' l=>match Nat.beq e' e&&((!m||m')&&(!f||(f'||τ'.fX))) with
   | true=>match ir (.list τ') (.list τ) l with
    | some l=>some [⟨.list τ,l⟩]
    | none=>none
   | false=>none
  | _=>none
 | .box e m cs=>match o with
  | .box e' m' vs=>match Nat.beq e' e&&(!m||m') with
   | true=>pJ cs vs
   | false=>none
  | _=>none
 | .lp key lv cs=>match o with
  | .lp key' n vs=>match Nat.beq key' key with
   | true=>match lv with
    | true=>match pJ cs vs with
     | some xs=>some (⟨.int .i64,n⟩::xs)
     | none=>none
    | false=>match decEq n 0 with
     | isTrue _=>pJ cs vs
     | isFalse _=>none
   | false=>none
  | _=>none
 | .deep e m f dk τ=>match o with
  | .deep e' m' f' dk' τ' a=>match Nat.beq e' e&&((!m||m')&&(!f||(f'||JD τ'))) with
   | true=>match decEq dk' dk with
    | isTrue _=>match ir τ' τ a with
     | some a=>some [⟨τ,a⟩]
     | none=>none
    | isFalse _=>none
   | false=>none
  | _=>none
def kU (oh:Oh) (ls:List (bo S.α)):TO S×List (bo S.α):=
 match oh with
 | .aU e m f _=>match ls with
  | ⟨.list τ,l⟩::r=>(.aU e m f τ l,r)
  | r=>(.box e m [],r)
 | .box e m cs=>(.box e m (cX cs ls).1,(cX cs ls).2)
 | .lp key lv cs=>match lv with
  | true=>match ls with
   | ⟨.int _,n⟩::r=>(.lp key n (cX cs r).1,(cX cs r).2)
   | r=>(.box 0 false [],r)
  | false=>(.lp key 0 (cX cs ls).1,(cX cs ls).2)
 | .deep e m f dk _=>match ls with
  | x::r=>(.deep e m f dk x.τ x.a,r)
  | r=>(.box e m [],r)
theorem K0 {st st':List (Nat×ap)}{vs vs':List (TV S)}(ln ln':Nat→Nat) (hl:vs'.length=vs.length) (h:∀(j:Nat) (v':TV S),vs'[j]?=some v'→∃v,vs[j]?=some v∧CV st st' (v.er ln) (v'.er ln')):II st st' (TV.er.go ln vs) (TV.er.go ln' vs'):=by
 rw[cR,cR]
 refine⟨by simp[hl],fun j g' hg'=>?_⟩
 rw[ay] at hg'
 obtain⟨v',h1,rfl⟩:=au.1 hg'
 obtain⟨v,h2,h3⟩:=h j v' h1
 exact⟨v.er ln,by rw[ay,h2];rfl,h3⟩
theorem E1 {τ:Ty}(hs:τ.fX=true):∀(l:List (S.D τ)) (g:G),g∈List.flatMap (aL S τ) l→∃v,g=.val v
 | l,g,hg=>by
  obtain⟨a,_,hg⟩:=hZ.1 hg
  cases τ with
  | int _=>exact⟨_,cC.1 hg⟩
  | bool=>exact⟨_,cC.1 hg⟩
  | str=>exact⟨_,cC.1 hg⟩
  | list _=>cases hs
  | st _=>cases hs
  | map=>cases hs
theorem IS (dk:Dk) (e:TypeId){τ:Ty}(hs:JD τ=true) (a:S.D τ) (O O':Nat→Prop) (w:World) (b:Nat) (m:Mm) (h:(dk.dp e τ a).φ O w b m):(dk.dp e τ a).φ O' w b m:=by
 cases dk with
 | dG kty=>
  obtain⟨cs,h⟩:=h
  refine⟨cs,{len:=h.len,root:=h.root,inj:=h.inj,heap:=h.heap,size:=h.size,le:=h.le,max:=h.max,row:=fun i n gs hi=>?_}⟩
  obtain⟨u,x,h1,h2,h3⟩:=h.row i n gs hi
  refine⟨u,x,h1,h2,?_⟩
  cases x with
  | none=>exact h3
  | some ck=>
   obtain⟨cap,cs',q1,q2,q3,q4,q5,q6,q7,q8⟩:=h3
   refine⟨cap,cs',q1,q2,q3,q4,q5,q6,q7,fun j g hg=>?_⟩
   obtain⟨v,hv,hr⟩:=q8 j g hg
   refine⟨v,hv,?_⟩
   cases τ with
   | list t=>cases t with
    | list t=>
     have hi:(List.map (fun l=>(List.length l,List.flatMap (aL S t) l)) a)[i]?=some (n,gs):=hi
     rw[ay] at hi
     obtain⟨l,_,e⟩:=au.1 hi
     cases e
     obtain⟨u,rfl⟩:=E1 (τ:=t) hs l g (ar hg)
     cases hr
     exact .val _
    | _=>cases hs
   | map=>
    have hi:([]:List (Nat×List G))[i]?=some (n,gs):=hi
    simp at hi
   | _=>cases hs
 | rows kty ho=>
  obtain⟨cs,h⟩:=h
  have hno:(Ft τ a).2.2=[]:=by
   cases τ with
   | list t=>cases t with
    | list t=>rfl
    | _=>cases hs
   | map=>rfl
   | _=>cases hs
  refine⟨cs,{len:=h.len,root:=h.root,inj:=h.inj,heap:=h.heap,size:=h.size,le:=h.le,max:=h.max,row:=fun i n gs hi _=>?_,hole:=h.hole}⟩
  rw[hno] at hi
  cases hi
 | map q kty tty=>
  have h:Aa q kty tty (mapOf τ a).n ((mapOf τ a).es.map (bP.me q)) (vK q (mapOf τ a).pd) O w b m:=h
  show Aa q kty tty (mapOf τ a).n ((mapOf τ a).es.map (bP.me q)) (vK q (mapOf τ a).pd) O' w b m
  have val:∀(l:List Int) (j:Nat) (g:G) (v:Value),(gE q l)[j]?=some g→bA O w g v→bA O' w g v:=by
   intro l j g v hg hr
   unfold gE at hg
   rw[ay] at hg
   obtain⟨x,_,rfl⟩:=au.1 hg
   cases hr
   exact .val _
  refine {len:=h.len,tM:=h.tM,vE:=h.vE,heap:=h.heap,root:=h.root,od:=fun e he=>?_,inj:=h.inj,xT:=fun sr x gs hp=>?_}
  ·obtain⟨c,cs,h1,h2,h3,h4⟩:=h.od e he
   refine⟨c,cs,h1,h2,h3,fun j p hp=>?_⟩
   obtain⟨u,h5,h6⟩:=h4 j p hp
   refine⟨u,h5,?_⟩
   obtain⟨e0,_,rfl⟩:=iX.1 he
   have hp:(e0.f.map fun p=>(p.1,gE q p.2))[j]?=some p:=hp
   rw[ay] at hp
   obtain⟨p0,_,rfl⟩:=au.1 hp
   refine h6.imp id fun ⟨h0,c',k',r1,cap,cs',q1,q2,q3,q4,q5,q6,q7,q8⟩=>⟨h0,c',k',r1,cap,cs',q1,q2,q3,q4,q5,q6,q7,fun j g hg=>?_⟩
   obtain⟨v,hv,hr⟩:=q8 j g hg
   exact⟨v,hv,val _ _ _ _ hg hr⟩
  ·obtain⟨h0,⟨c,k,cs,h1,h2,h3,h4,h5,h6⟩,h7⟩:=h.xT sr x gs hp
   refine⟨h0,⟨c,k,cs,h1,h2,h3,h4,h5,fun i g hg=>?_⟩,h7⟩
   obtain⟨v,hv,hr⟩:=h6 i g hg
   refine⟨v,hv,?_⟩
   cases hd:(mapOf τ a).pd with
   | none=>rw[hd] at hp;cases hp
   | some p=>
    obtain⟨sr',x',l⟩:=p
    rw[hd] at hp
    cases hp
    exact val _ _ _ _ hg hr
theorem Iv {a b:Bool}(h:(!a||b)=true) (ha:a=true):b=true:=by subst ha;simpa using h
theorem NP {st st':List (Nat×ap)}{oh:Oh}{o:TO S}{xs:List (bo S.α)}(h:Kz oh o=some xs) (ln:Nat→Nat) (r:List (bo S.α)):(kU oh (xs++r)).2=r∧(kU oh (xs++r)).1.len=o.len∧ox st st' (o.er ln) ((kU oh (xs++r)).1.er ln):=by
 unfold Kz at h
 split at h
 ·split at h
  ·split at h
   ·rename_i hc
    simp only[aj] at hc
    obtain⟨c1,c2,c3⟩:=hc
    split at h
    ·rename_i l' hl
     cases h
     obtain⟨e,hl⟩:=nP hl
     subst e
     cases hl
     have c1:=aa c1
     subst c1
     refine⟨rfl,rfl,rfl,Iv c2,rfl,rfl,rfl,rfl,.inl ⟨rfl,rfl,fun hf=>?_⟩⟩
     have c4:=Iv c3 hf
     rw[dC] at c4
     exact c4.imp id fun hs=>.inl ⟨rfl,E1 hs _⟩
    ·cases h
   ·cases h
  ·cases h
 ·split at h
  ·split at h
   ·rename_i hc
    simp only[aj] at hc
    have c1:=aa hc.1
    have c2:=hc.2
    subst c1
    obtain⟨i1,i2,i3⟩:=qE ln h r
    refine⟨i1,rfl,rfl,Iv c2,rfl,rfl,rfl,?_,.inr ⟨rfl,?_⟩⟩
    ·show(TV.er.go ln _).length=(TV.er.go ln _).length
     rw[cR,cR,a5,a5,i2]
    ·exact(K0 ln ln i2 fun j v' hj=>let ⟨v,h1,h2⟩:=i3 j v' hj;⟨v,h1,CV.rw h2⟩).2
   ·cases h
  ·cases h
 ·split at h
  ·split at h
   ·rename_i hc
    have c1:=aa hc
    subst c1
    split at h
    ·split at h
     ·rename_i xs' hx
      cases h
      obtain⟨i1,i2,i3⟩:=qE ln hx r
      refine⟨i1,rfl,rfl,id,rfl,rfl,rfl,?_,.inr ⟨rfl,?_⟩⟩
      ·show(TV.er.go ln _).length=(TV.er.go ln _).length
       rw[cR,cR,a5,a5]
       exact i2
      ·exact(K0 ln ln i2 fun j v' hj=>let ⟨v,h1,h2⟩:=i3 j v' hj;⟨v,h1,CV.rw h2⟩).2
     ·cases h
    ·split at h
     ·rename_i hn _
      subst hn
      obtain⟨i1,i2,i3⟩:=qE ln h r
      refine⟨i1,rfl,rfl,id,rfl,rfl,rfl,?_,.inr ⟨rfl,?_⟩⟩
      ·show(TV.er.go ln _).length=(TV.er.go ln _).length
       rw[cR,cR,a5,a5,i2]
      ·exact(K0 ln ln i2 fun j v' hj=>let ⟨v,h1,h2⟩:=i3 j v' hj;⟨v,h1,CV.rw h2⟩).2
     ·cases h
   ·cases h
  ·cases h
 ·split at h
  ·rename_i e' m' f' dk' τ' a
   split at h
   ·rename_i hc
    simp only[aj] at hc
    obtain⟨c1,c2,c3⟩:=hc
    split at h
    ·rename_i e1 _
     subst e1
     split at h
     ·rename_i a' ha
      cases h
      cases dW ha
      have c1:=aa c1
      subst c1
      refine⟨rfl,rfl,rfl,Iv c2,rfl,rfl,rfl,rfl,.inl ⟨rfl,rfl,fun hf=>?_⟩⟩
      have c4:=Iv c3 hf
      rw[dC] at c4
      exact c4.imp id fun hs=>.inr ⟨_,rfl,fun O O' w b m=>IS _ _ hs _ O O' w b m⟩
     ·cases h
    ·cases h
   ·cases h
  ·cases h
def wM (st:List (Nat×TO S)):List (Nat×Oh)→Option (List (bo S.α))
 | []=>some []
 | (h,oh)::r=>match aw st h with
  | some o=>match Kz oh o with
   | some xs=>match wM st r with
    | some ys=>some (xs++ys)
    | none=>none
   | none=>none
  | none=>none
def ca:List (Nat×Oh)→List (bo S.α)→List (Nat×TO S)×List (bo S.α)
 | [],ls=>([],ls)
 | (h,oh)::r,ls=>((h,(kU oh ls).1)::(ca r (kU oh ls).2).1,(ca r (kU oh ls).2).2)
theorem A4 {st:List (Nat×TO S)}(ln:Nat→Nat) (gst gst':List (Nat×ap)):∀{l:List (Nat×Oh)}{xs:List (bo S.α)},wM st l=some xs→∀(r:List (bo S.α)),(ca l (xs++r)).2=r∧
  (∀h,(∃o',aw (ca l (xs++r)).1 h=some o')∨(aw (ca l (xs++r)).1 h=none∧h∉l.map (·.1)))∧
  ∀h o',aw (ca l (xs++r)).1 h=some o'→∃o,aw st h=some o∧o'.len=o.len∧ox gst gst' (o.er ln) (o'.er ln)
 | [],xs,h,r=>by
  cases h
  refine⟨rfl,fun h=>.inr (And.intro rfl (fun e=>nomatch e)),fun d v' h=>nomatch h⟩
 | (h0,oh)::l,xs,h,r=>by
  simp only[wM] at h
  split at h
  ·rename_i o ho
   split at h
   ·rename_i x1 h1
    split at h
    ·rename_i ys h2
     cases h
     rw[aC]
     obtain⟨e1,e2,e3⟩:=NP (st:=gst) (st':=gst') h1 ln (ys++r)
     obtain⟨i1,i2,i3⟩:=A4 ln gst gst' h2 r
     simp only[ca]
     rw[e1]
     refine⟨i1,fun h=>?_,fun h o' hd=>?_⟩
     ·simp only[aw]
      cases hb:Nat.beq h0 h with
      | true=>exact .inl ⟨_,rfl⟩
      | false=>
       rcases i2 h with h3 | ⟨h3,h4⟩
       ·exact .inl h3
       ·refine .inr ⟨h3,?_⟩
        simp only[aI,aX,not_or]
        exact⟨fun e=>(by subst e;rw[aH] at hb;cases hb),h4⟩
     ·simp only[aw] at hd
      cases hb:Nat.beq h0 h with
      | true=>
       rw[hb] at hd
       cases hd
       have:=aa hb
       subst this
       exact⟨o,ho,e2,e3⟩
      | false=>rw[hb] at hd;exact i3 h o' hd
    ·cases h
   ·cases h
  ·cases h
end
end Go.DN
/-
 DN,part P:into a loop or a join,and out of it.
-/
namespace Go.DN
open Go.AM
section
variable {S:eC}
def TV.bad (ks:List Nat):TV S→Bool
 | .aQ h _=>!(br h ks)
 | .agg l=>go ks l
 | .bj l=>go ks l
 | .aE _ l=>go ks l
 | _=>false
where go (ks:List Nat):List (TV S)→Bool
 | []=>false
 | x::r=>x.bad ks||go ks r
mutual
theorem li {ln ln':Nat→Nat}{ks:List Nat}(h:∀k,k∈ks→ln k=ln' k):∀v:TV S,v.bad ks=false→v.er ln=v.er ln'
 | .ab f τ a,_=>rfl
 | .ptr f τ a,_=>rfl
 | .agg l,e=>congrArg G.agg (oP h l e)
 | .bj l,e=>congrArg G.bj (oP h l e)
 | .aE f l,e=>congrArg (G.aE f) (oP h l e)
 | .loc _ _,_=>rfl
 | .gI _ _ _ _,_=>rfl
 | .aQ k τ,e=>congrArg (G.aQ k (S.sz τ) 0) (h k (bO.1 (by simpa[TV.bad] using e)))
 | .sub _ _ _ _,_=>rfl
 | .cq _,_=>rfl
 | .mp _,_=>rfl
 | .ks _ _ _ _,_=>rfl
 | .kp _ _ _ _,_=>rfl
 | .fB _ _ _ _ _,_=>rfl
 | .val _,_=>rfl
 | .any,_=>rfl
theorem oP {ln ln':Nat→Nat}{ks:List Nat}(h:∀k,k∈ks→ln k=ln' k):∀l:List (TV S),TV.bad.go ks l=false→TV.er.go ln l=TV.er.go ln' l
 | [],_=>rfl
 | x::r,e=>by
  simp only[TV.bad.go,bE] at e
  simp only[TV.er.go]
  rw[li h x e.1,oP h r e.2]
end
def TO.bad (ks:List Nat):TO S→Bool
 | .box _ _ cs=>TV.bad.go ks cs
 | .aU ..=>false
 | .lp _ _ cs=>TV.bad.go ks cs
 | .deep ..=>false
theorem TO.li {ln ln':Nat→Nat}{ks:List Nat}(h:∀k,k∈ks→ln k=ln' k) (o:TO S) (e:o.bad ks=false):o.er ln=o.er ln':=by
 cases o with
 | box e' m cs=>simp only[TO.er];rw[oP h cs e]
 | aU e' m f τ l=>rfl
 | lp p n cs=>simp only[TO.er];rw[oP h cs e]
 | deep=>rfl
def cc {α:Type}(D:List Nat):List (Nat×α)→List (Nat×α)
 | []=>[]
 | x::r=>match br x.1 D with
  | true=>cc D r
  | false=>x::cc D r
theorem jK {D:List Nat}:∀{fr:List (Nat×TV S)}{d:Nat},bc (cc D fr) d=match br d D with | true=>none | false=>bc fr d
 | [],d=>by simp only[cc,bc];cases br d D <;> rfl
 | (t,v)::r,d=>by
  simp only[cc]
  cases hb:Nat.beq t d with
  | true=>
   have:=aa hb
   subst this
   cases hm:br t D with
   | true=>simp only;rw[jK,hm]
   | false=>simp only[bc,hb,cond_true]
  | false=>
   cases hm:br t D with
   | true=>simp only;rw[jK];simp only[bc,hb,cond_false]
   | false=>simp only[bc,hb,cond_false];exact jK
theorem iZ {D:List Nat}:∀{st:List (Nat×TO S)}{d:Nat},aw (cc D st) d=match br d D with | true=>none | false=>aw st d
 | [],d=>by simp only[cc,aw];cases br d D <;> rfl
 | (t,v)::r,d=>by
  simp only[cc]
  cases hb:Nat.beq t d with
  | true=>
   have:=aa hb
   subst this
   cases hm:br t D with
   | true=>simp only;rw[iZ,hm]
   | false=>simp only[aw,hb,cond_true]
  | false=>
   cases hm:br t D with
   | true=>simp only;rw[iZ];simp only[aw,hb,cond_false]
   | false=>simp only[aw,hb,cond_false];exact iZ
mutual
def Sh.owns:Sh→List Nat
 | .ab _ _=>[]
 | .ptr _ _=>[]
 | .own h _=>[h]
 | .loc _ _=>[]
 | .aE _ l=>rH l
 | .agg l=>rH l
 | .cq _=>[]
 | .mp _=>[]
 | .any=>[]
 | .lT=>[]
 | .sub _ _=>[]
 | .fB _ _=>[]
 | .ks _ _=>[]
def rH:List Sh→List Nat
 | []=>[]
 | x::r=>x.owns++rH r
end
def mP:List (Nat×Sh)→List Nat
 | []=>[]
 | (_,x)::r=>x.owns++mP r
def Oh.owns:Oh→List Nat
 | .aU ..=>[]
 | .box _ _ cs=>rH cs
 | .lp _ _ cs=>rH cs
 | .deep ..=>[]
def ph:List (Nat×Oh)→List Nat
 | []=>[]
 | (_,x)::r=>x.owns++ph r
mutual
theorem xm (ks:List Nat):∀(sh:Sh) (ls:List (bo S.α)),(∀k,k∈sh.owns→k∈ks)→(il sh ls).1.bad ks=false
 | .ab f τ,ls,_=>by cases ls <;> rfl
 | .ptr f τ,ls,_=>by cases ls <;> rfl
 | .own k τ,ls,h=>by
  show(!(br k ks))=false
  rw[bO.2 (h k (by simp[Sh.owns]))];rfl
 | .loc _ _,ls,_=>rfl
 | .aE f l,ls,h=>nL ks l ls h
 | .agg l,ls,h=>nL ks l ls h
 | .cq _,ls,_=>rfl
 | .mp _,ls,_=>rfl
 | .any,ls,_=>rfl
 | .lT,ls,_=>by
  simp only[il]
  split <;> rfl
 | .sub _ _,ls,_=>by
  simp only[il]
  split <;> rfl
 | .ks _ _,ls,_=>by
  simp only[il]
  split <;> rfl
 | .fB _ _,ls,_=>by
  simp only[il]
  split <;> rfl
theorem nL (ks:List Nat):∀(l:List Sh) (ls:List (bo S.α)),(∀k,k∈rH l→k∈ks)→TV.bad.go ks (cX l ls).1=false
 | [],_,_=>rfl
 | sh::r,ls,hk=>by
  simp only[cX,TV.bad.go,xm ks sh ls fun k hk'=>hk k (by simp[rH,hk']),nL ks r _ fun k hk'=>hk k (by simp[rH,hk']),Bool.or_self]
end
theorem CO (ks:List Nat):∀(l:List (Nat×Sh)) (ls:List (bo S.α)),(∀k,k∈mP l→k∈ks)→∀d v,bc (cv l ls).1 d=some v→v.bad ks=false
 | [],ls,_,d,v,h=>by cases h
 | (d0,sh)::r,ls,hk,d,v,h=>by
  simp only[cv,bc] at h
  cases hb:Nat.beq d0 d with
  | true=>rw[hb] at h;cases h;exact xm ks sh ls fun k hk'=>hk k (by simp[mP,hk'])
  | false=>rw[hb] at h;exact CO ks r _ (fun k hk'=>hk k (by simp[mP,hk'])) d v h
theorem K5 (ks:List Nat) (oh:Oh) (ls:List (bo S.α)) (h:∀k,k∈oh.owns→k∈ks):(kU oh ls).1.bad ks=false:=by
 cases oh with
 | aU e m f τ=>
  unfold kU
  dsimp only
  split <;> rfl
 | box e m cs=>exact nL ks cs ls h
 | lp key lv cs=>
  unfold kU
  dsimp only
  split
  ·split
   ·exact nL ks cs _ h
   ·rfl
  ·exact nL ks cs ls h
 | deep e m f dk τ=>
  unfold kU
  dsimp only
  split <;> rfl
theorem sU (ks:List Nat):∀(l:List (Nat×Oh)) (ls:List (bo S.α)),(∀k,k∈ph l→k∈ks)→∀h o,aw (ca l ls).1 h=some o→o.bad ks=false
 | [],ls,_,d,v,h=>by cases h
 | (d0,oh)::r,ls,hk,d,v,h=>by
  simp only[ca,aw] at h
  cases hb:Nat.beq d0 d with
  | true=>rw[hb] at h;cases h;exact K5 ks oh ls fun k hk'=>hk k (by simp[ph,hk'])
  | false=>rw[hb] at h;exact sU ks r _ (fun k hk'=>hk k (by simp[ph,hk'])) d v h
theorem told {t u:ah S}{aA:List (Nat×Sh)}{aZ:List (Nat×Oh)}{xs ys:List (bo S.α)}{F':List (Nat×TV S)}{O':List (Nat×TO S)}{ks:List Nat}
  (hp:Ci t.bW aA=some xs) (hq:wM t.bg aZ=some ys) (hf:u.bW=(cv aA (xs++ys)).1++F') (ho:u.bg=(ca aZ ys).1++O')
  (hF:∀d v,bc F' d=some v→bc t.bW d=some v∧v.bad ks=false) (hO:∀h o,aw O' h=some o→aw t.bg h=some o∧o.bad ks=false)
  (hk:∀k,k∈ks→t.ln k=u.ln k) (h1:∀k,k∈mP aA→k∈ks) (h2:∀k,k∈ph aZ→k∈ks) (hdf:u.df=t.df) (hdg:TV.bad.go ks t.df=false):Gh t.er u.er:=by
 obtain⟨p1,p2⟩:=wP t.ln hp ys
 obtain⟨q1,_,q2⟩:=A4 t.ln t.er.st u.er.st hq []
 rw[b9] at q2
 refine Gh.rp (fun d v' hv'=>?_) (fun h o' ho'=>?_) ?_
 ·rw[hf,jX] at hv'
  split at hv'
  ·rename_i v1 e
   cases hv'
   obtain⟨v,e1,e2⟩:=p2 d _ e
   refine⟨v,e1,CV.rw ?_⟩
   rw[←li hk _ (CO ks aA _ h1 d _ e)]
   exact e2
  ·obtain⟨e1,e2⟩:=hF d v' hv'
   refine⟨v',e1,?_⟩
   rw[li hk v' e2]
   exact CV.refl _ _ _
 ·rw[ho,db] at ho'
  split at ho'
  ·rename_i v1 e
   cases ho'
   obtain⟨o,e1,e2,e3⟩:=q2 h _ e
   refine⟨o,e1,?_⟩
   rw[←TO.li hk _ (sU ks aZ _ h2 h _ e)]
   exact e3
  ·obtain⟨e1,e2⟩:=hO h o' ho'
   refine⟨o',e1,?_⟩
   rw[TO.li hk o' e2]
   exact ox.refl _ _ _
 ·rw[hdf]
  exact oP hk _ hdg
def ri (ks:List Nat):List (Nat×TV S)→List Nat
 | []=>[]
 | (t,v)::r=>match v.bad ks with
  | true=>t::ri ks r
  | false=>ri ks r
def rh (ks:List Nat):List (Nat×TO S)→List Nat
 | []=>[]
 | (t,o)::r=>match o.bad ks with
  | true=>t::rh ks r
  | false=>rh ks r
def stay (H:List Nat):List (Nat×TO S)→List Nat
 | []=>[]
 | (t,o)::r=>match o with
  | .aU ..=>match br t H with
   | true=>stay H r
   | false=>t::stay H r
  | .deep ..=>match br t H with
   | true=>stay H r
   | false=>t::stay H r
  | _=>stay H r
theorem xI {ks:List Nat}:∀{fr:List (Nat×TV S)}{d:Nat}{v:TV S},bc fr d=some v→br d (ri ks fr)=false→v.bad ks=false
 | [],_,_,h,_=>by cases h
 | (t,v')::r,d,v,h,hm=>by
  simp only[bc] at h
  simp only[ri] at hm
  cases hb:v'.bad ks with
  | true=>
   rw[hb] at hm
   simp only[br] at hm
   cases ht:Nat.beq t d with
   | true=>rw[ht] at hm;cases hm
   | false=>rw[ht] at hm h;exact xI h hm
  | false=>
   rw[hb] at hm
   cases ht:Nat.beq t d with
   | true=>rw[ht] at h;cases h;exact hb
   | false=>rw[ht] at h;exact xI h hm
theorem xH {ks:List Nat}:∀{st:List (Nat×TO S)}{d:Nat}{o:TO S},aw st d=some o→br d (rh ks st)=false→o.bad ks=false
 | [],_,_,h,_=>by cases h
 | (t,v')::r,d,v,h,hm=>by
  simp only[aw] at h
  simp only[rh] at hm
  cases hb:v'.bad ks with
  | true=>
   rw[hb] at hm
   simp only[br] at hm
   cases ht:Nat.beq t d with
   | true=>rw[ht] at hm;cases hm
   | false=>rw[ht] at hm h;exact xH h hm
  | false=>
   rw[hb] at hm
   cases ht:Nat.beq t d with
   | true=>rw[ht] at h;cases h;exact hb
   | false=>rw[ht] at h;exact xH h hm
end
end Go.DN
/-
 DN,part Q:states taken apart and put together again.
-/
namespace Go.DN
open Go.AM
section
variable {S:eC}
theorem zr {ks ks':List Nat}(h:∀k,k∈ks→k∈ks'):∀v:TV S,v.bad ks=false→v.bad ks'=false:=by
 intro v
 exact TV.rec (motive_1:=fun v=>v.bad ks=false→v.bad ks'=false) (motive_2:=fun l=>TV.bad.go ks l=false→TV.bad.go ks' l=false)
  (fun _ _ _ _=>rfl) (fun _ _ _ _=>rfl) (fun l ih e=>ih e) (fun l ih e=>ih e) (fun _ _ _=>rfl) (fun _ _ _ _ _=>rfl)
  (fun k τ e=>by
   have:br k ks=true:=by simpa[TV.bad] using e
   show(!(br k ks'))=false
   rw[bO.2 (h k (bO.1 this))];rfl)
  (fun _ _ _ _ _=>rfl) (fun _ l ih e=>ih e) (fun _ _=>rfl) (fun _ _=>rfl) (fun _ _ _ _ _=>rfl) (fun _ _ _ _ _=>rfl) (fun _ _ _ _ _ _=>rfl) (fun _ _=>rfl) (fun _=>rfl) (fun _=>rfl)
  (fun x r i1 i2 e=>by
   simp only[TV.bad.go,bE] at e⊢
   exact⟨i1 e.1,i2 e.2⟩) v
theorem rZ {ks ks':List Nat}(h:∀k,k∈ks→k∈ks'):∀l:List (TV S),TV.bad.go ks l=false→TV.bad.go ks' l=false
 | [],_=>rfl
 | x::r,e=>by
  simp only[TV.bad.go,bE] at e⊢
  exact⟨zr h x e.1,rZ h r e.2⟩
theorem E9 {ks ks':List Nat}(h:∀k,k∈ks→k∈ks') (o:TO S) (e:o.bad ks=false):o.bad ks'=false:=by
 cases o with
 | box e' m cs=>exact rZ h cs e
 | aU=>rfl
 | lp p n cs=>exact rZ h cs e
 | deep=>rfl
def aF {α:Type}:List (Nat×α)→List Nat
 | []=>[]
 | x::r=>x.1::aF r
def apart (a b:List Nat):Bool:=match a with
 | []=>true
 | x::r=>match br x b with
  | true=>false
  | false=>apart r b
theorem apart_spec {b:List Nat}:∀{a:List Nat},apart a b=true→∀x,x∈a→x∉b
 | [],_,x,h=>by cases h
 | y::r,h,x,hx=>by
  simp only[apart] at h
  cases hm:br y b with
  | true=>rw[hm] at h;cases h
  | false=>
   rw[hm] at h
   rcases aX.1 hx with e | hx
   ·subst e;intro hb;rw[bO.2 hb] at hm;cases hm
   ·exact apart_spec h x hx
def within (a b:List Nat):Bool:=match a with
 | []=>true
 | x::r=>match br x b with
  | true=>within r b
  | false=>false
theorem l9 {b:List Nat}:∀{a:List Nat},within a b=true→∀x,x∈a→x∈b
 | [],_,x,h=>by cases h
 | y::r,h,x,hx=>by
  simp only[within] at h
  cases hm:br y b with
  | false=>rw[hm] at h;cases h
  | true=>
   rw[hm] at h
   rcases aX.1 hx with e | hx
   ·subst e;exact bO.1 hm
   ·exact l9 h x hx
theorem yj:∀{fr:List (Nat×TV S)}{d:Nat}{v:TV S},bc fr d=some v→d∈aF fr
 | [],_,_,h=>by cases h
 | (t,v')::r,d,v,h=>by
  simp only[bc] at h
  cases hb:Nat.beq t d with
  | true=>have:=aa hb;subst this;exact av
  | false=>rw[hb] at h;exact ao _ (yj h)
theorem rP:∀{st:List (Nat×TO S)}{d:Nat}{o:TO S},aw st d=some o→d∈aF st
 | [],_,_,h=>by cases h
 | (t,v')::r,d,v,h=>by
  simp only[aw] at h
  cases hb:Nat.beq t d with
  | true=>have:=aa hb;subst this;exact av
  | false=>rw[hb] at h;exact ao _ (rP h)
theorem F8 {fr:List (Nat×TV S)}{d:Nat}(h:d∉aF fr):bc fr d=none:=by
 cases e:bc fr d with
 | none=>rfl
 | some v=>exact absurd (yj e) h
theorem lc {st:List (Nat×TO S)}{d:Nat}(h:d∉aF st):aw st d=none:=by
 cases e:aw st d with
 | none=>rfl
 | some v=>exact absurd (rP e) h
theorem mU:∀{st:List (Nat×TO S)}{k:Nat},k∈aF st→∃o,aw st k=some o
 | [],_,h=>by cases h
 | (y,g)::r,k,h=>by
  simp only[aw]
  cases hb:Nat.beq y k with
  | true=>exact⟨g,rfl⟩
  | false=>
   rcases aX.1 h with e2 | h2
   ·subst e2;rw[aH] at hb;cases hb
   ·exact mU h2
theorem jM:∀(l:List (Nat×Oh)) (ls:List (bo S.α)),aF (ca l ls).1=aF l
 | [],_=>rfl
 | (d,sh)::r,ls=>by simp only[ca,aF,jM r]
structure Cut where
 D:List Nat
 DO:List Nat
 ks:List Nat
def dV (s:ah S) (A H B:List Nat):Cut:=
 {D:=A++(B++ri (stay H s.bg) s.bW),DO:=H++rh (stay H s.bg) s.bg,ks:=stay H s.bg}
def Le (s:ah S) (c:Cut):Bool:=
 apart c.ks c.DO&&(!(TV.bad.go c.ks s.df)&&(apart (aF s.lo) c.D&&apart (aF s.bL) c.DO))
theorem Gp {H:List Nat}:∀{st:List (Nat×TO S)}{k:Nat},k∈stay H st→k∉H∧k∈aF st
 | [],_,h=>by cases h
 | (t,o)::r,k,h=>by
  have key:k∈stay H r→k∉H∧k∈aF ((t,o)::r):=fun h=>let ⟨h1,h2⟩:=Gp h;⟨h1,ao _ h2⟩
  cases o with
  | aU e m f τ l=>
   simp only[stay] at h
   cases hm:br t H with
   | true=>rw[hm] at h;exact key h
   | false=>
    rw[hm] at h
    rcases aX.1 h with e | h
    ·subst e
     exact⟨fun hh=>(by rw[bO.2 hh] at hm;cases hm),av⟩
    ·exact key h
  | deep e m f dk τ l=>
   simp only[stay] at h
   cases hm:br t H with
   | true=>rw[hm] at h;exact key h
   | false=>
    rw[hm] at h
    rcases aX.1 h with e | h
    ·subst e
     exact⟨fun hh=>(by rw[bO.2 hh] at hm;cases hm),av⟩
    ·exact key h
  | _=>exact key h
def oB {α:Type}(D:List Nat):List (Nat×α)→List (Nat×α)
 | []=>[]
 | x::r=>match br x.1 D with
  | true=>x::oB D r
  | false=>oB D r
theorem sM {D:List Nat}:∀{fr:List (Nat×TV S)}{d:Nat},bc (oB D fr) d=match br d D with | true=>bc fr d | false=>none
 | [],d=>by simp only[oB,bc];cases br d D <;> rfl
 | (t,v)::r,d=>by
  simp only[oB]
  cases hb:Nat.beq t d with
  | true=>
   have:=aa hb
   subst this
   cases hm:br t D with
   | true=>simp only[bc,hb,cond_true]
   | false=>simp only;rw[sM,hm]
  | false=>
   cases hm:br t D with
   | true=>simp only[bc,hb,cond_false];exact sM
   | false=>simp only;rw[sM];simp only[bc,hb,cond_false]
theorem sS {D:List Nat}:∀{fr:List (Nat×TO S)}{d:Nat},aw (oB D fr) d=match br d D with | true=>aw fr d | false=>none
 | [],d=>by simp only[oB,aw];cases br d D <;> rfl
 | (t,v)::r,d=>by
  simp only[oB]
  cases hb:Nat.beq t d with
  | true=>
   have:=aa hb
   subst this
   cases hm:br t D with
   | true=>simp only[aw,hb,cond_true]
   | false=>simp only;rw[sS,hm]
  | false=>
   cases hm:br t D with
   | true=>simp only[aw,hb,cond_false];exact sS
   | false=>simp only;rw[sS];simp only[aw,hb,cond_false]
def xv (s:ah S) (c:Cut):ah S:={fr:=oB c.D s.bW,lo:=cc c.D s.bW,st:=oB c.DO s.bg,bL:=cc c.DO s.bg,df:=s.df,nx:=s.nx,last:=s.last}
theorem Ds {s t:ah S}(h1:∀d,bc t.bW d=bc s.bW d) (h2:∀d,aw t.bg d=aw s.bg d) (h3:t.df=s.df):Gh s.er t.er:=by
 have hln:t.ln=s.ln:=by
  funext k
  show bZ t.bg k=bZ s.bg k
  unfold bZ
  rw[h2]
 refine Gh.rp (fun d v' hv'=>⟨v',by rw[←h1];exact hv',?_⟩) (fun h o' ho'=>⟨o',by rw[←h2];exact ho',?_⟩) (by rw[h3,hln])
 ·rw[hln];exact CV.refl _ _ _
 ·rw[hln];exact ox.refl _ _ _
theorem Es {s t:ah S}(h1:∀d,bc t.bW d=bc s.bW d) (h2:∀d,aw t.bg d=aw s.bg d) (h3:t.last=s.last) (hl:aY s):aY t:=by
 intro d h x hm
 rw[h3] at hm
 obtain⟨i,bM,m,f,τ,l,a,e1,e2,e3⟩:=hl d h x hm
 exact⟨i,bM,m,f,τ,l,a,by rw[h1];exact e1,by rw[h2];exact e2,e3⟩
theorem xu (s:ah S) (c:Cut):∀d,bc (xv s c).bW d=bc s.bW d:=by
 intro d
 show bc (oB c.D s.bW++cc c.D s.bW) d=_
 rw[jX,sM,jK]
 cases br d c.D with
 | true=>dsimp only;cases bc s.bW d <;> rfl
 | false=>rfl
theorem Ii (s:ah S) (c:Cut):∀d,aw (xv s c).bg d=aw s.bg d:=by
 intro d
 show aw (oB c.DO s.bg++cc c.DO s.bg) d=_
 rw[db,sS,iZ]
 cases br d c.DO with
 | true=>dsimp only;cases aw s.bg d <;> rfl
 | false=>rfl
theorem Ij (s:ah S) (c:Cut) (hl:aY s):Gh s.er (xv s c).er∧aY (xv s c):=
 ⟨Ds (xu s c) (Ii s c) rfl,Es (xu s c) (Ii s c) rfl hl⟩
def flat (s:ah S) (c:Cut) (t:ah S):ah S:={fr:=t.fr++cc c.D s.fr,lo:=s.lo,st:=t.st++cc c.DO s.st,bL:=s.bL,df:=s.df,nx:=t.nx,last:=t.last}
theorem Bt {α:Type}{D:List Nat}:∀{l:List (Nat×α)},apart (aF l) D=true→cc D l=l
 | [],_=>rfl
 | x::r,h=>by
  simp only[aF,apart] at h
  simp only[cc]
  cases hm:br x.1 D with
  | true=>rw[hm] at h;cases h
  | false=>rw[hm] at h;dsimp only;rw[Bt h]
theorem ze {α:Type}{D:List Nat}:∀(l l':List (Nat×α)),cc D (l++l')=cc D l++cc D l'
 | [],_=>rfl
 | x::r,l'=>by
  simp only[bx,cc]
  cases br x.1 D <;> simp[ze r l']
structure ta (s:ah S) (c:Cut):Prop where
 ks:∀k,k∈c.ks→k∉c.DO
 df:TV.bad.go c.ks s.df=false
 lo:cc c.D s.bW=cc c.D s.fr++s.lo
 bL:cc c.DO s.bg=cc c.DO s.st++s.bL
theorem Ld {s:ah S}{c:Cut}(h:Le s c=true):ta s c:=by
 unfold Le at h
 simp only[aj,a6] at h
 obtain⟨h1,h2,h3,h4⟩:=h
 exact⟨apart_spec h1,h2,by unfold ah.bW;rw[ze,Bt h3],by unfold ah.bg;rw[ze,Bt h4]⟩
theorem JA {s t:ah S}{c:Cut}(hc:ta s c) (h1:t.lo=cc c.D s.bW) (h2:t.bL=cc c.DO s.bg) (h3:t.df=s.df) (hl:aY t):Gh t.er (flat s c t).er∧aY (flat s c t)∧bz s (flat s c t):=by
 have e1:(flat s c t).bW=t.bW:=by
  show(t.fr++cc c.D s.fr)++s.lo=t.fr++t.lo
  rw[h1,hc.lo,aC]
 have e2:(flat s c t).bg=t.bg:=by
  show(t.st++cc c.DO s.st)++s.bL=t.st++t.bL
  rw[h2,hc.bL,aC]
 exact⟨Ds (fun d=>by rw[e1]) (fun d=>by rw[e2]) h3.symm,Es (s:=t) (t:=flat s c t) (fun d=>by rw[e1]) (fun d=>by rw[e2]) rfl hl,⟨rfl,rfl,rfl⟩⟩
def wO (s:ah S) (j:JH):Option (List (bo S.α)):=
 match Ci s.bW j.aA with
 | some xs=>match wM s.bg j.aZ with
  | some ys=>some (xs++ys)
  | none=>none
 | none=>none
def tQ:List Nat→Nat→Nat
 | [],n=>n
 | x::r,n=>tQ r (bif Nat.ble n x&&Nat.blt x 500 then x+1 else n)
def kL (s:ah S) (c:Cut) (j:JH) (ls:List (bo S.α)):ah S:=
 {fr:=(cv j.aA ls).1,lo:=cc c.D s.bW,st:=(ca j.aZ (cv j.aA ls).2).1,bL:=cc c.DO s.bg,df:=s.df,nx:=tQ (aF j.aZ) s.nx,last:=[]}
def qF (s:ah S) (c:Cut) (j:JH) (ls:List (bo S.α)):ah S:=
 {fr:=(cv j.aA ls).1++cc c.D s.fr,lo:=s.lo,st:=(ca j.aZ (cv j.aA ls).2).1++cc c.DO s.st,bL:=s.bL,df:=s.df,nx:=tQ (aF j.aZ) s.nx,last:=[]}
def Aq (c:Cut) (j:JH):Bool:=within (mP j.aA++ph j.aZ) (c.ks++aF j.aZ)&&apart c.ks (aF j.aZ)
def Iy (t:ah S):Bool:=apart (aF t.fr) (aF t.lo)&&apart (aF t.st) (aF t.bL)
theorem PV {s:ah S}{c:Cut}(hc:ta s c) (j:JH) (ls:List (bo S.α)):(qF s c j ls).bW=(kL s c j ls).bW:=by
 show((cv j.aA ls).1++cc c.D s.fr)++s.lo=(cv j.aA ls).1++cc c.D s.bW
 rw[hc.lo,aC]
theorem PU {s:ah S}{c:Cut}(hc:ta s c) (j:JH) (ls:List (bo S.α)):(qF s c j ls).bg=(kL s c j ls).bg:=by
 show((ca j.aZ (cv j.aA ls).2).1++cc c.DO s.st)++s.bL=(ca j.aZ (cv j.aA ls).2).1++cc c.DO s.bg
 rw[hc.bL,aC]
theorem yD {st:List (Nat×TO S)}{l:List (Nat×Oh)}{ys:List (bo S.α)}(h:wM st l=some ys) (k:Nat) (hk:k∈aF l):∃o o',aw (ca l ys).1 k=some o'∧aw st k=some o∧o'.len=o.len:=by
 obtain⟨_,_,q⟩:=A4 (fun _=>0) [] [] h []
 rw[b9] at q
 obtain⟨o',e⟩:=mU (st:=(ca l ys).1) (k:=k) (by rw[jM];exact hk)
 obtain⟨o,h1,h2,_⟩:=q k o' e
 exact⟨o,o',e,h1,h2⟩
theorem Ju {s:ah S}{c:Cut}{A H B:List Nat}{j:JH}{ls:List (bo S.α)}(hcc:c=dV s A H B) (hc:ta s c) (hj:Aq c j=true) (hp:wO s j=some ls):Gh s.er (kL s c j ls).er:=by
 unfold wO at hp
 split at hp
 ·rename_i xs hx
  split at hp
  ·rename_i ys hy
   cases hp
   obtain⟨p1,_⟩:=wP s.ln hx ys
   unfold Aq at hj
   simp only[aj] at hj
   obtain⟨j1,j2⟩:=hj
   have j1:=l9 j1
   have j2:=apart_spec j2
   have hks:∀k,k∈c.ks++aF j.aZ→s.ln k=(kL s c j (xs++ys)).ln k:=by
    intro k hk
    show bZ s.bg k=bZ (kL s c j (xs++ys)).bg k
    have est:(kL s c j (xs++ys)).bg=(ca j.aZ ys).1++cc c.DO s.bg:=by
     show(ca j.aZ (cv j.aA (xs++ys)).2).1++cc c.DO s.bg=_
     rw[p1]
    rw[est]
    unfold bZ
    rw[db]
    rcases cV.1 hk with hk | hk
    ·have:aw (ca j.aZ ys).1 k=none:=lc (by rw[jM];exact j2 k hk)
     rw[this]
     dsimp only
     rw[iZ]
     have:br k c.DO=false:=by
      cases hm:br k c.DO with
      | false=>rfl
      | true=>exact absurd (bO.1 hm) (hc.ks k hk)
     rw[this]
    ·obtain⟨o,o',e1,e2,e3⟩:=yD hy k hk
     rw[e1,e2]
     exact e3.symm
   refine told (u:=kL s c j (xs++ys)) (F':=cc c.D s.bW) (O':=cc c.DO s.bg) hx hy rfl ?_ (fun d v hv=>?_) (fun h o ho=>?_) hks (fun k hk=>j1 k (bS _ hk)) (fun k hk=>j1 k (cD _ hk)) rfl (rZ (fun k hk=>bS _ hk) _ hc.df)
   ·show(ca j.aZ (cv j.aA (xs++ys)).2).1++cc c.DO s.bg=_
    rw[p1]
   ·rw[jK] at hv
    cases hm:br d c.D with
    | true=>rw[hm] at hv;cases hv
    | false=>
     rw[hm] at hv
     refine⟨hv,zr (fun k hk=>bS _ hk) v (xI hv ?_)⟩
     subst hcc
     cases hq:br d (ri (dV s A H B).ks s.bW) with
     | false=>rfl
     | true=>
      rw[bO.2 (show d∈(dV s A H B).D from cD _ (cD _ (bO.1 hq)))] at hm
      cases hm
   ·rw[iZ] at ho
    cases hm:br h c.DO with
    | true=>rw[hm] at ho;cases ho
    | false=>
     rw[hm] at ho
     refine⟨ho,E9 (fun k hk=>bS _ hk) o (xH ho ?_)⟩
     subst hcc
     cases hq:br h (rh (dV s A H B).ks s.bg) with
     | false=>rfl
     | true=>
      rw[bO.2 (show h∈(dV s A H B).DO from cD _ (bO.1 hq))] at hm
      cases hm
  ·cases hp
 ·cases hp
theorem MM {s t:ah S}{c:Cut}{A H B:List Nat}{j:JH}{ls:List (bo S.α)}(hcc:c=dV s A H B) (hc:ta s c) (hj:Aq c j=true) (h1:t.lo=cc c.D s.bW) (h2:t.bL=cc c.DO s.bg) (h3:t.df=s.df)
  (ha:Iy t=true) (hp:wO t j=some ls):Gh t.er (kL s c j ls).er:=by
 unfold wO at hp
 split at hp
 ·rename_i xs hx
  split at hp
  ·rename_i ys hy
   cases hp
   obtain⟨p1,_⟩:=wP t.ln hx ys
   unfold Aq at hj
   simp only[aj] at hj
   obtain⟨j1,j2⟩:=hj
   have j1:=l9 j1
   have j2:=apart_spec j2
   unfold Iy at ha
   simp only[aj] at ha
   have a1:=apart_spec ha.1
   have a2:=apart_spec ha.2
   have tf:∀{d v},bc t.lo d=some v→bc t.bW d=some v:=by
    intro d v hv
    show bc (t.fr++t.lo) d=_
    rw[jX,F8 fun hd=>a1 d hd (yj hv)]
    exact hv
   have of:∀{d o},aw t.bL d=some o→aw t.bg d=some o:=by
    intro d v hv
    show aw (t.st++t.bL) d=_
    rw[db,lc fun hd=>a2 d hd (rP hv)]
    exact hv
   have hgood:∀{d v},bc (cc c.D s.bW) d=some v→v.bad c.ks=false:=by
    intro d v hv
    rw[jK] at hv
    cases hm:br d c.D with
    | true=>rw[hm] at hv;cases hv
    | false=>
     rw[hm] at hv
     refine xI hv ?_
     subst hcc
     cases hq:br d (ri (dV s A H B).ks s.bW) with
     | false=>rfl
     | true=>
      rw[bO.2 (show d∈(dV s A H B).D from cD _ (cD _ (bO.1 hq)))] at hm
      cases hm
   have hgoodO:∀{d o},aw (cc c.DO s.bg) d=some o→o.bad c.ks=false:=by
    intro h o ho
    rw[iZ] at ho
    cases hm:br h c.DO with
    | true=>rw[hm] at ho;cases ho
    | false=>
     rw[hm] at ho
     refine xH ho ?_
     subst hcc
     cases hq:br h (rh (dV s A H B).ks s.bg) with
     | false=>rfl
     | true=>
      rw[bO.2 (show h∈(dV s A H B).DO from cD _ (bO.1 hq))] at hm
      cases hm
   have hkst:∀k,k∈c.ks→∃o,aw (cc c.DO s.bg) k=some o:=by
    intro k hk
    rw[iZ]
    have:br k c.DO=false:=by
     cases hm:br k c.DO with
     | false=>rfl
     | true=>exact absurd (bO.1 hm) (hc.ks k hk)
    rw[this]
    have hk2:k∈aF s.bg:=by subst hcc;exact(Gp hk).2
    exact mU hk2
   have hks:∀k,k∈c.ks++aF j.aZ→t.ln k=(kL s c j (xs++ys)).ln k:=by
    intro k hk
    show bZ t.bg k=bZ (kL s c j (xs++ys)).bg k
    have est:(kL s c j (xs++ys)).bg=(ca j.aZ ys).1++cc c.DO s.bg:=by
     show(ca j.aZ (cv j.aA (xs++ys)).2).1++cc c.DO s.bg=_
     rw[p1]
    rw[est]
    unfold bZ
    rw[db]
    rcases cV.1 hk with hk | hk
    ·have:aw (ca j.aZ ys).1 k=none:=lc (by rw[jM];exact j2 k hk)
     rw[this]
     dsimp only
     obtain⟨o,ho⟩:=hkst k hk
     rw[ho]
     rw[of (by rw[h2];exact ho)]
    ·obtain⟨o,o',e1,e2,e3⟩:=yD hy k hk
     rw[e1,e2]
     exact e3.symm
   refine told (u:=kL s c j (xs++ys)) (F':=cc c.D s.bW) (O':=cc c.DO s.bg) hx hy rfl ?_ (fun d v hv=>⟨tf (by rw[h1];exact hv),zr (fun k hk=>bS _ hk) v (hgood hv)⟩)
    (fun h o ho=>⟨of (by rw[h2];exact ho),E9 (fun k hk=>bS _ hk) o (hgoodO ho)⟩) hks (fun k hk=>j1 k (bS _ hk)) (fun k hk=>j1 k (cD _ hk)) h3.symm (by rw[h3];exact rZ (fun k hk=>bS _ hk) _ hc.df)
   show(ca j.aZ (cv j.aA (xs++ys)).2).1++cc c.DO s.bg=_
   rw[p1]
  ·cases hp
 ·cases hp
end
end Go.DN
/-
 DN,part R:code.
-/
namespace Go.DN
open Go.AM
section
variable {S:eC}
mutual
def KD:Sh→TV S→List Nat
 | .ab _ _,v=>v.KB
 | .aE _ l,v=>match v with
  | .aE _ vs=>Fy l vs
  | _=>[]
 | .agg l,v=>match v with
  | .agg vs=>Fy l vs
  | _=>[]
 | _,_=>[]
def Fy:List Sh→List (TV S)→List Nat
 | sh::r,v::vs=>KD sh v++Fy r vs
 | _,_=>[]
end
def KE (fr:List (Nat×TV S)):List (Nat×Sh)→List Nat
 | []=>[]
 | (d,sh)::r=>match bc fr d with
  | some v=>KD sh v++KE fr r
  | none=>KE fr r
def Cu (st:List (Nat×TO S)):List (Nat×Oh)→List Nat
 | []=>[]
 | (h,.box _ _ cs)::r=>match aw st h with
  | some (.box _ _ vs)=>Fy cs vs++Cu st r
  | _=>Cu st r
 | _::r=>Cu st r
def CP (h:Nat):List (Nat×Oh)→Option TypeId
 | []=>none
 | (k,.aU e _ _ _)::r=>bif Nat.beq k h then some e else CP h r
 | (k,.deep e _ _ _ _)::r=>bif Nat.beq k h then some e else CP h r
 | _::r=>CP h r
def OD (h:Nat):List (Nat×Oh)→Option TypeId
 | []=>none
 | (k,.deep _ _ _ (.dG kty) _)::r=>bif Nat.beq k h then some kty else OD h r
 | _::r=>OD h r
def uW (s:ah S) (h:Nat):ah S:=match s.free h with
 | true=>s
 | false=>match zW s h with
  | some s'=>s'
  | none=>s
theorem Oq {s:ah S}{h:Nat}(hl:aY s):Gh s.er (uW s h).er∧aY (uW s h)∧bz s (uW s h):=by
 unfold uW
 split
 ·exact⟨Gh.refl _,hl,bz.refl s⟩
 ·split
  ·rename_i s' hs
   exact CL hl hs
  ·exact⟨Gh.refl _,hl,bz.refl s⟩
def Gj (s:ah S) (d h:Nat):ah S:=match bc s.bW d with
 | some (.aQ h' τ)=>match Nat.beq h' h with
  | true=>match aw s.bg h' with
   | some (.aU _ _ _ τ' l)=>s.put d (.sub h' τ 0 (List.length l))
   | _=>s
  | false=>s
 | _=>s
theorem Pz {s:ah S}(d h:Nat) (hl:aY s):Gh s.er (Gj s d h).er∧aY (Gj s d h)∧bz s (Gj s d h):=by
 unfold Gj
 split
 ·rename_i h' τ hx
  split
  ·split
   ·rename_i τ' l ho
    refine⟨?_,hl.put _ _,⟨rfl,rfl,rfl⟩⟩
    rw[fC]
    have e1:get s.er.fr d=some (.aQ h' (S.sz τ) 0 (List.length l)):=by
     rw[show get s.er.fr d=_ from fc hx]
     show some (G.aQ _ _ 0 (s.ln h'))=_
     rw[l6 ho]
    have e2:(TV.sub h' τ 0 (List.length l):TV S).er s.ln=.aQ h' (S.sz τ) 0 (List.length l):=by
     show G.aQ _ _ (0*_) _=_
     rw[ew]
    rw[e2]
    refine Gh.gen (s:=s.er) (t:=s.er.put d (.aQ h' (S.sz τ) 0 (List.length l))) (fun x g' hg=>?_) (fun x k' hk=>⟨k',hk,ox.refl _ _ _⟩) rfl
    simp only[St.put,gF] at hg
    cases hb:Nat.beq d x with
    | true=>
     rw[hb] at hg
     cases hg
     have:=aa hb
     subst this
     exact⟨_,e1,CV.refl _ _ _⟩
    | false=>
     rw[hb] at hg
     exact⟨g',hg,CV.refl _ _ _⟩
   ·exact⟨Gh.refl _,hl,bz.refl s⟩
  ·exact⟨Gh.refl _,hl,bz.refl s⟩
 ·exact⟨Gh.refl _,hl,bz.refl s⟩
def nt (aZ:List (Nat×Oh)):List (Nat×Sh)→ah S→Option (ah S)
 | [],s=>some s
 | (d,.own h τ)::r,s=>match bc s.bW d with
  | some (.val (.slice none 0 0))=>match CP h aZ with
   | some e=>match bc (uW s h).bW d with
    | some (.val (.slice none 0 0))=>match (uW s h).free h with
     | true=>match OD h aZ with
      | none=>nt aZ r ((uW s h).lV h d e τ)
      | some kty=>Fp ((uW s h).lV h d e τ) h kty fun s=>nt aZ r s
     | false=>none
    | _=>none
   | none=>none
  | _=>nt aZ r s
 | (d,.sub h _)::r,s=>nt aZ r (Gj s d h)
 | _::r,s=>nt aZ r s
theorem eB {aZ:List (Nat×Oh)}:∀{l:List (Nat×Sh)}{s t:ah S},aY s→nt aZ l s=some t→Gh s.er t.er∧aY t∧bz s t
 | [],s,t,hl,h=>by cases h;exact⟨Gh.refl _,hl,bz.refl s⟩
 | (d,.ab _ _)::r,s,t,hl,h=>eB (l:=r) hl h
 | (d,.ptr _ _)::r,s,t,hl,h=>eB (l:=r) hl h
 | (d,.loc _ _)::r,s,t,hl,h=>eB (l:=r) hl h
 | (d,.aE _ _)::r,s,t,hl,h=>eB (l:=r) hl h
 | (d,.agg _)::r,s,t,hl,h=>eB (l:=r) hl h
 | (d,.cq _)::r,s,t,hl,h=>eB (l:=r) hl h
 | (d,.mp _)::r,s,t,hl,h=>eB (l:=r) hl h
 | (d,.any)::r,s,t,hl,h=>eB (l:=r) hl h
 | (d,.lT)::r,s,t,hl,h=>eB (l:=r) hl h
 | (d,.sub hh _)::r,s,t,hl,h=>by
  obtain⟨a1,a2,a3⟩:=Pz d hh hl
  obtain⟨b1,b2,b3⟩:=eB (l:=r) a2 h
  exact⟨a1.trans b1,b2,a3.trans b3⟩
 | (d,.fB _ _)::r,s,t,hl,h=>eB (l:=r) hl h
 | (d,.ks _ _)::r,s,t,hl,h=>eB (l:=r) hl h
 | (d,.own hh τ)::r,s,t,hl,h=>by
  simp only[nt] at h
  split at h
  ·rename_i hx
   split at h
   ·rename_i e _
    split at h
    ·rename_i hx2
     split at h
     ·rename_i hf
      obtain⟨z1,z2,z3⟩:=Oq (h:=hh) hl
      obtain⟨a1,a2⟩:=BU (e:=e) (τ:=τ) z2 hx2 hf
      split at h
      ·obtain⟨b1,b2,b3⟩:=eB (l:=r) a2 h
       exact⟨z1.trans (Gh.trans a1 b1),b2,z3.trans ⟨b3.lo,b3.bL,b3.df⟩⟩
      ·obtain⟨t0,c1,c2,c3,h⟩:=F4 a2 h
       obtain⟨b1,b2,b3⟩:=eB (l:=r) c2 h
       exact⟨z1.trans (Gh.trans a1 (Gh.trans c1 b1)),b2,z3.trans ⟨b3.lo.trans c3.lo,b3.bL.trans c3.bL,b3.df.trans c3.df⟩⟩
     ·cases h
    ·cases h
   ·cases h
  ·exact eB hl h
def Gk (s:ah S) (h j hd:Nat):ah S:=match aw s.st h with
 | some (.box e m cs)=>match cs[j]? with
  | some (.aQ h' τ)=>match Nat.beq h' hd with
   | true=>match aw s.bg h' with
    | some (.aU _ _ _ τ' l)=>s.set h (.box e m (cs.set j (.sub h' τ 0 (List.length l))))
    | _=>s
   | false=>s
  | _=>s
 | _=>s
theorem PB {s:ah S}(h j hd:Nat) (hl:aY s):Gh s.er (Gk s h j hd).er∧aY (Gk s h j hd)∧bz s (Gk s h j hd):=by
 unfold Gk
 split
 ·rename_i e m cs ho
  split
  ·rename_i h' τ hj
   split
   ·split
    ·rename_i τ' l ho2
     refine⟨?_,hl.set ho _,⟨rfl,rfl,rfl⟩⟩
     obtain⟨e1,_⟩:=k6 (o':=.box e m (cs.set j (.sub h' τ 0 (List.length l)))) ho rfl
     rw[e1]
     have e2:(TV.sub h' τ 0 (List.length l):TV S).er s.ln=(TV.aQ h' τ:TV S).er s.ln:=by
      show G.aQ _ _ (0*_) _=G.aQ _ _ 0 (s.ln h')
      rw[ew,l6 ho2]
     have e3:TV.er.go s.ln (cs.set j (.sub h' τ 0 (List.length l)))=TV.er.go s.ln cs:=by
      rw[cR,kB,cR,e2]
      apply kC
      intro q
      rw[dI]
      split
      ·rename_i hq
       subst hq
       rw[ay,hj]
       split
       ·rfl
       ·rename_i hlt
        have:=(al.1 hj).1
        rw[a5] at hlt
        exact absurd this hlt
      ·rfl
     have e4:(TO.box e m (cs.set j (.sub h' τ 0 (List.length l))):TO S).er s.ln=(TO.box e m cs:TO S).er s.ln:=by
      show ap.mk _ _ _ _ _ _ _=ap.mk _ _ _ _ _ _ _
      rw[e3]
     rw[e4,uC (cO (dQ ho))]
     exact Gh.refl _
    ·exact⟨Gh.refl _,hl,bz.refl s⟩
   ·exact⟨Gh.refl _,hl,bz.refl s⟩
  ·exact⟨Gh.refl _,hl,bz.refl s⟩
 ·exact⟨Gh.refl _,hl,bz.refl s⟩
def nS (aZ:List (Nat×Oh)) (h:Nat):Nat→List Sh→ah S→Option (ah S)
 | _,[],s=>some s
 | j,.own hd τ::r,s=>match aw s.st h with
  | some (.box e' m cs)=>match cs[j]? with
   | some (.val (.slice none 0 0))=>match CP hd aZ with
    | some e=>match aw (rz s hd).st h with
     | some (.box e' m cs)=>match cs[j]? with
      | some (.val (.slice none 0 0))=>match (rz s hd).free hd with
       | true=>nS aZ h (j+1) r (((rz s hd).add hd (.aU e true true τ [])).set h (.box e' m (cs.set j (.aQ hd τ))))
       | false=>none
      | _=>none
     | _=>none
    | none=>none
   | _=>nS aZ h (j+1) r s
  | _=>nS aZ h (j+1) r s
 | j,.sub hd _::r,s=>nS aZ h (j+1) r (Gk s h j hd)
 | j,_::r,s=>nS aZ h (j+1) r s
theorem eQ {aZ:List (Nat×Oh)}{h:Nat}:∀{l:List Sh}{j:Nat}{s t:ah S},aY s→nS aZ h j l s=some t→Gh s.er t.er∧aY t∧bz s t
 | [],_,s,t,hl,h=>by cases h;exact⟨Gh.refl _,hl,bz.refl s⟩
 | .ab _ _::r,_,s,t,hl,h=>eQ (l:=r) hl h
 | .ptr _ _::r,_,s,t,hl,h=>eQ (l:=r) hl h
 | .loc _ _::r,_,s,t,hl,h=>eQ (l:=r) hl h
 | .aE _ _::r,_,s,t,hl,h=>eQ (l:=r) hl h
 | .agg _::r,_,s,t,hl,h=>eQ (l:=r) hl h
 | .cq _::r,_,s,t,hl,h=>eQ (l:=r) hl h
 | .mp _::r,_,s,t,hl,h=>eQ (l:=r) hl h
 | .any::r,_,s,t,hl,h=>eQ (l:=r) hl h
 | .lT::r,_,s,t,hl,h=>eQ (l:=r) hl h
 | .sub hd _::r,j,s,t,hl,hh=>by
  obtain⟨a1,a2,a3⟩:=PB h j hd hl
  obtain⟨b1,b2,b3⟩:=eQ (l:=r) a2 hh
  exact⟨a1.trans b1,b2,a3.trans b3⟩
 | .fB _ _::r,_,s,t,hl,h=>eQ (l:=r) hl h
 | .ks _ _::r,_,s,t,hl,h=>eQ (l:=r) hl h
 | .own hd τ::r,j,s,t,hl,h=>by
  simp only[nS] at h
  split at h
  ·rename_i e' m cs ho
   split at h
   ·rename_i hj
    split at h
    ·rename_i e _
     obtain⟨z1,z2,z3⟩:=HR hd hl
     split at h
     ·rename_i ho2
      split at h
      ·rename_i hj2
       split at h
       ·rename_i hf
        obtain⟨a1,a2⟩:=Nl (e:=e) (τ:=τ) z2 ho2 hj2 hf
        obtain⟨b1,b2,b3⟩:=eQ (l:=r) a2 h
        exact⟨z1.trans (Gh.trans a1 b1),b2,z3.trans ⟨b3.lo,b3.bL,b3.df⟩⟩
       ·cases h
      ·cases h
     ·cases h
    ·cases h
   ·exact eQ (l:=r) hl h
  ·exact eQ (l:=r) hl h
def wo (aZ:List (Nat×Oh)):List (Nat×Oh)→ah S→Option (ah S)
 | [],s=>some s
 | (h,.box _ _ cs)::r,s=>match nS aZ h 0 cs s with
  | some s'=>wo aZ r s'
  | none=>none
 | _::r,s=>wo aZ r s
theorem qj {aZ:List (Nat×Oh)}:∀{l:List (Nat×Oh)}{s t:ah S},aY s→wo aZ l s=some t→Gh s.er t.er∧aY t∧bz s t
 | [],s,t,hl,h=>by cases h;exact⟨Gh.refl _,hl,bz.refl s⟩
 | (_,.aU _ _ _ _)::r,s,t,hl,h=>qj (l:=r) hl h
 | (_,.deep _ _ _ _ _)::r,s,t,hl,h=>qj (l:=r) hl h
 | (_,.lp _ _ _)::r,s,t,hl,h=>qj (l:=r) hl h
 | (_,.box _ _ cs)::r,s,t,hl,h=>by
  simp only[wo] at h
  split at h
  ·rename_i s' hs
   obtain⟨a1,a2,a3⟩:=eQ hl hs
   obtain⟨b1,b2,b3⟩:=qj (l:=r) a2 h
   exact⟨a1.trans b1,b2,a3.trans b3⟩
  ·cases h
def Db (aA:List (Nat×Sh)) (aZ:List (Nat×Oh)) (s:ah S):Option (ah S):=match nt aZ aA s with
 | some s'=>wo aZ aZ s'
 | none=>none
theorem Fc {aA:List (Nat×Sh)}{aZ:List (Nat×Oh)}{s t:ah S}(hl:aY s) (h:Db aA aZ s=some t):Gh s.er t.er∧aY t∧bz s t:=by
 unfold Db at h
 split at h
 ·rename_i s' hs
  obtain⟨a1,a2,a3⟩:=eB hl hs
  obtain⟨b1,b2,b3⟩:=qj a2 h
  exact⟨a1.trans b1,b2,a3.trans b3⟩
 ·cases h
def Cg (s:ah S) (j:JH):Option (ah S):=match Db j.aA j.aZ s with
 | some s'=>pW (KE s'.bW j.aA++Cu s'.bg j.aZ) s'
 | none=>none
theorem AZ {s t:ah S}{j:JH}(hl:aY s) (h:Cg s j=some t):Gh s.er t.er∧aY t∧bz s t:=by
 unfold Cg at h
 split at h
 ·rename_i s' hs
  obtain⟨a1,a2,a3⟩:=Fc hl hs
  obtain⟨b1,b2,b3⟩:=lQ a2 h
  exact⟨a1.trans b1,b2,a3.trans b3⟩
 ·cases h
def carry (t:ah S) (j:JH):Option (bj S.α j.dg):=
 match Cg t j with
 | some t'=>match Iy t' with
  | true=>match wO t' j with
   | some ls=>lA j.dg ls
   | none=>none
  | false=>none
 | none=>none
theorem xy {s t:ah S}{c:Cut}{A H B:List Nat}{j:JH}{q:bj S.α j.dg}(hcc:c=dV s A H B) (hc:ta s c) (hj:Aq c j=true) (h1:t.lo=cc c.D s.bW) (h2:t.bL=cc c.DO s.bg) (h3:t.df=s.df) (hl:aY t)
  (h:carry t j=some q):Gh t.er (kL s c j (leaves j.dg q)).er:=by
 unfold carry at h
 split at h
 ·rename_i t' hp
  obtain⟨a1,a2,a3⟩:=AZ hl hp
  split at h
  ·rename_i ha
   split at h
   ·rename_i ls hls
    rw[fY h]
    exact a1.trans (MM hcc hc hj (a3.lo.trans h1) (a3.bL.trans h2) (a3.df.trans h3) ha hls)
   ·cases h
  ·cases h
 ·cases h
theorem u7 {s t:ah S}{c:Cut}{A H B:List Nat}{j:JH}{q:bj S.α j.dg}(hcc:c=dV s A H B) (hc:ta s c) (hj:Aq c j=true) (h1:t.lo=cc c.D s.bW) (h2:t.bL=cc c.DO s.bg) (h3:t.df=s.df) (hl:aY t)
  (h:carry t j=some q):Gh t.er (qF s c j (leaves j.dg q)).er:=
 (xy hcc hc hj h1 h2 h3 hl h).trans (Ds (fun d=>by rw[PV hc]) (fun d=>by rw[PU hc]) rfl)
inductive mq where
 | join (j:JH)
 | Pf (j:JH)
 | loop (j:JH) (id:Nat) (x:JH)
 | gW (j:JH) (id:Nat) (x:JH)
 | my (W:List Nat)
 | fM (W:List Nat) (j:JH)
 | fz (l:List Nat)
 | tr (d:Nat)
 | th (h kty:Nat)
 | L7 (key hd:Nat)
def fh:List (Nat×mq)→Nat→Option mq
 | [],_=>none
 | (k,h)::r,p=>bif Nat.beq k p then some h else fh r p
def oZ:List Oper→List Nat
 | []=>[]
 | o::r=>match o.dst with
  | some d=>d::oZ r
  | none=>oZ r
def kO:Code→List Nat
 | .region _ ops _=>oZ ops.toList
 | .seq a b=>kO a++kO b
 | .cond _ a b=>kO a++kO b
 | .block _ c=>kO c
 | .loop c=>kO c
 | .scope c=>kO c
 | .rangeFunc _ ps a b=>ps.toList++(kO a++kO b)
 | _=>[]
def jx:Code→Nat
 | .seq x y=>jx x+jx y+1
 | .cond _ x y=>jx x+jx y+1
 | .block _ c=>jx c+1
 | .loop c=>jx c+1
 | .scope c=>jx c+1
 | _=>1
abbrev wu (S:eC):=ah S→(B:Type)→(Exit→ah S→Option B)→Option B
def DV (s:ah S) (c:Cut) (j:JH):Bool:=Le s c&&Aq c j
def zT:Exit→Bool
 | .panic _=>true
 | _=>false
def wY (s:ah S) (c:Cut) (j:JH) (at_:Exit→Bool) (run:wu S){A:Type}(K:Exit→ah S→Option A):Option A:=
 match DV s c j with
 | true=>Option.bind (run (xv s c) (bj S.α j.dg) fun e t=>match at_ e with
   | true=>carry t j
   | false=>none) fun q=>K .normal (qF s c j (leaves j.dg q))
 | false=>none
def zO (s:ah S) (c:Cut) (j:JH) (at_:Exit→Bool) (run:wu S){A:Type}(K:Exit→ah S→Option A):Option A:=
 match DV s c j with
 | true=>eS (fun r=>r) (run (xv s c) (Ex (bj S.α j.dg) A) fun e t=>match at_ e with
   | true=>match carry t j with
    | some q=>some (.dS q)
    | none=>none
   | false=>match K e (flat s c t) with
     | some r=>some (.ret r)
     | none=>none) fun q=>K .normal (qF s c j (leaves j.dg q))
 | false=>none
def lO:Exit→Bool
 | .normal=>true
 | _=>false
def xd (id:Nat):Exit→Bool
 | .normal=>true
 | .exit id'=>Nat.beq id' id
 | _=>false
def KL (fu:Nat) (s:ah S) (c:Cut) (j:JH) (id:Nat) (x:JH) (run:wu S){A:Type}(K:Exit→ah S→Option A):Option A:=
 match DV s c j&&Aq c x with
 | true=>match wO s j with
   | some ls=>match lA j.dg ls with
    | some q0=>Option.bind (aB (fun q=>run (kL s c j (leaves j.dg q)) (bj S.α j.dg⊕bj S.α x.dg) fun e t=>match e with
      | .normal=>match carry t j with
       | some q=>some (.inl q)
       | none=>none
      | .exit id'=>match Nat.beq id' id with
       | true=>match carry t x with
        | some q=>some (.inr q)
        | none=>none
       | false=>none
      | _=>none) fu q0) fun q=>K (.exit id) (qF s c x (leaves x.dg q))
    | none=>none
   | none=>none
 | false=>none
def gW (fu:Nat) (s:ah S) (c:Cut) (j:JH) (id:Nat) (x:JH) (run:wu S){A:Type}(K:Exit→ah S→Option A):Option A:=
 match DV s c j&&Aq c x with
 | true=>match wO s j with
   | some ls=>match lA j.dg ls with
    | some q0=>eS (fun r=>r) (aB (fun q=>run (kL s c j (leaves j.dg q)) (bj S.α j.dg⊕Ex (bj S.α x.dg) A) fun e t=>match e with
      | .normal=>match carry t j with
       | some q=>some (.inl q)
       | none=>none
      | .exit id'=>match Nat.beq id' id with
       | true=>match carry t x with
        | some q=>some (.inr (.dS q))
        | none=>none
       | false=>match K (.exit id') (flat s c t) with
        | some r=>some (.inr (.ret r))
        | none=>none
      | e=>match K e (flat s c t) with
        | some r=>some (.inr (.ret r))
        | none=>none) fu q0) fun q=>K (.exit id) (qF s c x (leaves x.dg q))
    | none=>none
   | none=>none
 | false=>none
def Kx (h:Option mq) (s:ah S){A:Type}(k:ah S→Option A):Option A:=
 match h with
 | some (.fz l)=>match pW l s with
  | some s'=>k s'
  | none=>none
 | some (.tr d)=>yi s (.tmp d) k
 | some (.th h kty)=>Fp s h kty k
 | _=>k s
theorem Ja {h:Option mq}{s:ah S}{A:Type}{k:ah S→Option A}{r:A}(hl:aY s) (e:Kx h s k=some r):∃t,Gh s.er t.er∧aY t∧bz s t∧k t=some r:=by
 unfold Kx at e
 split at e
 ·split at e
  ·rename_i s' hz
   obtain⟨a1,a2,a3⟩:=lQ hl hz
   exact⟨s',a1,a2,a3,e⟩
  ·cases e
 ·exact yh hl e
 ·exact F4 hl e
 ·exact⟨s,Gh.refl _,hl,bz.refl s,e⟩
def lF:Code→Nat→List (Nat×Array Tmp×Code×Code)
 | .seq x y,p=>lF x (p+1)++lF y (p+1+jx x)
 | .cond _ x y,p=>lF x (p+1)++lF y (p+1+jx x)
 | .block _ c,p=>lF c (p+1)
 | .loop c,p=>lF c (p+1)
 | .rangeFunc _ ps a b,p=>[(p,ps,a,b)]
 | _,_=>[]
def oF (S:eC) (N:Nat) (H:List (Nat×mq)):List (Nat×Array Tmp×Code×Code)→Prop
 | []=>True
 | (p,ps,a,b)::r=>(match fh H p with
  | some (.L7 key _)=>(S.eT key).N=N∧(S.eT key).ps=ps∧(S.eT key).lj=a∧(S.eT key).body=b
  | _=>True)∧oF S N H r
theorem oF.gv {N:Nat}{H:List (Nat×mq)}:∀{a b:List (Nat×Array Tmp×Code×Code)},oF S N H (a++b)→oF S N H a∧oF S N H b
 | [],b,h=>⟨trivial,h⟩
 | x::r,b,h=>⟨⟨h.1,(oF.gv h.2).1⟩,(oF.gv h.2).2⟩
structure Cl (S:eC) where
 call:(Nat→Bool)→(A:Type)→(List PanicEntry→ah S→Option A)→ah S→Option Nat→Call→(ah S→Option A)→Option A
 rf:(key hd:Nat)→ah S→Operand→(A:Type)→(Exit→ah S→Option A)→Option A
def vP (ds:List Nat):List (Nat×TV S)→Bool
 | []=>true
 | (d,_)::r=>!(br d ds)&&vP ds r
def forget (ds:List Nat) (s:ah S):ah S:={s with fr:=cc ds s.fr,last:=[]}
def Ao (ops:Array Oper){A:Type}(K:Exit→ah S→Option A) (ch:List PanicEntry) (t:ah S):Option A:=
 match vP (oZ ops.toList) t.lo with
 | true=>K (.panic ch) (forget (oZ ops.toList) t)
 | false=>none
noncomputable def gG (P:Program) (N fu:Nat) (H:List (Nat×mq)) (cl:Cl S):Code→Nat→ah S→(A:Type)→(Exit→ah S→Option A)→Option A
 | .skip,_,s,_,K=>K .normal s
 | .region _ ops draw,p,s,A,K=>match fh H p with
  | some (.fM W j)=>wY s (dV s (oZ ops.toList) (aF j.aZ) (aF j.aA)) j lO (fun s' B K'=>match draw with
   | true=>u3 P N (fun h=>br h W) W ops (cl.call (fun h=>br h W) B (Ao ops K')) s' (K' .normal)
   | false=>pD P N (fun h=>Nat.blt h 1100) ops.toList (cl.call (fun h=>Nat.blt h 1100) B fun ch=>K' (.panic ch)) ops.toList s' (K' .normal)) K
  | some (.my W)=>match draw with
   | true=>u3 P N (fun h=>br h W) W ops (cl.call (fun h=>br h W) A (Ao ops K)) s (K .normal)
   | false=>pD P N (fun h=>Nat.blt h 1100) ops.toList (cl.call (fun h=>Nat.blt h 1100) A fun ch=>K (.panic ch)) ops.toList s (K .normal)
  | _=>Kx (fh H p) s fun s=>match draw with
   | true=>u3 P N (fun h=>Nat.blt h 1100) (List.range 1100) ops (cl.call (fun h=>Nat.blt h 1100) A (Ao ops K)) s (K .normal)
   | false=>pD P N (fun h=>Nat.blt h 1100) ops.toList (cl.call (fun h=>Nat.blt h 1100) A fun ch=>K (.panic ch)) ops.toList s (K .normal)
 | .seq x y,p,s,A,K=>Kx (fh H p) s fun s=>gG P N fu H cl x (p+1) s A fun e s'=>match e with
  | .normal=>gG P N fu H cl y (p+1+jx x) s' A K
  | e=>K e s'
 | .cond o x y,p,s,A,K=>match o with
  | .tmp t=>match bc s.bW t with
   | some (.ab _ .bool b)=>match fh H p with
    | some (.join j)=>wY s (dV s (kO x++kO y) (aF j.aZ) (aF j.aA)) j lO (fun s' B K'=>cond b (gG P N fu H cl x (p+1) s' B K') (gG P N fu H cl y (p+1+jx x) s' B K')) K
    | some (.Pf j)=>zO s (dV s (kO x++kO y) (aF j.aZ) (aF j.aA)) j lO (fun s' B K'=>cond b (gG P N fu H cl x (p+1) s' B K') (gG P N fu H cl y (p+1+jx x) s' B K')) K
    | _=>cond b (gG P N fu H cl x (p+1) s A K) (gG P N fu H cl y (p+1+jx x) s A K)
   | _=>none
  | _=>none
 | .block id c,p,s,A,K=>match fh H p with
  | some (.join j)=>wY s (dV s (kO c) (aF j.aZ) (aF j.aA)) j (xd id) (fun s' B K'=>gG P N fu H cl c (p+1) s' B K') K
  | some (.Pf j)=>zO s (dV s (kO c) (aF j.aZ) (aF j.aA)) j (xd id) (fun s' B K'=>gG P N fu H cl c (p+1) s' B K') K
  | _=>gG P N fu H cl c (p+1) s A fun e s'=>match e with
   | .exit id'=>match Nat.beq id' id with
    | true=>K .normal s'
    | false=>K (.exit id') s'
   | e=>K e s'
 | .loop c,p,s,A,K=>match fh H p with
  | some (.loop j id x)=>match Cg s j with
   | some s'=>KL fu s' (dV s' (kO c) (aF j.aZ) (aF j.aA)) j id x (fun s' B K'=>gG P N fu H cl c (p+1) s' B K') K
   | none=>none
  | some (.gW j id x)=>match Cg s j with
   | some s'=>gW fu s' (dV s' (kO c) (aF j.aZ) (aF j.aA)) j id x (fun s' B K'=>gG P N fu H cl c (p+1) s' B K') K
   | none=>none
  | _=>none
 | .exit id,_,s,_,K=>K (.exit id) s
 | .ret,_,s,_,K=>K .ret s
 | .rangeFunc g _ _ _,p,s,A,K=>match fh H p with
  | some (.L7 key hd)=>cl.rf key hd s g A K
  | _=>none
 | _,_,_,_,_=>none
section
variable {P:Program}{N:Nat}{cx:Cx}
def IG (P:Program) (N:Nat) (cx:Cx) (c:Code) (run:wu S):Prop:=
 ∀(s:ah S) (B:Type) (K:Exit→ah S→Option B) (r:B),aY s→run s B K=some r→∀Q:Exit→St→Prop,(∀e t,aY t→bz s t→K e t=some r→Q e t.er)→GW P N cx c Q s.er
theorem GW.Pb {σ ρ:Type}{c:Code}{Q:Exit→St→Prop}(E:σ→St) (R:ρ→Exit→St→Prop){body:σ→Option (σ⊕ρ)}{n:Nat}{x0:σ}{e:ρ}(hl:AM.aB body n x0=some e)
  (hr:∀x o,body x=some o→GW P N cx c (fun ex s=>match o with | .inl x'=>ex=.normal∧Gh s (E x') | .inr r=>ex≠.normal∧R r ex s) (E x)) (hq:∀ex s,ex≠.normal→R e ex s→Q ex s):GW P N cx (.loop c) Q (E x0):=by
 intro μ a w hrel
 refine BW (fun k a w=>∃x μ,AM.aB body k x=some e∧Rel N cx μ (E x) a w) n ⟨x0,μ,hl,hrel⟩ ?_
 rintro k a w ⟨x,μ,hI,hrel⟩
 cases k with
 | zero=>exact absurd hI (by simp[AM.aB])
 | succ k=>
  simp only[AM.aB] at hI
  cases hb:body x with
  | none=>rw[hb] at hI;cases hI
  | some o=>
   rw[hb] at hI
   refine wpIn_mono (hr x o hb μ a w hrel) fun ex a' w' hl=>?_
   cases o with
   | inl x'=>
    cases ex with
    | normal=>
     obtain⟨μ',s',hr',_,hg⟩:=hl
     obtain⟨μ2,h1,_⟩:=hg N cx μ' a' w' hr'
     exact⟨k,jS k,x',μ2,hI,h1⟩
    | outgrown=>exact hl.elim
    | _=>obtain⟨μ',s',hr',hq',_⟩:=hl;cases hq'
   | inr r=>
    cases hI
    cases ex with
    | normal=>obtain⟨μ',s',hr',hq',_⟩:=hl;exact absurd rfl hq'
    | outgrown=>exact hl.elim
    | _=>obtain⟨μ',s',hr',hn,hq'⟩:=hl;exact⟨μ',s',hr',hq _ _ hn hq'⟩
theorem uZ {s:ah S}{c:Cut}{j:JH}(h:DV s c j=true):ta s c∧Aq c j=true:=by
 unfold DV at h
 simp only[aj] at h
 exact⟨Ld h.1,h.2⟩
theorem GW.Cf {c:Code}{Q Q':Exit→St→Prop}{s:St}(h:GW P N cx c Q' s) (hq:∀e s,Q' e s→∃t,Gh s t∧Q e t):GW P N cx c Q s:=fun μ a w hr=>
 wpIn_mono (h μ a w hr) fun e a' w' hl=>by
  cases e with
  | outgrown=>exact hl.elim
  | _=>
   obtain⟨μ',s',hr',h4⟩:=hl
   obtain⟨t,h5,h6⟩:=hq _ _ h4
   obtain⟨μ2,h7,_⟩:=h5 N cx μ' a' w' hr'
   exact⟨μ2,t,h7,h6⟩
theorem CU {s t:ah S}{c:Cut}(h:bz (xv s c) t):t.lo=cc c.D s.bW∧t.bL=cc c.DO s.bg∧t.df=s.df:=⟨h.lo,h.bL,h.df⟩
theorem Bc {code:Code}{s:ah S}{A H B:List Nat}{j:JH}{at_:Exit→Bool}{run:wu S}{X:Type}{K:Exit→ah S→Option X}{r:X}(hat:∀e,at_ e=true→zT e=false) (hrun:IG P N cx code run) (hl:aY s)
  (h:wY s (dV s A H B) j at_ run K=some r){Q:Exit→St→Prop}(hQ:∀e t,aY t→bz s t→K e t=some r→Q e t.er):
  GW P N cx code (fun e s'=>at_ e=true∧∃t,Gh s' t∧Q .normal t) s.er:=by
 unfold wY at h
 split at h
 ·rename_i hf
  obtain⟨hc,hj⟩:=uZ hf
  obtain⟨q,h1,h2⟩:=bind_some h
  obtain⟨g1,g2⟩:=Ij s (dV s A H B) hl
  refine GW.gh g1 (hrun _ _ _ q g2 h1 _ fun e t hlt hk hK=>?_)
  split at hK
  ·rename_i he
   obtain⟨k1,k2,k3⟩:=CU hk
   exact⟨he,_,u7 rfl hc hj k1 k2 k3 hlt hK,hQ _ _ (gH rfl) ⟨rfl,rfl,rfl⟩ h2⟩
  ·cases hK
 ·cases h
theorem Hk {code:Code}{s:ah S}{A H B:List Nat}{j:JH}{at_:Exit→Bool}{run:wu S}{X:Type}{K:Exit→ah S→Option X}{r:X}(hat:∀e,at_ e=true→zT e=false) (hrun:IG P N cx code run) (hl:aY s)
  (h:zO s (dV s A H B) j at_ run K=some r){Q:Exit→St→Prop}(hQ:∀e t,aY t→bz s t→K e t=some r→Q e t.er):
  GW P N cx code (fun e s'=>(at_ e=true∧∃t,Gh s' t∧Q .normal t)∨(at_ e=false∧∃t,Gh s' t∧Q e t)) s.er:=by
 unfold zO at h
 split at h
 ·rename_i hf
  obtain⟨hc,hj⟩:=uZ hf
  obtain⟨ex,h1,h2,h3⟩:=C6 h
  obtain⟨g1,g2⟩:=Ij s (dV s A H B) hl
  refine GW.gh g1 (hrun _ _ _ ex g2 h1 _ fun e t hlt hk hK=>?_)
  obtain⟨k1,k2,k3⟩:=CU hk
  split at hK
  ·rename_i he
   split at hK
   ·rename_i q hq
    cases hK
    exact .inl ⟨he,_,u7 rfl hc hj k1 k2 k3 hlt hq,hQ _ _ (gH rfl) ⟨rfl,rfl,rfl⟩ (h2 q rfl)⟩
   ·cases hK
  ·rename_i he
   split at hK
   ·rename_i r' hr'
    cases hK
    obtain⟨f1,f2,f3⟩:=JA hc k1 k2 k3 hlt
    refine .inr ⟨he,_,f1,hQ e _ f2 f3 ?_⟩
    rw[hr',←h3 r' rfl]
   ·cases hK
 ·cases h
theorem NY {body:Code}{fu:Nat}{s:ah S}{A H B:List Nat}{j x:JH}{id:Nat}{run:wu S}{X:Type}{K:Exit→ah S→Option X}{r:X}(hrun:IG P N cx body run) (hl:aY s)
  (h:KL fu s (dV s A H B) j id x run K=some r){Q:Exit→St→Prop}(hQ:∀e t,aY t→bz s t→K e t=some r→Q e t.er):
  GW P N cx (.loop body) Q s.er:=by
 unfold KL at h
 split at h
 ·rename_i hf
  simp only[aj] at hf
  obtain⟨hc,hj⟩:=uZ hf.1
  have hx:=hf.2
  split at h
  ·rename_i ls hls
   split at h
   ·rename_i q0 hq0
    obtain⟨q,h1,h2⟩:=bind_some h
    refine GW.gh (Ju rfl hc hj hls) ?_
    rw[←fY hq0]
    refine GW.Cf (GW.Pb (fun q=>(kL s (dV s A H B) j (leaves j.dg q)).er) (fun (b:bj S.α x.dg) e s'=>e=.exit id∧∃t,Gh s' t∧t=(qF s (dV s A H B) x (leaves x.dg b)).er) h1 (Q:=fun e s'=>e=.exit id∧∃t,Gh s' t∧t=(qF s (dV s A H B) x (leaves x.dg q)).er) (fun q' o ho=>?_) (fun e s' hne hR=>hR)) (fun e s' hR=>?_)
    ·refine hrun _ _ _ o (gH rfl) ho _ fun e t hlt hk hK=>?_
     have k1:t.lo=cc (dV s A H B).D s.bW:=hk.lo
     have k2:t.bL=cc (dV s A H B).DO s.bg:=hk.bL
     have k3:t.df=s.df:=hk.df
     split at hK
     ·split at hK
      ·rename_i q2 hq2
       cases hK
       exact⟨rfl,xy rfl hc hj k1 k2 k3 hlt hq2⟩
      ·cases hK
     ·split at hK
      ·rename_i hid
       split at hK
       ·rename_i q2 hq2
        cases hK
        have:=aa hid
        subst this
        exact⟨fun e=>(by cases e),rfl,_,u7 rfl hc hx k1 k2 k3 hlt hq2,rfl⟩
       ·cases hK
      ·cases hK
     ·cases hK
    ·obtain⟨e1,t,e2,e3⟩:=hR
     subst e1;subst e3
     exact⟨_,e2,hQ _ _ (gH (t:=qF s (dV s A H B) x (leaves x.dg q)) rfl) ⟨rfl,rfl,rfl⟩ h2⟩
   ·cases h
  ·cases h
 ·cases h
def LR {β X:Type}(s:ah S) (K:Exit→ah S→Option X) (id:Nat) (out:β→St) (b:Ex β X) (e:Exit) (s':St):Prop:=
 match b with
 | .dS b=>e=.exit id∧∃t,Gh s' t∧t=out b
 | .ret r'=>∃t:ah S,Gh s' t.er∧aY t∧bz s t∧K e t=some r'
theorem NX {body:Code}{fu:Nat}{s:ah S}{A H B:List Nat}{j x:JH}{id:Nat}{run:wu S}{X:Type}{K:Exit→ah S→Option X}{r:X}(hrun:IG P N cx body run) (hl:aY s)
  (h:gW fu s (dV s A H B) j id x run K=some r){Q:Exit→St→Prop}(hQ:∀e t,aY t→bz s t→K e t=some r→Q e t.er):
  GW P N cx (.loop body) Q s.er:=by
 unfold gW at h
 split at h
 ·rename_i hf
  simp only[aj] at hf
  obtain⟨hc,hj⟩:=uZ hf.1
  have hx:=hf.2
  split at h
  ·rename_i ls hls
   split at h
   ·rename_i q0 hq0
    obtain⟨ex,h1,h2,h3⟩:=C6 h
    refine GW.gh (Ju rfl hc hj hls) ?_
    rw[←fY hq0]
    refine GW.Cf (GW.Pb (fun q=>(kL s (dV s A H B) j (leaves j.dg q)).er)
     (LR s K id fun b=>(qF s (dV s A H B) x (leaves x.dg b)).er) h1
     (Q:=LR s K id (fun b=>(qF s (dV s A H B) x (leaves x.dg b)).er) ex) (fun q' o ho=>?_) (fun e s' hne hR=>hR)) (fun e s' hR=>?_)
    ·refine hrun _ _ _ o (gH rfl) ho _ fun e t hlt hk hK=>?_
     have k1:t.lo=cc (dV s A H B).D s.bW:=hk.lo
     have k2:t.bL=cc (dV s A H B).DO s.bg:=hk.bL
     have k3:t.df=s.df:=hk.df
     obtain⟨f1,f2,f3⟩:=JA hc k1 k2 k3 hlt
     split at hK
     ·split at hK
      ·rename_i q2 hq2
       cases hK
       exact⟨rfl,xy rfl hc hj k1 k2 k3 hlt hq2⟩
      ·cases hK
     ·split at hK
      ·rename_i hid
       split at hK
       ·rename_i q2 hq2
        cases hK
        have:=aa hid
        subst this
        exact⟨fun e=>(by cases e),rfl,_,u7 rfl hc hx k1 k2 k3 hlt hq2,rfl⟩
       ·cases hK
      ·split at hK
       ·rename_i r' hr'
        cases hK
        exact⟨fun e=>(by cases e),_,f1,f2,f3,hr'⟩
       ·cases hK
     ·rename_i hn1 hn2
      split at hK
      ·rename_i r' hr'
       cases hK
       exact⟨fun e=>hn1 e,_,f1,f2,f3,hr'⟩
      ·cases hK
    ·cases ex with
     | dS b=>
      obtain⟨e1,t,e2,e3⟩:=hR
      subst e1;subst e3
      exact⟨_,e2,hQ _ _ (gH (t:=qF s (dV s A H B) x (leaves x.dg b)) rfl) ⟨rfl,rfl,rfl⟩ (h2 b rfl)⟩
     | ret r'=>
      obtain⟨t,e2,e3,e4,e5⟩:=hR
      refine⟨_,e2,hQ _ _ e3 e4 ?_⟩
      rw[e5,←h3 r' rfl]
   ·cases h
  ·cases h
 ·cases h
end
end
end Go.DN
/-
 DN,part S:what the code does is what 'denC' says.
-/
namespace Go.DN
open Go.AM
section
variable {S:eC}{P:Program}{N:Nat}{cx:Cx}{fu:Nat}{H:List (Nat×mq)}{cl:Cl S}
structure Ac (P:Program) (N:Nat) (cl:Cl S):Prop where
 call:∀(ok:Nat→Bool) (W:List Nat),(∀h,ok h=true→W.contains h=true)→∀(A:Type) (kp:List PanicEntry→ah S→Option A) (r:A),zA P N W (cl.call ok A kp) kp r
 cq:∀(ok:Nat→Bool) (A:Type) (kp:List PanicEntry→ah S→Option A) (r:A),O2 P N (cl.call ok A kp) r
 rf:∀(cx:Cx),cx.ro=none→∀(key hd:Nat) (g:Operand),(S.eT key).N=N→∀(s:ah S) (B:Type) (K:Exit→ah S→Option B) (r:B),aY s→cl.rf key hd s g B K=some r→∀Q:Exit→St→Prop,(∀e t,aY t→bz s t→K e t=some r→Q e t.er)→
  GW P N cx (.rangeFunc g (S.eT key).ps (S.eT key).lj (S.eT key).body) Q s.er
theorem wK:∀h,Nat.blt h 1100=true→(List.range 1100).contains h=true:=fun h hh=>fJ.2 (List.mem_range.2 (by simpa[fU] using hh))
theorem Jj (W:List Nat):∀h,br h W=true→W.contains h=true:=fun h hh=>fJ.2 (bO.1 hh)
theorem Gh.lift {c:Code}{Q:Exit→St→Prop}{s:St}(h:GW P N cx c (fun e s'=>∃t,Gh s' t∧Q e t) s):GW P N cx c Q s:=
 GW.Cf h fun e s' hq=>hq
theorem BQ:∀{l:List Oper}{d:Nat},d∈l.filterMap (·.dst)→d∈oZ l
 | [],d,h=>by cases h
 | o::r,d,h=>by
  simp only[oZ]
  cases ho:o.dst with
  | none=>
   rw[List.filterMap_cons_none ho] at h
   exact BQ h
  | some x=>
   rw[List.filterMap_cons_some ho] at h
   rcases aX.1 h with e | h
   ·subst e;exact av
   ·exact ao _ (BQ h)
theorem Ct {ds:List Nat}:∀{l:List (Nat×TV S)}{d:Nat},vP ds l=true→d∈ds→bc l d=none
 | [],_,_,_=>rfl
 | (k,v)::r,d,h,hm=>by
  simp only[vP,aj,a6] at h
  simp only[bc]
  cases hb:Nat.beq k d with
  | true=>
   have:=aa hb
   subst this
   rw[bO.2 hm] at h;cases h.1
  | false=>exact Ct h.2 hm
theorem yW {ln:Nat→Nat}:∀{fr:List (Nat×TV S)}{t:Nat},bc fr t=none→get (gf ln fr) t=none
 | [],_,_=>rfl
 | (k,g)::r,t,h=>by
  simp only[bc] at h
  simp only[gf,AM.get]
  cases hk:Nat.beq k t with
  | true=>rw[hk] at h;cases h
  | false=>rw[hk] at h;exact yW h
theorem K4 (ds:List Nat) (s:ah S) (hn:vP ds s.lo=true) (d:Nat):bc (forget ds s).bW d=if br d ds=true then none else bc s.bW d:=by
 show bc (cc ds s.fr++s.lo) d=if br d ds=true then none else bc (s.fr++s.lo) d
 rw[jX,jX,jK]
 cases h:br d ds with
 | true=>rw[Ct hn (bO.1 h)];rfl
 | false=>rfl
theorem Gh.SZ {s t:St}(h1:∀d g,get t.fr d=some g→get s.fr d=some g) (h2:t.st=s.st) (h3:t.df=s.df):Gh s t:=by
 obtain⟨fr,st,df⟩:=s
 obtain⟨fr',st',df'⟩:=t
 dsimp only at h1 h2 h3
 subst h2;subst h3
 exact fun N cx μ a w hr=>⟨μ,{st:=hr.st,nd:=hr.nd,sz:=hr.sz,fr:=fun d g hg=>hr.fr d g (h1 d g hg)},Gh.same fun h k b m h4 h5=>⟨k,h4,h5⟩⟩
theorem Ay {ln:Nat→Nat}(fr:List (Nat×TV S)) (t:Nat):get (gf ln fr) t=(bc fr t).map (TV.er ln):=by
 cases h:bc fr t with
 | none=>exact yW h
 | some v=>exact fc h
theorem MT {ops:Array Oper}{s:ah S}(hn:vP (oZ ops.toList) s.lo=true):Gh s.er (forget (oZ ops.toList) s).er∧∀d,d∈qS ops→get (forget (oZ ops.toList) s).er.fr d=none:=by
 have key:∀d,get (forget (oZ ops.toList) s).er.fr d=if br d (oZ ops.toList)=true then none else get s.er.fr d:=by
  intro d
  show get (gf s.ln (forget (oZ ops.toList) s).bW) d=if br d (oZ ops.toList)=true then none else get (gf s.ln s.bW) d
  rw[Ay,Ay,K4 _ _ hn]
  split <;> rfl
 refine⟨Gh.SZ (fun d g hg=>?_) rfl rfl,fun d hd=>?_⟩
 ·rw[key] at hg
  split at hg
  ·cases hg
  ·exact hg
 ·rw[key,if_pos (bO.2 (BQ hd))]
theorem yz (hm:P.follows .mixedOrders=true) (hcl:Ac P N cl) (id:Nat) (ops:Array Oper) (draw:Bool) (W:Option (List Nat)):IG P N cx (.region id ops draw) (fun s B K=>match draw with
  | true=>match W with
   | some W=>u3 P N (fun h=>br h W) W ops (cl.call (fun h=>br h W) B (Ao ops K)) s (K .normal)
   | none=>u3 P N (fun h=>Nat.blt h 1100) (List.range 1100) ops (cl.call (fun h=>Nat.blt h 1100) B (Ao ops K)) s (K .normal)
  | false=>pD P N (fun h=>Nat.blt h 1100) ops.toList (cl.call (fun h=>Nat.blt h 1100) B fun ch=>K (.panic ch)) ops.toList s (K .normal)):=by
 intro s B K r hl h Q hQ
 have hp:∀ch (t:ah S),aY t→bz s t→Ao ops K ch t=some r→∃u,Gh t.er u∧Q (.panic ch) u∧∀d,d∈qS ops→get u.fr d=none:=by
  intro ch t a b c
  unfold Ao at c
  split at c
  ·rename_i hn
   obtain⟨f1,f2⟩:=MT hn
   exact⟨_,f1,hQ (.panic ch) _ (gH rfl) ⟨b.lo,b.bL,b.df⟩ c,f2⟩
  ·cases c
 cases draw with
 | true=>
  cases W with
  | some W=>exact H9 hm (Jj W) (hcl.call _ _ (Jj W) B (Ao ops K) r) hl h (fun t a b c=>hQ .normal t a b c) hp
  | none=>exact H9 hm wK (hcl.call _ _ wK B (Ao ops K) r) hl h (fun t a b c=>hQ .normal t a b c) hp
 | false=>
  have:ops=ops.toList.toArray:=by simp
  rw[this]
  exact GW.region (pe wK (hcl.call _ _ wK B _ r) (hcl.cq _ B _ r) hl h (fun t a b c=>hQ .normal t a b c) fun ch t a b c=>⟨_,Gh.refl _,hQ (.panic ch) t a b c⟩)
theorem xc:∀e,lO e=true→zT e=false:=fun e h=>by cases e <;> first | rfl | cases h
theorem Js (id:Nat):∀e,xd id e=true→zT e=false:=fun e h=>by cases e <;> first | rfl | cases h
theorem Am {c:Code}{Q:Exit→St→Prop}{s:St}(h:GW P N cx c (fun e s'=>lO e=true∧∃t,Gh s' t∧Q .normal t) s):GW P N cx c Q s:=
 Gh.lift (h.mono fun e s' ⟨h1,t,h2,h3⟩=>by
  cases e with
  | normal=>exact⟨t,h2,h3⟩
  | _=>cases h1)
theorem Hj {c:Code}{Q:Exit→St→Prop}{s:St}(h:GW P N cx c (fun e s'=>(lO e=true∧∃t,Gh s' t∧Q .normal t)∨(lO e=false∧∃t,Gh s' t∧Q e t)) s):GW P N cx c Q s:=
 Gh.lift (h.mono fun e s' hq=>by
  rcases hq with ⟨h1,t,h2,h3⟩ | ⟨h0,t,h2,h3⟩
  ·cases e with
   | normal=>exact⟨t,h2,h3⟩
   | _=>cases h1
  ·exact⟨t,h2,h3⟩)
theorem NV {id:Nat}{c:Code}{Q:Exit→St→Prop}{s:St}(h:GW P N cx c (fun e s'=>xd id e=true∧∃t,Gh s' t∧Q .normal t) s):GW P N cx (.block id c) Q s:=
 GW.block (Gh.lift (h.mono fun e s' ⟨h1,t,h2,h3⟩=>by
  refine⟨t,h2,?_⟩
  cases e with
  | normal=>exact h3
  | exit id'=>
   have:=aa h1
   subst this
   simp only[wy,if_true]
   exact h3
  | _=>cases h1))
theorem Mv {id:Nat}{c:Code}{Q:Exit→St→Prop}{s:St}(h:GW P N cx c (fun e s'=>(xd id e=true∧∃t,Gh s' t∧Q .normal t)∨(xd id e=false∧∃t,Gh s' t∧Q e t)) s):GW P N cx (.block id c) Q s:=
 GW.block (Gh.lift (h.mono fun e s' hq=>by
  rcases hq with ⟨h1,t,h2,h3⟩ | ⟨h0,t,h2,h3⟩
  ·refine⟨t,h2,?_⟩
   cases e with
   | normal=>exact h3
   | exit id'=>
    have:=aa h1
    subst this
    simp only[wy,if_true]
    exact h3
   | _=>cases h1
  ·refine⟨t,h2,?_⟩
   cases e with
   | normal=>exact h3
   | exit id'=>
    simp only[xd] at h0
    simp only[wy]
    rw[if_neg (fun e=>by subst e;rw[aH] at h0;cases h0)]
    exact h3
   | _=>exact h3))
theorem Rb {a b:List (Nat×Array Tmp×Code×Code)}(h:a++b=[]∨cx.ro=none):a=[]∨cx.ro=none:=h.imp (fun h=>(List.append_eq_nil_iff.1 h).1) id
theorem Ra {a b:List (Nat×Array Tmp×Code×Code)}(h:a++b=[]∨cx.ro=none):b=[]∨cx.ro=none:=h.imp (fun h=>(List.append_eq_nil_iff.1 h).2) id
theorem ju (hm:P.follows .mixedOrders=true) (hcl:Ac P N cl):∀(c:Code) (p:Nat),oF S N H (lF c p)→(lF c p=[]∨cx.ro=none)→IG P N cx c (fun s B K=>gG P N fu H cl c p s B K)
 | .skip,p,_,_=>fun s B K r hl h Q hQ=>GW.skip (hQ _ s hl (bz.refl s) h)
 | .region id ops draw,p,_,_=>fun s B K r hl h Q hQ=>by
  simp only[gG] at h
  split at h
  ·rename_i W j _
   refine Am (Bc xc (run:=fun s B K=>match draw with
    | true=>u3 P N (fun h=>br h W) W ops (cl.call (fun h=>br h W) B (Ao ops K)) s (K .normal)
    | false=>pD P N (fun h=>Nat.blt h 1100) ops.toList (cl.call (fun h=>Nat.blt h 1100) B fun ch=>K (.panic ch)) ops.toList s (K .normal)) ?_ hl h hQ)
   intro s B K r hl h Q hQ
   refine yz hm hcl id ops draw (some W) s B K r hl ?_ Q hQ
   cases draw <;> exact h
  ·rename_i W _
   refine yz hm hcl id ops draw (some W) s B K r hl ?_ Q hQ
   cases draw <;> exact h
  ·obtain⟨s1,g1,g2,g3,h⟩:=Ja hl h
   refine GW.gh g1 (yz hm hcl id ops draw none s1 B K r g2 ?_ Q fun e t a b c=>hQ e t a (g3.trans b) c)
   cases draw <;> exact h
 | .seq x y,p,hr,ho=>fun s B K r hl h Q hQ=>by
  simp only[gG] at h
  obtain⟨s1,g1,g2,g3,h⟩:=Ja hl h
  refine GW.gh g1 (GW.seq (ju hm hcl x _ hr.gv.1 (Rb ho) s1 B _ r g2 h _ fun e t hlt hk hK=>?_))
  cases e with
  | normal=>exact ju hm hcl y _ hr.gv.2 (Ra ho) t B K r hlt hK Q fun e' t' a b c=>hQ e' t' a (g3.trans (hk.trans b)) c
  | _=>exact hQ _ t hlt (g3.trans hk) hK
 | .cond o x y,p,hr,ho=>fun s B K r hl h Q hQ=>by
  simp only[gG] at h
  split at h
  ·rename_i t
   split at h
   ·rename_i f b hb
    have hg:get s.er.fr t=some (.val (.bool b)):=by rw[show get s.er.fr t=_ from fc hb];exact congrArg some (fZ f b)
    have sub:∀(s:ah S),(∀d,bc s.bW d=bc s.bW d)→True:=fun _ _=>trivial
    have hrun:IG P N cx (.cond (.tmp t) x y) (fun s' B' K'=>match bc s'.bW t with
     | some (.ab _ .bool b')=>cond b' (gG P N fu H cl x (p+1) s' B' K') (gG P N fu H cl y (p+1+jx x) s' B' K')
     | _=>none):=by
     intro s' B' K' r' hl' h' Q' hQ'
     dsimp only at h'
     split at h'
     ·rename_i f' b' hb'
      have hg':get s'.er.fr t=some (.val (.bool b')):=by rw[show get s'.er.fr t=_ from fc hb'];exact congrArg some (fZ f' b')
      refine GW.cond hg' (fun e=>?_) (fun e=>?_)
      ·subst e;exact ju hm hcl x _ hr.gv.1 (Rb ho) s' B' K' r' hl' h' Q' hQ'
      ·subst e;exact ju hm hcl y _ hr.gv.2 (Ra ho) s' B' K' r' hl' h' Q' hQ'
     ·cases h'
    split at h
    ·rename_i j _
     have h2:wY s (dV s (kO x++kO y) (aF j.aZ) (aF j.aA)) j lO (fun s' B' K'=>match bc s'.bW t with
      | some (.ab _ .bool b')=>cond b' (gG P N fu H cl x (p+1) s' B' K') (gG P N fu H cl y (p+1+jx x) s' B' K')
      | _=>none) K=some r:=by
      rw[←h]
      unfold wY
      split
      ·congr 1
       dsimp only
       rw[xu,hb]
      ·rfl
     exact Am (Bc xc hrun hl h2 hQ)
    ·rename_i j _
     have h2:zO s (dV s (kO x++kO y) (aF j.aZ) (aF j.aA)) j lO (fun s' B' K'=>match bc s'.bW t with
      | some (.ab _ .bool b')=>cond b' (gG P N fu H cl x (p+1) s' B' K') (gG P N fu H cl y (p+1+jx x) s' B' K')
      | _=>none) K=some r:=by
      rw[←h]
      unfold zO
      split
      ·congr 1
       dsimp only
       rw[xu,hb]
      ·rfl
     exact Hj (Hk xc hrun hl h2 hQ)
    ·refine GW.cond hg (fun e=>?_) (fun e=>?_)
     ·subst e;exact ju hm hcl x _ hr.gv.1 (Rb ho) s B K r hl h Q hQ
     ·subst e;exact ju hm hcl y _ hr.gv.2 (Ra ho) s B K r hl h Q hQ
   ·cases h
  ·cases h
 | .block id c,p,hr,ho=>fun s B K r hl h Q hQ=>by
  simp only[gG] at h
  split at h
  ·exact NV (Bc (Js id) (ju hm hcl c _ hr ho) hl h hQ)
  ·exact Mv (Hk (Js id) (ju hm hcl c _ hr ho) hl h hQ)
  ·refine GW.block (ju hm hcl c _ hr ho s B _ r hl h _ fun e t hlt hk hK=>?_)
   cases e with
   | exit id'=>
    dsimp only at hK
    simp only[wy]
    split at hK
    ·rename_i he
     rw[if_pos (aa he)]
     exact hQ _ t hlt hk hK
    ·rename_i he
     rw[if_neg (fun e=>by subst e;rw[aH] at he;cases he)]
     exact hQ _ t hlt hk hK
   | _=>exact hQ _ t hlt hk hK
 | .loop c,p,hr,ho=>fun s B K r hl h Q hQ=>by
  simp only[gG] at h
  split at h
  ·split at h
   ·rename_i s' hp
    obtain⟨a1,a2,a3⟩:=AZ hl hp
    exact GW.gh a1 (NY (ju hm hcl c _ hr ho) a2 h fun e t x y z=>hQ e t x (a3.trans y) z)
   ·cases h
  ·split at h
   ·rename_i s' hp
    obtain⟨a1,a2,a3⟩:=AZ hl hp
    exact GW.gh a1 (NX (ju hm hcl c _ hr ho) a2 h fun e t x y z=>hQ e t x (a3.trans y) z)
   ·cases h
  ·cases h
 | .exit id,p,_,_=>fun s B K r hl h Q hQ=>GW.exit (hQ _ s hl (bz.refl s) h)
 | .ret,p,_,_=>fun s B K r hl h Q hQ=>GW.ret (hQ _ s hl (bz.refl s) h)
 | .rangeFunc g ps a b,p,hr,ho=>fun s B K r hl h Q hQ=>by
  simp only[gG] at h
  split at h
  ·rename_i key hd hh
   have h1:=hr.1
   rw[hh] at h1
   obtain⟨e1,e2,e3,e4⟩:=h1
   subst e2;subst e3;subst e4
   exact hcl.rf cx (ho.resolve_left fun h=>by cases h) key hd g e1 s B K r hl h Q hQ
  ·cases h
 | .scope _,p,_,_=>fun s B K r hl h Q hQ=>by simp[gG] at h
 | .label _,p,_,_=>fun s B K r hl h Q hQ=>by simp[gG] at h
 | .goto _,p,_,_=>fun s B K r hl h Q hQ=>by simp[gG] at h
 | .refuse _,p,_,_=>fun s B K r hl h Q hQ=>by simp[gG] at h
end
end Go.DN
/-
 DN,part Sb:a lent slice under a number of the call's own.
-/
namespace Go.DN
open Go.AM
mutual
theorem Mq {h h':Nat}:∀g:G,g.b7 h=false→mF h h' g=g
 | .loc x off,e=>by
  show G.loc (mv h h' x) off=_
  rw[iD fun e'=>by subst e';simp[G.b7,aH] at e]
 | .aQ x sz off n,e=>by
  show G.aQ (mv h h' x) sz off n=_
  rw[iD fun e'=>by subst e';simp[G.b7,aH] at e]
 | .cq x,e=>by
  show G.cq (mv h h' x)=_
  rw[iD fun e'=>by subst e';simp[G.b7,aH] at e]
 | .dR x,e=>by
  show G.dR (mv h h' x)=_
  rw[iD fun e'=>by subst e';simp[G.b7,aH] at e]
 | .ks x i sz n,e=>by
  show G.ks (mv h h' x) i sz n=_
  rw[iD fun e'=>by subst e';simp[G.b7,aH] at e]
 | .kp x i off,e=>by
  show G.kp (mv h h' x) i off=_
  rw[iD fun e'=>by subst e';simp[G.b7,aH] at e]
 | .agg gs,e=>congrArg G.agg (zM gs e)
 | .bj gs,e=>congrArg G.bj (zM gs e)
 | .aE f gs,e=>congrArg (G.aE f) (zM gs e)
 | .any,_=>rfl
 | .val _,_=>rfl
 | .sl _ _,_=>rfl
 | .ptr _,_=>rfl
 | .fr _,_=>rfl
theorem zM {h h':Nat}:∀gs:List G,G.b7.go h gs=false→mF.go h h' gs=gs
 | [],_=>rfl
 | x::r,e=>by
  simp only[G.b7.go,bE] at e
  simp only[mF.go,Mq x e.1,zM r e.2]
end
section
variable {S:eC}
def yI (h h':Nat):TV S→TV S
 | .loc x o=>.loc (mv h h' x) o
 | .gI x τ i j=>.gI (mv h h' x) τ i j
 | .aQ x τ=>.aQ (mv h h' x) τ
 | .sub x τ o n=>.sub (mv h h' x) τ o n
 | .cq x=>.cq (mv h h' x)
 | .mp x=>.mp (mv h h' x)
 | .ks x τ i n=>.ks (mv h h' x) τ i n
 | .kp x τ i j=>.kp (mv h h' x) τ i j
 | .fB b x τ i j=>.fB b (mv h h' x) τ i j
 | .agg l=>.agg (go l)
 | .bj l=>.bj (go l)
 | .aE f l=>.aE f (go l)
 | v=>v
where go:List (TV S)→List (TV S)
 | []=>[]
 | x::r=>yI h h' x::go r
mutual
theorem Mp {h h':Nat}{ln ln':Nat→Nat}(hln:∀x,x≠h'→ln' (mv h h' x)=ln x):∀v:TV S,v.has h'=false→(yI h h' v).er ln'=mF h h' (v.er ln)
 | .ab f τ a,_=>(Mq _ (Ih h f τ a)).symm
 | .ptr f τ a,_=>by cases f <;> rfl
 | .loc _ _,_=>rfl
 | .gI _ _ _ _,_=>rfl
 | .aQ x τ,e=>by
  show G.aQ _ _ _ (ln' (mv h h' x))=G.aQ _ _ _ (ln x)
  rw[hln x fun e'=>by subst e';simp[TV.has,aH] at e]
 | .sub _ _ _ _,_=>rfl
 | .cq _,_=>rfl
 | .mp _,_=>rfl
 | .ks _ _ _ _,_=>rfl
 | .kp _ _ _ _,_=>rfl
 | .fB b _ _ _ _,_=>by cases b <;> rfl
 | .val _,_=>rfl
 | .any,_=>rfl
 | .agg l,e=>congrArg G.agg (qL hln l e)
 | .bj l,e=>congrArg G.bj (qL hln l e)
 | .aE f l,e=>congrArg (G.aE f) (qL hln l e)
theorem qL {h h':Nat}{ln ln':Nat→Nat}(hln:∀x,x≠h'→ln' (mv h h' x)=ln x):∀l:List (TV S),TV.has.go h' l=false→TV.er.go ln' (yI.go h h' l)=mF.go h h' (TV.er.go ln l)
 | [],_=>rfl
 | x::r,e=>by
  simp only[TV.has.go,bE] at e
  simp only[yI.go,TV.er.go,mF.go,Mp hln x e.1,qL hln r e.2]
end
def Rf (h h':Nat):TO S→TO S
 | .box e m cs=>.box e m (yI.go h h' cs)
 | .lp l n cs=>.lp l n (yI.go h h' cs)
 | o=>o
def Mr (h h':Nat):List (Nat×TV S)→List (Nat×TV S)
 | []=>[]
 | (t,v)::r=>(t,yI h h' v)::Mr h h' r
def EH (h h':Nat):List (Nat×TO S)→List (Nat×TO S)
 | []=>[]
 | (k,o)::r=>(mv h h' k,Rf h h' o)::EH h h' r
def ah.move (s:ah S) (h h':Nat):ah S:={fr:=Mr h h' s.bW,lo:=[],st:=EH h h' s.bg,bL:=[],df:=yI.go h h' s.df,nx:=s.nx,last:=[]}
theorem Re {h h' x y:Nat}(hx:x≠h') (hy:y≠h'):Nat.beq (mv h h' x) (mv h h' y)=Nat.beq x y:=by
 cases hb:Nat.beq x y with
 | true=>have:=aa hb;subst this;exact aH _
 | false=>
  cases hc:Nat.beq (mv h h' x) (mv h h' y) with
  | false=>rfl
  | true=>
   have e:=aa hc
   have hne:x≠y:=fun e=>by subst e;rw[aH] at hb;cases hb
   by_cases h1:x=h
   ·subst h1
    by_cases h2:y=x
    ·exact absurd h2.symm hne
    ·rw[tj,iD h2] at e;exact absurd e.symm hy
   ·by_cases h2:y=h
    ·subst h2;rw[tj,iD h1] at e;exact absurd e hx
    ·rw[iD h1,iD h2] at e;exact absurd e hne
theorem G7 {h h':Nat}:∀{st:List (Nat×TO S)}{x:Nat},aw st h'=none→x≠h'→aw (EH h h' st) (mv h h' x)=(aw st x).map (Rf h h')
 | [],_,_,_=>rfl
 | (k,o)::r,x,hn,hx=>by
  simp only[aw] at hn
  cases hb:Nat.beq k h' with
  | true=>rw[hb] at hn;cases hn
  | false=>
   rw[hb] at hn
   have hk:k≠h':=fun e=>by subst e;rw[aH] at hb;cases hb
   simp only[EH,aw,Re hk hx]
   cases Nat.beq k x with
   | true=>rfl
   | false=>exact G7 hn hx
theorem P6 (h h':Nat) (o:TO S):(Rf h h' o).len=o.len:=by cases o <;> rfl
theorem Jg {s:ah S}{h h':Nat}(hf:s.free h'=true):(s.move h h').er={fr:=wV h h' s.er.fr,st:=sj h h' s.er.st,df:=mF.go h h' s.er.df}:=by
 obtain⟨f1,f2,f3,f4,_⟩:=free_spec hf
 have hln:∀x,x≠h'→(s.move h h').ln (mv h h' x)=s.ln x:=by
  intro x hx
  show bZ (EH h h' s.bg++[]) (mv h h' x)=bZ s.bg x
  rw[b9]
  unfold bZ
  rw[G7 f1 hx]
  cases aw s.bg x with
  | none=>rfl
  | some o=>exact P6 h h' o
 have e1:∀fr:List (Nat×TV S),gq h' fr=false→gf (s.move h h').ln (Mr h h' fr)=wV h h' (gf s.ln fr):=by
  intro fr
  induction fr with
  | nil=>intro _;rfl
  | cons x r ih=>
   obtain⟨t,v⟩:=x
   intro e
   simp only[gq,bE] at e
   simp only[Mr,gf,wV,ih e.2,Mp hln v e.1]
 have e2:∀st:List (Nat×TO S),eI h' st=false→b8 (s.move h h').ln (EH h h' st)=sj h h' (b8 s.ln st):=by
  intro st
  induction st with
  | nil=>intro _;rfl
  | cons x r ih=>
   obtain⟨t,o⟩:=x
   intro e
   simp only[eI,bE] at e
   simp only[EH,b8,sj,ih e.2]
   congr 2
   cases o with
   | aU e m f τ l=>rfl
   | deep e m f dk τ a=>rfl
   | box e' m cs=>
    show ap.mk _ _ _ _ _ (TV.er.go _ (yI.go h h' cs)) _=ap.mk _ _ _ _ _ (mF.go h h' (TV.er.go s.ln cs)) _
    rw[qL hln cs e.1];rfl
   | lp l n cs=>
    show ap.mk _ _ _ _ _ (TV.er.go _ (yI.go h h' cs)) _=ap.mk _ _ _ _ _ (mF.go h h' (TV.er.go s.ln cs)) _
    rw[qL hln cs e.1];rfl
 show St.mk (gf _ (Mr h h' s.bW++[])) (b8 _ (EH h h' s.bg++[])) (TV.er.go _ (yI.go h h' s.df))=_
 rw[b9,b9,e1 _ f2,e2 _ f3,qL hln s.df f4]
 rfl
def Cw:List Nat→ah S→Option (ah S)
 | [],s=>some s
 | r::rs,s=>match s.free (r-520)&&!(Nat.beq (r-520) r) with
  | true=>Cw rs (s.move r (r-520))
  | false=>none
theorem Ba {P:Program}{N:Nat}{cx:Cx}{c:Code}{Q:Exit→St→Prop}:∀{l:List Nat}{s t:ah S},aY s→Cw l s=some t→(aY t→GW P N cx c Q t.er)→GW P N cx c Q s.er
 | [],s,t,hl,h,hk=>by cases h;exact hk hl
 | r::rs,s,t,hl,h,hk=>by
  simp only[Cw] at h
  split at h
  ·rename_i hc
   simp only[aj,a6] at hc
   refine GW.move r (r-520) (gn hc.1) hc.2 ?_
   rw[←Jg hc.1]
   exact Ba (gH rfl) h hk
  ·cases h
end
end Go.DN
/-
 DN,part T:functions:what they hand back;contracts;calls that lend nothing.
-/
namespace Go.DN
open Go.AM
section
variable {S:eC}
def isNil {α:Type}:List α→Bool
 | []=>true
 | _=>false
def Fu (P:Program) (t:ah S):ResultVar→Option (TV S)
 | .tmp d=>bc t.bW d
 | .cell c ty=>match bc t.bW c with
  | some (.loc h 0)=>match aw t.bg h with
   | some (.box _ _ vs)=>match Eb P ty with
    | some true=>match decEq (ku P ty) (some vs.length) with
     | isTrue _=>some (.agg vs)
     | isFalse _=>none
    | some false=>match vs with
     | [v]=>some v
     | _=>none
    | none=>none
   | _=>none
  | _=>none
def Q7 (D DO:List Nat) (t:ah S):ResultVar→Bool
 | .tmp d=>!(br d D)
 | .cell c _=>!(br c D)&&match bc t.bW c with
  | some (.loc h _)=>!(br h DO)
  | _=>false
def Pa (P:Program) (t:ah S):List ResultVar→List (Nat×Sh)→List Nat
 | rv::r,(_,sh)::l=>(match Fu P t rv with | some v=>KD sh v | none=>[])++Pa P t r l
 | _,_=>[]
def Fw (P:Program) (D DO:List Nat) (t:ah S):List ResultVar→List (Nat×Sh)→Option (List (bo S.α))
 | [],[]=>some []
 | rv::r,(_,sh)::l=>match Q7 D DO t rv with
  | true=>match Fu P t rv with
   | some v=>match kJ sh v with
    | some xs=>match Fw P D DO t r l with
     | some ys=>some (xs++ys)
     | none=>none
    | none=>none
   | none=>none
  | false=>none
 | _,_=>none
def Qz:Sh→List Sh
 | .agg l=>l
 | x=>[x]
def tv (aZ:List (Nat×Oh)):List ResultVar→List (Nat×Sh)→ah S→Option (ah S)
 | .cell c _::r,(_,sh)::l,s=>match bc s.bW c with
  | some (.loc h 0)=>match nS aZ h 0 (Qz sh) s with
   | some s'=>tv aZ r l s'
   | none=>none
  | _=>tv aZ r l s
 | .tmp _::r,_::l,s=>tv aZ r l s
 | _,_,s=>some s
theorem s9 {aZ:List (Nat×Oh)}:∀{rvs:List ResultVar}{l:List (Nat×Sh)}{s t:ah S},aY s→tv aZ rvs l s=some t→Gh s.er t.er∧aY t∧bz s t
 | .cell c _::r,(_,sh)::l,s,t,hl,h=>by
  simp only[tv] at h
  split at h
  ·split at h
   ·rename_i s' hs
    obtain⟨a1,a2,a3⟩:=eQ hl hs
    obtain⟨b1,b2,b3⟩:=s9 (rvs:=r) a2 h
    exact⟨a1.trans b1,b2,a3.trans b3⟩
   ·cases h
  ·exact s9 (rvs:=r) hl h
 | .tmp _::r,_::l,s,t,hl,h=>s9 (rvs:=r) (l:=l) hl h
 | [],_,s,t,hl,h=>by cases h;exact⟨Gh.refl _,hl,bz.refl s⟩
 | .cell _ _::_,[],s,t,hl,h=>by cases h;exact⟨Gh.refl _,hl,bz.refl s⟩
 | .tmp _::_,[],s,t,hl,h=>by cases h;exact⟨Gh.refl _,hl,bz.refl s⟩
def ID (rvs:List ResultVar) (aA:List (Nat×Sh)) (aZ:List (Nat×Oh)) (s:ah S):Option (ah S):=match tv aZ rvs aA s with
 | some s'=>Db aA aZ s'
 | none=>none
theorem Nk {rvs:List ResultVar}{aA:List (Nat×Sh)}{aZ:List (Nat×Oh)}{s t:ah S}(hl:aY s) (h:ID rvs aA aZ s=some t):Gh s.er t.er∧aY t∧bz s t:=by
 unfold ID at h
 split at h
 ·rename_i s' hs
  obtain⟨a1,a2,a3⟩:=s9 hl hs
  obtain⟨b1,b2,b3⟩:=Fc a2 h
  exact⟨a1.trans b1,b2,a3.trans b3⟩
 ·cases h
def D2 (P:Program) (t:ah S) (rvs:List ResultVar) (aA:List (Nat×Sh)) (outs:List (Nat×Oh)):Option (bj S.α (JH.dg ⟨aA,outs⟩)):=
 match ID rvs aA outs t with
 | some t1=>match pW (Pa P t1 rvs aA++Cu t1.bg outs) t1 with
  | some t2=>match isNil t2.df&&within (mP aA++ph outs) (aF outs) with
   | true=>match Fw P (ri (aF outs) t2.bW) (aF outs++rh (aF outs) t2.bg) t2 rvs aA with
    | some xs=>match wM t2.bg outs with
     | some ys=>lA (JH.dg ⟨aA,outs⟩) (xs++ys)
     | none=>none
    | none=>none
   | false=>none
  | none=>none
 | none=>none
theorem vj.rw {P:Program}{s:St}{rv:ResultVar}{g g':G}(h:vj P s rv g) (hw:RW g g'):vj P s rv g':=fun N cx μ a w hr=>by
 obtain⟨v,h1,h2⟩:=h N cx μ a w hr
 exact⟨v,hw _ _ _ _ _ h1,h2⟩
theorem DG {ks:List Nat}:∀{fr:List (Nat×TV S)}{d:Nat}{v:TV S},bc fr d=some v→br d (ri ks fr)=false→v.bad ks=false
 | [],_,_,h,_=>by cases h
 | (t,w)::r,d,v,h,hm=>by
  simp only[bc] at h
  simp only[ri] at hm
  cases hb:Nat.beq t d with
  | true=>
   rw[hb] at h;cases h
   have e:=aa hb
   subst e
   cases hv:w.bad ks with
   | false=>rfl
   | true=>rw[hv] at hm;rw[bO.2 av] at hm;cases hm
  | false=>
   rw[hb] at h
   refine DG h ?_
   cases hw:w.bad ks with
   | false=>rw[hw] at hm;exact hm
   | true=>
    rw[hw] at hm
    cases hx:br d (ri ks r) with
    | false=>rfl
    | true=>rw[bO.2 (ao _ (bO.1 hx))] at hm;cases hm
theorem DF {ks:List Nat}:∀{st:List (Nat×TO S)}{d:Nat}{o:TO S},aw st d=some o→br d (rh ks st)=false→o.bad ks=false
 | [],_,_,h,_=>by cases h
 | (t,w)::r,d,v,h,hm=>by
  simp only[aw] at h
  simp only[rh] at hm
  cases hb:Nat.beq t d with
  | true=>
   rw[hb] at h;cases h
   have e:=aa hb
   subst e
   cases hv:w.bad ks with
   | false=>rfl
   | true=>rw[hv] at hm;rw[bO.2 av] at hm;cases hm
  | false=>
   rw[hb] at h
   refine DF h ?_
   cases hw:w.bad ks with
   | false=>rw[hw] at hm;exact hm
   | true=>
    rw[hw] at hm
    cases hx:br d (rh ks r) with
    | false=>rfl
    | true=>rw[bO.2 (ao _ (bO.1 hx))] at hm;cases hm
theorem Hi {x:Nat}{a b:List Nat}(h:br x (a++b)=false):br x a=false∧br x b=false:=by
 constructor
 ·cases h1:br x a with
  | false=>rfl
  | true=>rw[bO.2 (bS _ (bO.1 h1))] at h;cases h
 ·cases h1:br x b with
  | false=>rfl
  | true=>rw[bO.2 (cD _ (bO.1 h1))] at h;cases h
theorem GV {P:Program}{D DO:List Nat}{t u:ah S}(hu:∀d v,br d D=false→bc t.bW d=some v→AM.get u.er.fr d=some (v.er t.ln)) (ho:∀h e m cs,br h DO=false→aw t.bg h=some (.box e m cs)→aq u.er.st h=some ((TO.box e m cs).er t.ln)):
  ∀{rvs:List ResultVar}{aA:List (Nat×Sh)}{xs:List (bo S.α)},Fw P D DO t rvs aA=some xs→∀(r:List (bo S.α)),(cv aA (xs++r)).2=r∧zy P u.er rvs (((cv aA (xs++r)).1.map (·.2)).map (TV.er t.ln))
 | [],[],xs,h,r=>by cases h;exact⟨rfl,trivial⟩
 | rv::rvs,(d,sh)::l,xs,h,r=>by
  simp only[Fw] at h
  split at h
  ·rename_i hok
   split at h
   ·rename_i v hv
    split at h
    ·rename_i xs1 hx
     split at h
     ·rename_i ys hy
      cases h
      obtain⟨i1,i2⟩:=GV hu ho hy r
      obtain⟨p1,p2⟩:=A3 t.ln hx (ys++r)
      rw[aC]
      simp only[cv]
      rw[p1]
      refine⟨i1,vj.rw ?_ p2,i2⟩
      cases rv with
      | tmp d'=>
       simp only[Q7,a6] at hok
       exact vj.tmp (hu d' v hok hv)
      | cell c ty=>
       simp only[Q7,aj,a6] at hok
       simp only[Fu] at hv
       split at hv
       ·rename_i h' hc
        rw[hc] at hok
        have hc':AM.get u.er.fr c=some (.loc h' 0):=hu c _ hok.1 hc
        split at hv
        ·rename_i e m vs hb
         have hb':=ho h' e m vs (by simpa using hok.2) hb
         split at hv
         ·rename_i ha
          split at hv
          ·rename_i hs _
           cases hv
           have hl:(TV.er.go t.ln vs).length=vs.length:=by rw[cR,a5]
           have:=vj.QA (P:=P) (t:=ty) hc' hb' rfl (gM ha) (dw hs) (by show 0+vs.length≤(TV.er.go t.ln vs).length;omega)
           have e3:(((TO.box e m vs:TO S).er t.ln).cells.drop 0).take vs.length=TV.er.go t.ln vs:=by
            show((TV.er.go t.ln vs).drop 0).take vs.length=_
            rw[eE,b6 (by omega)]
           rw[e3] at this
           exact this
          ·cases hv
         ·rename_i ha
          split at hv
          ·cases hv
           exact vj.cell (P:=P) (t:=ty) hc' hb' rfl (gM ha) (by cases hq:v.er t.ln <;> simp[ap.out,TO.er,hq])
          ·cases hv
         ·cases hv
        ·cases hv
       ·cases hv
     ·cases h
    ·cases h
   ·cases h
  ·cases h
 | [],_::_,_,h,_=>by cases h
 | _::_,[],_,h,_=>by cases h
theorem AG (ks:List Nat):∀(l:List (Nat×Sh)) (ls:List (bo S.α)),(∀k,k∈mP l→k∈ks)→∀d v,(d,v)∈(cv l ls).1→v.bad ks=false
 | [],ls,_,d,v,h=>by cases h
 | (d0,sh)::r,ls,hk,d,v,h=>by
  simp only[cv] at h
  rcases aX.1 h with e | h
  ·cases e;exact xm ks sh ls fun k hk'=>hk k (bS _ hk')
  ·exact AG ks r _ (fun k hk'=>hk k (cD _ hk')) d v h
theorem JI {P:Program}{t:ah S}{rvs:List ResultVar}{aA:List (Nat×Sh)}{outs:List (Nat×Oh)}{q:bj S.α (JH.dg ⟨aA,outs⟩)}(hl:aY t) (h:D2 P t rvs aA outs=some q):
  ∃u:ah S,Gh t.er u.er∧u.er.df=[]∧zy P u.er rvs (((cv aA (leaves _ q)).1.map (·.2)).map (TV.er (bZ (ca outs (cv aA (leaves _ q)).2).1)))∧
   ∃O',u.bg=(ca outs (cv aA (leaves _ q)).2).1++O'∧(∀k,k∈aF outs→u.ln k=bZ (ca outs (cv aA (leaves _ q)).2).1 k)∧∀k,k∈ph outs→k∈aF outs:=by
 unfold D2 at h
 split at h
 ·rename_i t1 hp1
  obtain⟨a1,a2,a3⟩:=Nk hl hp1
  split at h
  ·rename_i t2 hp2
   obtain⟨b1,b2,b3⟩:=lQ a2 hp2
   split at h
   ·rename_i hc
    simp only[aj] at hc
    obtain⟨c1,c2⟩:=hc
    have c2:=l9 c2
    split at h
    ·rename_i xs hx
     split at h
     ·rename_i ys hy
      have hq:=fY h
      have hdf:t2.df=[]:=by
       cases hd:t2.df with
       | nil=>rfl
       | cons x r=>rw[hd] at c1;cases c1
      let O':=cc (aF outs++rh (aF outs) t2.bg) t2.bg
      let F':=cc (ri (aF outs) t2.bW) t2.bW
      let u:ah S:={fr:=F',lo:=[],st:=(ca outs ys).1++O',bL:=[],df:=[],nx:=0,last:=[]}
      have eu:u.bg=(ca outs ys).1++O':=b9 _
      have ef:u.bW=F':=b9 _
      have hks:∀k,k∈aF outs→t2.ln k=u.ln k∧u.ln k=bZ (ca outs ys).1 k:=by
       intro k hk
       obtain⟨o,o',e1,e2,e3⟩:=yD hy k hk
       have e4:u.ln k=bZ (ca outs ys).1 k:=by
        show bZ u.bg k=_
        rw[eu];unfold bZ;rw[db,e1]
       refine⟨?_,e4⟩
       rw[e4]
       show bZ t2.bg k=_
       unfold bZ;rw[e1,e2];exact e3.symm
      have hg:Gh t2.er u.er:=told (aA:=[]) (xs:=[]) (ks:=aF outs) (O':=O') (F':=F') rfl hy ef eu
       (fun d v hv=>by
        have hv:bc (cc (ri (aF outs) t2.bW) t2.bW) d=some v:=hv
        rw[jK] at hv
        split at hv
        ·cases hv
        ·rename_i hm;exact⟨hv,DG hv hm⟩)
       (fun d o ho=>by
        have ho:aw (cc (aF outs++rh (aF outs) t2.bg) t2.bg) d=some o:=ho
        rw[iZ] at ho
        split at ho
        ·cases ho
        ·rename_i hm;exact⟨ho,DF ho (Hi hm).2⟩)
       (fun k hk=>(hks k hk).1) (fun k hk=>by cases hk) (fun k hk=>c2 k (cD _ hk)) hdf.symm (by rw[hdf];rfl)
      obtain⟨r1,r2⟩:=GV (P:=P) (u:=u) (t:=t2) (fun d v hm hv=>by
        have e:bc u.bW d=some v:=by rw[ef];show bc (cc _ t2.bW) d=_;rw[jK,hm];exact hv
        rw[show AM.get u.er.fr d=_ from fc e]
        rw[li (fun k hk=>(hks k hk).1) v (DG hv hm)])
       (fun k e m cs hm ho=>by
        obtain⟨m1,m2⟩:=Hi hm
        have hout:aw (ca outs ys).1 k=none:=by
         cases hh:aw (ca outs ys).1 k with
         | none=>rfl
         | some o=>
          have:k∈aF (ca outs ys).1:=rP hh
          rw[jM] at this
          rw[bO.2 this] at m1;cases m1
        have e2:aw u.bg k=some (.box e m cs):=by
         rw[eu,db,hout]
         show aw (cc _ t2.bg) k=_
         rw[iZ,hm];exact ho
        rw[show aq u.er.st k=_ from fK e2]
        exact congrArg some (TO.li (fun k hk=>(hks k hk).1) _ (DF ho m2)).symm) hx ys
      refine⟨u,a1.trans (b1.trans hg),rfl,?_,O',?_,?_⟩
      ·rw[hq,r1]
       have:∀(l:List (Nat×TV S)),(∀d v,(d,v)∈l→v.bad (aF outs)=false)→(l.map (·.2)).map (TV.er (bZ (ca outs ys).1))=(l.map (·.2)).map (TV.er t2.ln):=by
        intro l hl
        induction l with
        | nil=>rfl
        | cons x r ih=>
         simp only[aI]
         rw[ih fun d v hm=>hl d v (ao _ hm),li (fun k hk=>((hks k hk).1.trans (hks k hk).2).symm) x.2 (hl x.1 x.2 av)]
       rw[this _ (AG (aF outs) aA _ fun k hk=>c2 k (bS _ hk))]
       exact r2
      ·rw[hq,r1];exact eu
      ·rw[hq,r1];exact⟨fun k hk=>(hks k hk).2,fun k hk=>c2 k (cD _ hk)⟩
     ·cases h
    ·cases h
   ·cases h
  ·cases h
 ·cases h
def mg {α:Type}:List α→Nat→List (Nat×α)
 | [],_=>[]
 | x::r,j=>(j,x)::mg r (j+1)
def eV (args:List Sh) (aZ:List Oh) (ls:List (bo S.α)):ah S:={fr:=mg (cX args ls).1 0,lo:=[],st:=(ca (mg aZ 1000) (cX args ls).2).1,bL:=[],df:=[],nx:=300,last:=[]}
def j9 (args:List Sh) (aZ:List Oh):List Ty:=wH args++Cs (mg aZ 1000)
theorem CN (ln:Nat→Nat):∀(args:List (TV S)) (j:Nat),gf ln (mg args j)=nK (TV.er.go ln args) j
 | [],_=>rfl
 | x::r,j=>by simp only[mg,gf,TV.er.go,nK,CN ln r (j+1)]
def lG (aA:List (Nat×Sh)) (ls:List (bo S.α)):TV S:=match (cv aA ls).1 with
 | [(_,v)]=>v
 | l=>.bj (l.map (·.2))
def sf (P:Program):List ResultVar→List (Nat×Sh)→ah S→ah S
 | rv::r,(_,.own h _)::l,s=>match Fu P s rv with
  | some (.aQ h' _)=>match Nat.beq h h' with
   | true=>sf P r l s
   | false=>match (rz s h).free h with
    | true=>sf P r l ((rz s h).move h' h)
    | false=>sf P r l s
  | _=>sf P r l s
 | _::r,_::l,s=>sf P r l s
 | _,_,s=>s
def Gw (s t:St):Prop:=∀(N:Nat) (cx:Cx) (μ:Mu) (a:Act) (w:World),Rel N cx μ s a w→∃μ',Rel N cx μ' t a w
theorem Gh.w {s t:St}(h:Gh s t):Gw s t:=fun N cx μ a w hr=>let ⟨μ',h1,_⟩:=h N cx μ a w hr;⟨μ',h1⟩
theorem Gw.trans {a b c:St}(h:Gw a b) (h':Gw b c):Gw a c:=fun N cx μ ac w hr=>let ⟨μ1,h1⟩:=h N cx μ ac w hr;h' N cx μ1 ac w h1
theorem gL {P:Program}:∀{rvs:List ResultVar}{l:List (Nat×Sh)}{s:ah S},aY s→Gw s.er (sf P rvs l s).er∧aY (sf P rvs l s)
 | rv::r,(_,.own h _)::l,s,hl=>by
  simp only[sf]
  split
  ·rename_i h' _ _
   cases hb:Nat.beq h h' with
   | true=>exact gL hl
   | false=>
    dsimp only
    split
    ·rename_i hf
     obtain⟨a1,a2,_⟩:=HR h hl
     obtain⟨b1,b2⟩:=gL (P:=P) (rvs:=r) (l:=l) (s:=(rz s h).move h' h) (gH rfl)
     refine⟨a1.w.trans (Gw.trans (fun N cx μ a w hr=>?_) b1),b2⟩
     rw[Jg hf]
     exact⟨_,hr.move h' h (gn hf) hb⟩
    ·exact gL hl
  ·exact gL hl
 | [],_,s,hl=>by simp only[sf];exact⟨(Gh.refl _).w,hl⟩
 | _::_,[],s,hl=>by simp only[sf];exact⟨(Gh.refl _).w,hl⟩
 | _::r,(_,.ab _ _)::l,s,hl=>gL (rvs:=r) (l:=l) hl
 | _::r,(_,.ptr _ _)::l,s,hl=>gL (rvs:=r) (l:=l) hl
 | _::r,(_,.loc _ _)::l,s,hl=>gL (rvs:=r) (l:=l) hl
 | _::r,(_,.aE _ _)::l,s,hl=>gL (rvs:=r) (l:=l) hl
 | _::r,(_,.agg _)::l,s,hl=>gL (rvs:=r) (l:=l) hl
 | _::r,(_,.cq _)::l,s,hl=>gL (rvs:=r) (l:=l) hl
 | _::r,(_,.mp _)::l,s,hl=>gL (rvs:=r) (l:=l) hl
 | _::r,(_,.fB _ _)::l,s,hl=>gL (rvs:=r) (l:=l) hl
 | _::r,(_,.ks _ _)::l,s,hl=>gL (rvs:=r) (l:=l) hl
 | _::r,(_,.any)::l,s,hl=>gL (rvs:=r) (l:=l) hl
 | _::r,(_,.lT)::l,s,hl=>gL (rvs:=r) (l:=l) hl
 | _::r,(_,.sub _ _)::l,s,hl=>gL (rvs:=r) (l:=l) hl
theorem GW.PO {P:Program}{N:Nat}{cx:Cx}{c:Code}{Q Q':Exit→St→Prop}{s:St}(h:GW P N cx c Q' s) (hq:∀e s,Q' e s→∃t,Gw s t∧Q e t):GW P N cx c Q s:=fun μ a w hr=>
 wpIn_mono (h μ a w hr) fun e a' w' hl=>by
  cases e with
  | outgrown=>exact hl.elim
  | _=>
   obtain⟨μ',s',hr',h4⟩:=hl
   obtain⟨t,h5,h6⟩:=hq _ _ h4
   obtain⟨μ2,h7⟩:=h5 N cx μ' a' w' hr'
   exact⟨μ2,t,h7,h6⟩
noncomputable def Ib (P:Program) (N fu:Nat) (H:List (Nat×mq)) (cl:Cl S) (c:Code) (mvs:List Nat) (rvs:List ResultVar) (args:List Sh) (aZ:List Oh) (aA:List (Nat×Sh)) (outs:List (Nat×Oh)) (q:bj S.α (j9 args aZ)):Option (bj S.α (JH.dg ⟨aA,outs⟩)):=
 match Cw mvs (eV args aZ (leaves _ q)) with
 | some s=>gG P N fu H cl c 0 s _ fun e t=>match e with
  | .ret=>D2 P (sf P rvs aA t) rvs aA outs
  | .normal=>D2 P (sf P rvs aA t) rvs aA outs
  | _=>none
 | none=>none
theorem Jw (st st':List (Nat×ap)) (f:Bool){τ:Ty}(h:τ.fN=false) (a:S.D τ):iV st st' (dq f (dy S τ a))=some (dq f (dy S τ a)):=by
 cases τ with
 | st n=>cases h
 | _=>cases f <;> rfl
theorem Rr (st st':List (Nat×ap)) (f:Bool) (τ:Ty) (a:S.D τ):iV st st' (nk f τ a)=some (nk f τ a):=by
 cases τ with
 | st n=>
  show(iV.go st st' ((aL S (.st n) a).map (dq f))).map G.agg=_
  have:iV.go st st' ((aL S (.st n) a).map (dq f))=some ((aL S (.st n) a).map (dq f)):=by
   rw[gu]
   have h:=jR n a
   generalize S.cells n a=l at h
   induction l with
   | nil=>rfl
   | cons x r ih=>
    simp only[aI,iV.go]
    rw[Jw st st' f (h x av) x.a,ih fun y hy=>h y (ao _ hy)]
  rw[this];rfl
 | _=>exact Jw st st' f rfl a
theorem AQ {ln:Nat→Nat}{st:List (Nat×ap)}:∀{l:List (Nat×TO S)},(∀j o,(j,o)∈l→aq st j=some (o.er ln))→km st (b8 ln l)
 | [],_=>trivial
 | (j,o)::r,h=>⟨h j o av,AQ fun j o hm=>h j o (ao _ hm)⟩
def TV.still (ks:List Nat):TV S→Bool
 | .ab _ _ _=>true
 | .ptr _ _ _=>true
 | .loc h _=>br h ks
 | .aQ h _=>br h ks
 | .sub h _ _ _=>br h ks
 | .agg l=>go ks l
 | .bj l=>go ks l
 | .aE _ l=>go ks l
 | .val (.slice none 0 0)=>false
 | .val _=>true
 | .any=>true
 | .fB _ h _ _ _=>br h ks
 | .ks h _ _ _=>br h ks
 | .mp h=>br h ks
 | _=>false
where go (ks:List Nat):List (TV S)→Bool
 | []=>true
 | x::r=>x.still ks&&go ks r
theorem yq {ln:Nat→Nat}{l:List (Nat×TO S)}{h:Nat}(hk:h∈aF l):∃k,aq (b8 ln l) h=some k:=by
 obtain⟨o,ho⟩:=mU hk
 exact⟨_,fK ho⟩
mutual
theorem Gm {ln lo:Nat→Nat}{st:List (Nat×ap)}{l:List (Nat×TO S)}:∀v:TV S,v.still (aF l)=true→iV st (b8 lo l) (v.er ln)=some (v.er ln)
 | .ab f τ a,_=>Rr st _ f τ a
 | .ptr f τ a,_=>by cases f <;> rfl
 | .loc h o,e=>by
  obtain⟨k,hk⟩:=yq (ln:=lo) (bO.1 e)
  simp only[TV.er,iV,hk]
 | .aQ h τ,e=>by
  obtain⟨k,hk⟩:=yq (ln:=lo) (bO.1 e)
  simp only[TV.er,iV,hk]
 | .agg vs,e=>by
  show(iV.go st (b8 lo l) (TV.er.go ln vs)).map G.agg=_
  rw[uA vs e];rfl
 | .bj vs,e=>by
  show(iV.go st (b8 lo l) (TV.er.go ln vs)).map G.bj=_
  rw[uA vs e];rfl
 | .aE f vs,e=>by
  show(iV.go st (b8 lo l) (TV.er.go ln vs)).map (G.aE f)=_
  rw[uA vs e];rfl
 | .val u,e=>by
  have key:zJ u=.val u:=by
   unfold TV.still at e
   unfold zJ
   split
   ·cases e
   ·rfl
  show some (zJ u)=some (.val u)
  rw[key]
 | .any,_=>rfl
 | .sub h τ o n,e=>by
  obtain⟨k,hk⟩:=yq (ln:=lo) (bO.1 e)
  simp only[TV.er,iV,hk]
 | .gI _ _ _ _,e=>by cases e
 | .cq _,e=>by cases e
 | .mp _,_=>rfl
 | .ks _ _ _ _,_=>rfl
 | .kp _ _ _ _,e=>by cases e
 | .fB b _ _ _ _,e=>by cases b <;> rfl
theorem uA {ln lo:Nat→Nat}{st:List (Nat×ap)}{l:List (Nat×TO S)}:∀vs:List (TV S),TV.still.go (aF l) vs=true→iV.go st (b8 lo l) (TV.er.go ln vs)=some (TV.er.go ln vs)
 | [],_=>rfl
 | x::r,e=>by
  simp only[TV.still.go,aj] at e
  simp only[TV.er.go,iV.go,Gm x e.1,uA r e.2]
end
mutual
def Sh.still (ks:List Nat):Sh→Bool
 | .ab _ _=>true
 | .ptr _ _=>true
 | .own h _=>br h ks
 | .loc h _=>br h ks
 | .aE _ l=>vF ks l
 | .agg l=>vF ks l
 | .cq _=>false
 | .mp h=>br h ks
 | .fB h _=>br h ks
 | .ks h _=>br h ks
 | .any=>true
 | .lT=>true
 | .sub h _=>br h ks
def vF (ks:List Nat):List Sh→Bool
 | []=>true
 | x::r=>x.still ks&&vF ks r
end
def rG (ks:List Nat):List (Nat×Sh)→Bool
 | []=>true
 | (_,x)::r=>x.still ks&&rG ks r
mutual
theorem AE (ks:List Nat):∀(sh:Sh) (ls:List (bo S.α)),sh.still ks=true→(il sh ls).1.still ks=true
 | .ab f τ,ls,_=>by cases ls <;> rfl
 | .ptr f τ,ls,_=>by cases ls <;> rfl
 | .own k τ,ls,h=>h
 | .loc _ _,ls,h=>h
 | .aE f l,ls,h=>vq ks l ls h
 | .agg l,ls,h=>vq ks l ls h
 | .cq _,ls,h=>by cases h
 | .mp _,ls,h=>h
 | .ks _ _,ls,h=>by
  simp only[il]
  split
  ·exact h
  ·rfl
 | .fB _ _,ls,h=>by
  simp only[il]
  split
  ·exact h
  ·rfl
 | .any,ls,_=>rfl
 | .lT,ls,_=>by
  simp only[il]
  split <;> rfl
 | .sub _ _,ls,h=>by
  simp only[il]
  split
  ·exact h
  ·rfl
theorem vq (ks:List Nat):∀(l:List Sh) (ls:List (bo S.α)),vF ks l=true→TV.still.go ks (cX l ls).1=true
 | [],_,_=>rfl
 | sh::r,ls,h=>by
  simp only[vF,aj] at h
  simp only[cX,TV.still.go,AE ks sh ls h.1,vq ks r _ h.2,fI]
end
theorem AF (ks:List Nat):∀(l:List (Nat×Sh)) (ls:List (bo S.α)),rG ks l=true→TV.still.go ks ((cv l ls).1.map (·.2))=true
 | [],_,_=>rfl
 | (d,sh)::r,ls,h=>by
  simp only[rG,aj] at h
  simp only[cv,aI,TV.still.go,AE ks sh ls h.1,AF ks r _ h.2,fI]
theorem Ky {ks:List Nat}{aA:List (Nat×Sh)}(ls:List (bo S.α)) (h:rG ks aA=true):(lG aA ls).still ks=true:=by
 have:=AF ks aA ls h
 unfold lG
 generalize (cv aA ls).1=l at this
 match l with
 | []=>rfl
 | [(_,v)]=>simpa[TV.still.go] using this
 | (_,v)::(_,v')::r=>exact this
def Mn:List Nat→Bool
 | []=>true
 | x::r=>!(br x r)&&Mn r
theorem DH:∀{l:List (Nat×TO S)},Mn (aF l)=true→∀j o,(j,o)∈l→aw l j=some o
 | [],_,_,_,h=>by cases h
 | (k,x)::r,hn,j,o,hm=>by
  simp only[aF,Mn,aj,a6] at hn
  rcases aX.1 hm with e | hm
  ·cases e;simp only[aw,aH,cond_true]
  ·have ih:=DH hn.2 j o hm
   rw[jo _ _ fun e=>?_]
   ·exact ih
   ·subst e
    have:=bO.2 (rP ih)
    rw[hn.1] at this;cases this
theorem CC:∀(ts:List Ty) (q:bj S.α ts),(leaves ts q).length=ts.length
 | [],_=>rfl
 | [_],_=>rfl
 | _::u::r,q=>by simp only[leaves,bN,CC (u::r) q.2]
theorem vM (ln:Nat→Nat) (aA:List (Nat×Sh)) (ls:List (bo S.α)):pack (((cv aA ls).1.map (·.2)).map (TV.er ln))=(lG aA ls).er ln:=by
 unfold lG
 generalize (cv aA ls).1=l
 match l with
 | []=>rfl
 | [(_,v)]=>rfl
 | (_,v)::(_,v')::r=>
  simp only[aI,pack,TV.er,cR]
def tB (N:Nat) (args:List Sh) (aA:List (Nat×Sh)) (outs:List (Nat×Oh)):Bool:=
 Nat.ble args.length N&&(rG (aF outs) aA&&Mn (aF outs))
theorem y8:∀(l:List Sh) (ls:List (bo S.α)),(cX l ls).1.length=l.length
 | [],_=>rfl
 | x::r,ls=>by simp only[cX,bN,y8 r]
def Sq (aA:List (Nat×Sh)) (outs:List (Nat×Oh)) (r:bj S.α (JH.dg ⟨aA,outs⟩)) (g:G) (st:List (Nat×ap)):Prop:=
 g=(lG aA (leaves _ r)).er (bZ (ca outs (cv aA (leaves _ r)).2).1)∧st=b8 (bZ (ca outs (cv aA (leaves _ r)).2).1) (ca outs (cv aA (leaves _ r)).2).1
theorem Qv {P:Program}{N fu:Nat}{H:List (Nat×mq)}{cl:Cl S}(hm:P.follows .mixedOrders=true) (hcl:Ac P N cl)
  {f:FuncId}{fn:Func}{c:Code}{args:List Sh}{aZ:List Oh}{aA:List (Nat×Sh)}{outs:List (Nat×Oh)}{q:bj S.α (j9 args aZ)}{r:bj S.α (JH.dg ⟨aA,outs⟩)}(hf:P.funcs[f]?=some fn) (hb:fn.body=some c) (hN:fn.ntmps=N)
  (hr:tB N args aA outs=true) (hrg:oF S N H (lF c 0)){mvs:List Nat}(h:Ib P N fu H cl c mvs fn.results.toList args aZ aA outs q=some r):
  GM P f (TV.er.go (eV args aZ (leaves _ q)).ln (cX args (leaves _ q)).1) (eV args aZ (leaves _ q)).er.st (Sq aA outs r):=by
 simp only[tB,aj] at hr
 obtain⟨hle,hr3,hr4⟩:=hr
 refine GM.of hf hb hN (by rw[cR,a5,y8];exact hle) fun cx hro=>?_
 have e0:(⟨nK (TV.er.go (eV args aZ (leaves _ q)).ln (cX args (leaves _ q)).1) 0,(eV args aZ (leaves _ q)).er.st,[]⟩:St)=(eV args aZ (leaves _ q)).er:=by
  rw[←CN]
  show St.mk _ _ _=St.mk (gf _ (mg (cX args (leaves _ q)).1 0++[])) _ _
  rw[b9];rfl
 rw[e0]
 unfold Ib at h
 split at h
 rotate_left
 ·cases h
 rename_i s0 hmv
 refine Ba (gH rfl) hmv fun hl0=>?_
 refine GW.PO (Q':=fun e s'=>(e=.ret∨e=.normal)∧∃t:ah S,Gw s' t.er∧aY t∧D2 P t fn.results.toList aA outs=some r) (ju hm hcl c 0 hrg (.inr hro) _ _ _ r hl0 h _ fun e t hlt hk hK=>?_) fun e s' hq=>?_
 ·split at hK
  ·obtain⟨g1,g2⟩:=gL (P:=P) (rvs:=fn.results.toList) (l:=aA) hlt
   exact⟨.inl rfl,_,g1,g2,hK⟩
  ·obtain⟨g1,g2⟩:=gL (P:=P) (rvs:=fn.results.toList) (l:=aA) hlt
   exact⟨.inr rfl,_,g1,g2,hK⟩
  ·cases hK
 ·obtain⟨he,t,hg0,hlt,hE⟩:=hq
  obtain⟨u,hg,hdf,r1,O',eu,hln,hown⟩:=JI hlt hE
  refine⟨_,hg0.trans hg.w,?_⟩
  have hk:aF (ca outs (cv aA (leaves (JH.dg ⟨aA,outs⟩) r)).2).1=aF outs:=jM _ _
  refine Ec.mk he _ ((lG aA (leaves _ r)).er (bZ (ca outs (cv aA (leaves _ r)).2).1)) _ r1 (AQ (ln:=bZ (ca outs (cv aA (leaves _ r)).2).1) (l:=(ca outs (cv aA (leaves _ r)).2).1) fun j o hm=>?_) ?_ ⟨rfl,rfl⟩ hdf
  ·have e1:aw (ca outs (cv aA (leaves _ r)).2).1 j=some o:=DH (by rw[hk];exact hr4) j o hm
   have e2:aw u.bg j=some o:=by rw[eu,db,e1]
   rw[show aq u.er.st j=_ from fK e2]
   have hj:o.er u.ln=o.er (bZ (ca outs (cv aA (leaves _ r)).2).1):=TO.li hln o (sU (aF outs) outs _ hown j o e1)
   rw[hj]
  ·rw[vM]
   refine Gm _ ?_
   rw[hk]
   exact Ky _ hr3
end
end Go.DN
/-
 DN,part U:calls that lend nothing.
-/
namespace Go.DN
open Go.AM
section
variable {S:eC}
def wB (s:ah S) (τ:Ty):TV S→Option (S.D τ)
 | .ab _ τ' a=>match τ'.fN with
  | true=>none
  | false=>ir τ' τ a
 | .val (.slice none 0 0)=>match τ with
  | .list _=>some []
  | _=>none
 | .aQ h τ2=>match aw s.bg h with
  | some (.aU _ _ _ τ' l)=>match decEq τ' τ2 with
   | isTrue _=>ir (.list τ') τ l
   | isFalse _=>none
  | _=>none
 | _=>none
def BX (s:ah S):List Ty→List (TV S)→Option (List (bo S.α))
 | [],[]=>some []
 | τ::ts,v::vs=>match wB s τ v with
  | some a=>match BX s ts vs with
   | some l=>some (⟨τ,a⟩::l)
   | none=>none
  | none=>none
 | _,_=>none
def JZ (s:ah S) (τ:Ty) (v:TV S):Option (S.D τ):=
 match v with
 | .ab _ τ' a=>ir τ' τ a
 | .agg vs=>match τ with
  | .st n=>match BX s (S.dg n) vs with
   | some l=>S.put n l
   | none=>none
  | _=>none
 | v=>wB s τ v
def JX (s:ah S) (τ:Ty) (v:TV S):Option (S.D τ):=
 match v with
 | .ptr _ τ' a=>ir τ' τ a
 | .loc h 0=>match aw s.bg h with
  | some (.box _ _ vs)=>match τ with
   | .st n=>match BX s (S.dg n) vs with
    | some l=>S.put n l
    | none=>none
   | τ=>match vs with
    | [v]=>wB s τ v
    | _=>none
  | _=>none
 | _=>none
mutual
def fE (s:ah S):Sh→TV S→Option (List (bo S.α))
 | .ab false τ,v=>match JZ s τ v with
  | some a=>some [⟨τ,a⟩]
  | none=>none
 | .ptr false τ,v=>match JX s τ v with
  | some a=>some [⟨τ,a⟩]
  | none=>none
 | .aE f l,v=>match v with
  | .aE f' vs=>match Nat.beq f' f with
   | true=>jW s l vs
   | false=>none
  | _=>none
 | _,_=>none
def jW (s:ah S):List Sh→List (TV S)→Option (List (bo S.α))
 | [],[]=>some []
 | x::r,v::vs=>match fE s x v with
  | some a=>match jW s r vs with
   | some l=>some (a++l)
   | none=>none
  | none=>none
 | _,_=>none
end
theorem Eg (n:Nat) (st:List (Nat×ap)) (f:Bool){τ:Ty}(h:τ.fN=false) (a:S.D τ):view (n+1) st (dq f (dy S τ a))=some (dy S τ a):=by
 cases τ with
 | st n=>cases h
 | _=>cases f <;> rfl
theorem AP {s:ah S}{τ:Ty}{v:TV S}{a:S.D τ}(n:Nat) (h:wB s τ v=some a):view (n+1) s.er.st (v.er s.ln)=some (dy S τ a)∧τ.fN=false:=by
 unfold wB at h
 split at h
 ·split at h
  ·cases h
  ·rename_i hs
   have:=dW h
   cases this
   refine⟨?_,hs⟩
   rw[nM hs]
   exact Eg n _ _ hs _
 ·split at h
  ·cases h;exact⟨rfl,rfl⟩
  ·cases h
 ·rename_i hh τ2
  split at h
  ·rename_i e m f τ' l ho
   split at h
   ·rename_i e1 _
    subst e1
    have:=dW h
    cases this
    refine⟨?_,rfl⟩
    show view (n+1) s.er.st (.aQ hh (S.sz τ') 0 (s.ln hh))=_
    simp only[view,cO ho,TO.er]
    rw[l6 ho,eE,b6 (by rw[eO];exact az _)]
    rfl
   ·cases h
  ·cases h
 ·cases h
theorem AO {s:ah S}(n:Nat):∀{ts:List Ty}{vs:List (TV S)}{l:List (bo S.α)},BX s ts vs=some l→dU (view (n+1) s.er.st) (TV.er.go s.ln vs)=some (l.map fun x=>dy S x.τ x.a)
 | [],[],_,h=>by cases h;rfl
 | τ::ts,v::vs,l,h=>by
  simp only[BX] at h
  split at h
  ·rename_i a ha
   split at h
   ·rename_i l' hl
    cases h
    simp only[TV.er.go,dU,(AP n ha).1,AO n hl,aI]
   ·cases h
  ·cases h
 | [],_::_,_,h=>by cases h
 | _::_,[],_,h=>by cases h
theorem FV {n:Nat}{st:List (Nat×ap)}{gs gs':List G}(h:dU (view n st) gs=some gs'):view (n+1) st (.agg gs)=some (.agg gs'):=by
 show(match dU (view n st) gs with | some gs'=>some (G.agg gs') | none=>none)=_
 rw[h]
theorem FU {n:Nat}{st:List (Nat×ap)}{h:Nat}{k:ap}{gs':List G}(hk:aq st h=some k) (hlp:k.lp=none) (hp:k.pure=false) (hm:dU (view n st) k.cells=some gs'):view (n+1) st (.loc h 0)=some (.ptr gs'):=by
 show(match aq st h with
  | some k=>match k.lp with
   | some _=>none
   | none=>match k.pure with
    | true=>some (G.ptr (k.cells.drop 0))
    | false=>match dU (view n st) (k.cells.drop 0) with
     | some cs=>some (.ptr cs)
     | none=>none
  | none=>none)=_
 rw[hk]
 dsimp only
 rw[hlp]
 dsimp only
 rw[hp,eE]
 dsimp only
 rw[hm]
theorem FX {s:ah S}{τ:Ty}{v:TV S}{a:S.D τ}(n:Nat) (h:JZ s τ v=some a) (ln:Nat→Nat):view (n+2) s.er.st (v.er s.ln)=some ((TV.ab false τ a:TV S).er ln):=by
 have one:wB s τ v=some a→view (n+2) s.er.st (v.er s.ln)=some ((TV.ab false τ a:TV S).er ln):=by
  intro h
  obtain⟨h1,h2⟩:=AP (n+1) h
  rw[h1,nM h2];rfl
 unfold JZ at h
 split at h
 ·rename_i f τ' a'
  have:=dW h
  cases this
  cases τ with
  | st k=>
   show view (n+2) s.er.st (.agg ((aL S (.st k) a).map (dq f)))=some (.agg ((aL S (.st k) a).map (dq false)))
   have key:dU (view (n+1) s.er.st) ((aL S (.st k) a).map (dq f))=some ((aL S (.st k) a).map (dq false)):=by
    rw[gu]
    have h:=jR k a
    generalize S.cells k a=l at h
    induction l with
    | nil=>rfl
    | cons x r ih=>
     simp only[aI,dU]
     rw[Eg n _ f (h x av) x.a,ih fun y hy=>h y (ao _ hy)]
     rfl
   exact FV key
  | _=>exact one (by unfold wB;exact h)
 ·rename_i vs
  split at h
  ·rename_i k
   split at h
   ·rename_i l hl
    have hp:=S.kF _ _ _ h
    show view (n+2) s.er.st (.agg (TV.er.go s.ln vs))=some (.agg ((aL S (.st k) a).map (dq false)))
    have e:(dq false)=(id:G→G):=rfl
    rw[e,List.map_id,gu,hp]
    exact FV (AO n hl)
   ·cases h
  ·cases h
 ·exact one h
theorem FW {s:ah S}{τ:Ty}{v:TV S}{a:S.D τ}(n:Nat) (h:JX s τ v=some a) (ln:Nat→Nat):view (n+2) s.er.st (v.er s.ln)=some ((TV.ptr false τ a:TV S).er ln):=by
 unfold JX at h
 split at h
 ·rename_i f τ' a'
  have:=dW h
  cases this
  cases f <;> rfl
 ·rename_i hh
  split at h
  ·rename_i e m vs ho
   split at h
   ·rename_i k
    split at h
    ·rename_i l hl
     have hp:=S.kF _ _ _ h
     show view (n+2) s.er.st (.loc hh 0)=some (.ptr (aL S (.st k) a))
     rw[gu,hp]
     exact FU (cO ho) rfl rfl (AO n hl)
    ·cases h
   ·split at h
    ·obtain⟨h1,h2⟩:=AP n h
     show view (n+2) s.er.st (.loc hh 0)=some (.ptr (aL S τ a))
     rw[j7 S h2]
     refine FU (cO ho) rfl rfl ?_
     simp only[TO.er,TV.er.go,dU,h1]
    ·cases h
  ·cases h
 ·cases h
theorem FY {n:Nat}{st:List (Nat×ap)}{g g':G}(h:view (n+2) st g=some g'):rl (n+2) st g=some g':=by
 cases g with
 | aE f l=>simp[view] at h
 | _=>exact h
def Sh.flat:Sh→Bool
 | .aE _ _=>false
 | _=>true
def FG:List Sh→Bool
 | []=>true
 | x::r=>x.flat&&FG r
def SG:Sh→Bool
 | .aE _ l=>FG l
 | _=>true
def Cq:List Sh→Bool
 | []=>true
 | x::r=>SG x&&Cq r
theorem Eh {s:ah S}(n:Nat) (ln:Nat→Nat):∀{l:List Sh}{vs:List (TV S)}{xs:List (bo S.α)},FG l=true→jW s l vs=some xs→∀r,(cX l (xs++r)).2=r∧dU (view (n+2) s.er.st) (TV.er.go s.ln vs)=some (TV.er.go ln (cX l (xs++r)).1)
 | [],[],_,_,h,r=>by simp[jW] at h;subst h;exact⟨rfl,rfl⟩
 | x::l,v::vs,xs,hf,h,r=>by
  simp only[FG,aj] at hf
  simp only[jW] at h
  split at h
  ·rename_i a ha
   split at h
   ·rename_i l' hl
    cases h
    rw[aC]
    obtain⟨i1,i2⟩:=Eh n ln hf.2 hl r
    cases x with
    | aE f l0=>cases hf.1
    | own _ _=>simp[fE] at ha
    | loc _ _=>simp[fE] at ha
    | agg _=>simp[fE] at ha
    | cq _=>simp[fE] at ha
    | mp _=>simp[fE] at ha
    | fB _ _=>simp[fE] at ha
    | ks _ _=>simp[fE] at ha
    | lT=>simp[fE] at ha
    | sub _ _=>simp[fE] at ha
    | any=>simp[fE] at ha
    | ab f τ=>
     cases f with
     | true=>simp[fE] at ha
     | false=>
     simp only[fE] at ha
     split at ha
     ·rename_i b hb
      cases ha
      refine⟨i1,?_⟩
      simp only[TV.er.go,dU,FX n hb ln,i2]
      rfl
     ·cases ha
    | ptr f τ=>
     cases f with
     | true=>simp[fE] at ha
     | false=>
     simp only[fE] at ha
     split at ha
     ·rename_i b hb
      cases ha
      refine⟨i1,?_⟩
      simp only[TV.er.go,dU,FW n hb ln,i2]
      rfl
     ·cases ha
   ·cases h
  ·cases h
 | [],_::_,_,_,h,_=>by simp[jW] at h
 | _::_,[],_,_,h,_=>by simp[jW] at h
theorem uy {s:ah S}(n:Nat) (ln:Nat→Nat):∀{l:List Sh}{vs:List (TV S)}{xs:List (bo S.α)},Cq l=true→jW s l vs=some xs→∀r,(cX l (xs++r)).2=r∧dU (rl (n+2) s.er.st) (TV.er.go s.ln vs)=some (TV.er.go ln (cX l (xs++r)).1)
 | [],[],_,_,h,r=>by simp[jW] at h;subst h;exact⟨rfl,rfl⟩
 | x::l,v::vs,xs,hf,h,r=>by
  simp only[Cq,aj] at hf
  simp only[jW] at h
  split at h
  ·rename_i a ha
   split at h
   ·rename_i l' hl
    cases h
    rw[aC]
    obtain⟨i1,i2⟩:=uy n ln hf.2 hl r
    cases x with
    | own _ _=>simp[fE] at ha
    | loc _ _=>simp[fE] at ha
    | agg _=>simp[fE] at ha
    | cq _=>simp[fE] at ha
    | mp _=>simp[fE] at ha
    | fB _ _=>simp[fE] at ha
    | ks _ _=>simp[fE] at ha
    | lT=>simp[fE] at ha
    | sub _ _=>simp[fE] at ha
    | any=>simp[fE] at ha
    | aE f l0=>
     simp only[fE] at ha
     split at ha
     ·rename_i f' vs'
      split at ha
      ·rename_i hb
       have e:=aa hb
       subst e
       obtain⟨j1,j2⟩:=Eh n ln hf.1 ha (l'++r)
       simp only[cX,il]
       rw[j1]
       refine⟨i1,?_⟩
       simp only[TV.er.go,dU,i2]
       have hv:rl (n+2) s.er.st ((TV.aE f' vs':TV S).er s.ln)=some (.aE f' (TV.er.go ln (cX l0 (a++(l'++r))).1)):=by
        show(match dU (view (n+2) s.er.st) (TV.er.go s.ln vs') with | some c=>some (G.aE f' c) | none=>none)=_
        rw[j2]
       rw[hv]
       rfl
      ·cases ha
     ·cases ha
    | ab f τ=>
     cases f with
     | true=>simp[fE] at ha
     | false=>
     simp only[fE] at ha
     split at ha
     ·rename_i b hb
      cases ha
      refine⟨i1,?_⟩
      simp only[TV.er.go,dU,FY (FX n hb ln),i2]
      rfl
     ·cases ha
    | ptr f τ=>
     cases f with
     | true=>simp[fE] at ha
     | false=>
     simp only[fE] at ha
     split at ha
     ·rename_i b hb
      cases ha
      refine⟨i1,?_⟩
      simp only[TV.er.go,dU,FY (FW n hb ln),i2]
      rfl
     ·cases ha
   ·cases h
  ·cases h
 | [],_::_,_,_,h,_=>by simp[jW] at h
 | _::_,[],_,_,h,_=>by simp[jW] at h
end
end Go.DN
/-
 DN,part V:contracts;calls by ep.
-/
namespace Go.DN
open Go.AM
structure cr (S:eC) where
 f:FuncId
 args:List Sh
 aZ:List Oh
 vw:Bool
 aA:List (Nat×Sh)
 outs:List (Nat×Oh)
 F:bj S.α (j9 args aZ)→Option (bj S.α (JH.dg ⟨aA,outs⟩))
section
variable {S:eC}
structure aP (P:Program) (con:cr S):Prop where
 call:∀args w,(callFunc con.f args).run P w=.ok (.enter con.f args) w
 ok:∀q r,con.F q=some r→GM P con.f (TV.er.go (eV con.args con.aZ (leaves _ q)).ln (cX con.args (leaves _ q)).1) (eV con.args con.aZ (leaves _ q)).er.st (Sq con.aA con.outs r)
def lS:List (Nat×Sh)→Bool
 | []=>true
 | (_,.ab _ _)::r=>lS r
 | _=>false
def pX:List (Nat×Sh)→Bool
 | []=>true
 | (_,.ab f _)::r=>f&&pX r
 | _=>false
theorem CK {g:G}(h:(∃u,g=.val u)∨∃n cs,g=.sl n cs):jI (dq true g)=true:=by
 rcases h with ⟨u,rfl⟩ | ⟨n,cs,rfl⟩ <;> rfl
theorem K3 (τ:Ty) (a:S.D τ):jI (nk true τ a)=true:=by
 cases τ with
 | st n=>
  show jI.go ((aL S (.st n) a).map (dq true))=true
  have h:=rT (S:=S) (.st n) a
  generalize aL S (.st n) a=l at h
  induction l with
  | nil=>rfl
  | cons x r ih=>
   simp only[aI,jI.go,CK (h x av),ih fun y hy=>h y (ao _ hy),fI]
 | _=>exact CK (vY rfl a)
theorem CJ (ln:Nat→Nat):∀(aA:List (Nat×Sh)) (ls:List (bo S.α)),pX aA=true→ls.length=(iI aA).length→jI.go (((cv aA ls).1.map (·.2)).map (TV.er ln))=true
 | [],_,_,_=>rfl
 | (d,.ab f τ)::r,ls,h,hl=>by
  simp only[pX,aj] at h
  cases ls with
  | nil=>simp[iI,Sh.dg] at hl
  | cons x xs=>
   simp only[cv,il,aI,jI.go]
   rw[h.1,CJ ln r xs h.2 (by simpa[iI,Sh.dg] using hl),iY]
   exact K3 x.τ x.a
 | (d,.own h τ)::r,ls,h',_=>by cases h'
 | (d,.ptr _ _)::r,ls,h',_=>by cases h'
 | (d,.loc _ _)::r,ls,h',_=>by cases h'
 | (d,.aE _ _)::r,ls,h',_=>by cases h'
 | (d,.agg _)::r,ls,h',_=>by cases h'
 | (d,.cq _)::r,ls,h',_=>by cases h'
 | (d,.mp _)::r,ls,h',_=>by cases h'
 | (d,.fB _ _)::r,ls,h',_=>by cases h'
 | (d,.ks _ _)::r,ls,h',_=>by cases h'
 | (d,.any)::r,ls,h',_=>by cases h'
 | (d,.lT)::r,ls,h',_=>by cases h'
 | (d,.sub _ _)::r,ls,h',_=>by cases h'
theorem EZ {aA:List (Nat×Sh)}{ls:List (bo S.α)}(h:pX aA=true) (hl:ls.length=(iI aA).length) (ln:Nat→Nat):jI ((lG aA ls).er ln)=true:=by
 have:=CJ (S:=S) ln aA ls h hl
 rw[←vM]
 revert this
 generalize (((cv aA ls).1.map (·.2)).map (TV.er ln))=gs
 intro hg
 match gs with
 | []=>rfl
 | [g]=>simpa[jI.go,pack] using hg
 | g::g'::r=>exact hg
theorem JC (ln ln':Nat→Nat):∀(aA:List (Nat×Sh)) (ls:List (bo S.α)),lS aA=true→((cv aA ls).1.map (·.2)).map (TV.er ln)=((cv aA ls).1.map (·.2)).map (TV.er ln')
 | [],_,_=>rfl
 | (d,.ab f τ)::r,ls,h=>by
  simp only[cv,aI]
  rw[JC ln ln' r _ h]
  cases ls <;> rfl
 | (d,.own h τ)::r,ls,h'=>by cases h'
 | (d,.ptr _ _)::r,ls,h'=>by cases h'
 | (d,.loc _ _)::r,ls,h'=>by cases h'
 | (d,.aE _ _)::r,ls,h'=>by cases h'
 | (d,.agg _)::r,ls,h'=>by cases h'
 | (d,.cq _)::r,ls,h'=>by cases h'
 | (d,.mp _)::r,ls,h'=>by cases h'
 | (d,.fB _ _)::r,ls,h'=>by cases h'
 | (d,.ks _ _)::r,ls,h'=>by cases h'
 | (d,.any)::r,ls,h'=>by cases h'
 | (d,.lT)::r,ls,h'=>by cases h'
 | (d,.sub _ _)::r,ls,h'=>by cases h'
theorem GH (ln ln':Nat→Nat){aA:List (Nat×Sh)}{ls:List (bo S.α)}(h:lS aA=true):(lG aA ls).er ln=(lG aA ls).er ln':=by
 rw[←vM,←vM,JC ln ln' aA ls h]
def TV.imp:TV S→Bool
 | .ab _ _ _=>true
 | .ptr _ _ _=>true
 | .val _=>true
 | .agg l=>go l
 | .aE _ l=>go l
 | _=>false
where go:List (TV S)→Bool
 | []=>true
 | x::r=>x.imp&&go r
def mD:G→Bool
 | .val _=>true
 | .sl _ _=>true
 | .ptr _=>true
 | .fr _=>true
 | .agg gs=>go gs
 | .aE _ gs=>go gs
 | _=>false
where go:List G→Bool
 | []=>true
 | g::r=>mD g&&go r
mutual
theorem MJ (ln:Nat→Nat):∀v:TV S,v.imp=true→mD (v.er ln)=true
 | .ab f τ a,_=>by
  cases τ with
  | st n=>
   show mD.go ((aL S (.st n) a).map (dq f))=true
   have h:=rT (S:=S) (.st n) a
   generalize aL S (.st n) a=l at h
   induction l with
   | nil=>rfl
   | cons x r ih=>
    have h1:mD (dq f x)=true:=by
     rcases h x av with ⟨u,rfl⟩ | ⟨n,cs,rfl⟩ <;> cases f <;> rfl
    simp only[aI,mD.go,h1,ih fun y hy=>h y (ao _ hy),fI]
  | _=>cases f <;> rfl
 | .ptr f τ a,_=>by cases f <;> rfl
 | .val _,_=>rfl
 | .agg l,h=>nJ ln l h
 | .aE _ l,h=>nJ ln l h
 | .bj _,h=>by cases h
 | .loc _ _,h=>by cases h
 | .gI _ _ _ _,h=>by cases h
 | .aQ _ _,h=>by cases h
 | .sub _ _ _ _,h=>by cases h
 | .cq _,h=>by cases h
 | .mp _,h=>by cases h
 | .ks _ _ _ _,h=>by cases h
 | .kp _ _ _ _,h=>by cases h
 | .fB _ _ _ _ _,h=>by cases h
 | .any,h=>by cases h
theorem nJ (ln:Nat→Nat):∀l:List (TV S),TV.imp.go l=true→mD.go (TV.er.go ln l)=true
 | [],_=>rfl
 | x::r,h=>by
  simp only[TV.imp.go,aj] at h
  simp only[TV.er.go,mD.go,MJ ln x h.1,nJ ln r h.2,fI]
end
theorem wZ {f:G→Option G}:∀{gs gs':List G},(∀g g',g∈gs→f g=some g'→fP g=some g')→dU f gs=some gs'→fP.go gs=some gs'
 | [],_,_,h=>by cases h;rfl
 | g::r,gs',hf,h=>by
  simp only[dU] at h
  split at h
  ·rename_i g1 r1 h1 h2
   cases h
   simp only[fP.go,hf g g1 av h1,wZ (fun x x' hx=>hf x x' (ao _ hx)) h2]
  ·cases h
theorem yG:∀{gs:List G}{g:G},mD.go gs=true→g∈gs→mD g=true
 | x::r,g,h,hm=>by
  simp only[mD.go,aj] at h
  rcases aX.1 hm with e | hm
  ·subst e;exact h.1
  ·exact yG h.2 hm
theorem AN {st:List (Nat×ap)}:∀(n:Nat){g g':G},mD g=true→view n st g=some g'→fP g=some g'
 | 0,_,_,_,h=>by cases h
 | n+1,g,g',ho,h=>by
  cases g with
  | val v=>exact h
  | sl m cs=>exact h
  | ptr cs=>exact h
  | fr g=>exact h
  | agg gs=>
   have h:(match dU (view n st) gs with | some gs'=>some (G.agg gs') | none=>none)=some g':=h
   split at h
   ·rename_i gs' hm
    cases h
    show(fP.go gs).map G.agg=_
    rw[wZ (fun x x' hx hv=>AN n (yG ho hx) hv) hm];rfl
   ·cases h
  | aE f gs=>simp[view] at h
  | _=>cases ho
theorem LB {n:Nat}{st:List (Nat×ap)}{g g':G}(ho:mD g=true) (h:rl n st g=some g'):fP g=some g':=by
 cases g with
 | aE f gs=>
  have h:(match dU (view n st) gs with | some c=>some (G.aE f c) | none=>none)=some g':=h
  split at h
  ·rename_i gs' hm
   cases h
   show(fP.go gs).map (G.aE f)=_
   rw[wZ (fun x x' hx hv=>AN n (yG ho hx) hv) hm];rfl
  ·cases h
 | _=>exact AN n ho h
theorem w5 {n:Nat}{st:List (Nat×ap)}:∀{gs gs':List G},mD.go gs=true→dU (rl n st) gs=some gs'→dU fP gs=some gs'
 | [],_,_,h=>by cases h;rfl
 | g::r,gs',ho,h=>by
  simp only[mD.go,aj] at ho
  simp only[dU] at h
  split at h
  ·rename_i g1 r1 h1 h2
   cases h
   simp only[dU,LB ho.1 h1,w5 ho.2 h2]
  ·cases h
theorem Oi (f:Bool) (τ:Ty) (a:S.D τ):lh (nk f τ a)=true:=by
 cases τ with
 | st n=>
  show lh.go ((aL S (.st n) a).map (dq f))=true
  have h:=rT (S:=S) (.st n) a
  generalize aL S (.st n) a=l at h
  induction l with
  | nil=>rfl
  | cons x r ih=>
   have h1:lh (dq f x)=true:=by
    rcases h x av with ⟨u,rfl⟩ | ⟨n,cs,rfl⟩ <;> cases f <;> rfl
   simp only[aI,lh.go,h1,ih fun y hy=>h y (ao _ hy),fI]
 | _=>cases f <;> rfl
theorem HL (ln:Nat→Nat):∀(aA:List (Nat×Sh)) (ls:List (bo S.α)),lS aA=true→ls.length=(iI aA).length→lh.go (((cv aA ls).1.map (·.2)).map (TV.er ln))=true
 | [],_,_,_=>rfl
 | (d,.ab f τ)::r,ls,h,hl=>by
  cases ls with
  | nil=>simp[iI,Sh.dg] at hl
  | cons x xs=>
   simp only[cv,il,aI,lh.go]
   rw[HL ln r xs h (by simpa[iI,Sh.dg] using hl),iY]
   exact Oi f x.τ x.a
 | (d,.own h τ)::r,ls,h',_=>by cases h'
 | (d,.ptr _ _)::r,ls,h',_=>by cases h'
 | (d,.loc _ _)::r,ls,h',_=>by cases h'
 | (d,.aE _ _)::r,ls,h',_=>by cases h'
 | (d,.agg _)::r,ls,h',_=>by cases h'
 | (d,.cq _)::r,ls,h',_=>by cases h'
 | (d,.mp _)::r,ls,h',_=>by cases h'
 | (d,.fB _ _)::r,ls,h',_=>by cases h'
 | (d,.ks _ _)::r,ls,h',_=>by cases h'
 | (d,.any)::r,ls,h',_=>by cases h'
 | (d,.lT)::r,ls,h',_=>by cases h'
 | (d,.sub _ _)::r,ls,h',_=>by cases h'
theorem DR {aA:List (Nat×Sh)}{ls:List (bo S.α)}(h:lS aA=true) (hl:ls.length=(iI aA).length) (ln:Nat→Nat):lh ((lG aA ls).er ln)=true:=by
 have:=HL (S:=S) ln aA ls h hl
 rw[←vM]
 revert this
 generalize (((cv aA ls).1.map (·.2)).map (TV.er ln))=gs
 intro hg
 match gs with
 | []=>rfl
 | [g]=>simpa[lh.go,pack] using hg
 | g::g'::r=>exact hg
def oi (con:cr S):Bool:=isNil con.aZ&&(isNil con.outs&&(Cq con.args&&lS con.aA))
def xA (con:cr S) (s:ah S) (d:Nat) (vs:List (TV S)){A:Type}(k:ah S→Option A):Option A:=
 match oi con&&(pX con.aA||TV.imp.go vs) with
 | true=>match jW s con.args vs with
  | some ls=>match lA (j9 con.args con.aZ) ls with
   | some q=>(con.F q).bind fun r=>k (s.put d (lG con.aA (leaves _ r)))
   | none=>none
  | none=>none
 | false=>none
theorem pk (ln:Nat→Nat):∀(l l':List (TV S)),TV.er.go ln (l++l')=TV.er.go ln l++TV.er.go ln l'
 | [],_=>rfl
 | x::r,l'=>by simp only[bx,TV.er.go,pk ln r l']
theorem Bh {α:Type}:∀{l:List α},isNil l=true→l=[]
 | [],_=>rfl
 | _::_,h=>by cases h
theorem wL {P:Program}{con:cr S}(C:aP P con) (h:oi con=true):Cq con.args=true∧lS con.aA=true∧
  ∀q r,con.F q=some r→GM P con.f (TV.er.go (fun _=>0) (cX con.args (leaves _ q)).1) [] (fun g st=>g=(lG con.aA (leaves _ r)).er (fun _=>0)∧st=[]):=by
 simp only[oi,aj] at h
 obtain⟨h1,h2,h3,h4⟩:=h
 refine⟨h3,h4,fun q r hr=>?_⟩
 have:=C.ok q r hr
 obtain⟨f,args,aZ,vw,aA,outs,F⟩:=con
 have h1':aZ=[]:=Bh h1
 have h2':outs=[]:=Bh h2
 subst h1';subst h2'
 have e1:(eV args [] (leaves (j9 args []) q)).ln=fun _=>0:=rfl
 rw[e1] at this
 exact this
theorem zF {aA:List (Nat×Sh)}{outs:List (Nat×Oh)}(r:bj S.α (JH.dg ⟨aA,outs⟩)) (h:outs=[]):(leaves _ r).length=(iI aA).length:=by
 subst h
 rw[CC];simp[JH.dg,Cs]
theorem sP {con:cr S}(h:oi con=true):con.outs=[]:=by
 simp only[oi,aj] at h
 exact Bh h.2.1
theorem OL {P:Program}{N:Nat}{W:List Nat}{con:cr S}(C:aP P con){s:ah S}{d:Nat}{vs:List (TV S)}{A:Type}{k:ah S→Option A}{r:A}(hl:aY s) (h:xA con s d vs k=some r)
  {xs:Array Operand}{ts:Array TypeId}{ty:TypeId}{pos:String}{after:Array Edge}{guard:Option (Nat×Bool)}(hv:sd s xs.toList=some vs):
  ∃T:St→Prop,bH P W s.er ⟨some d,.call ⟨.value (.func con.f),xs,ts⟩,ty,pos,after,guard⟩ T∧∀s',T s'→∃t:ah S,Gh s' t.er∧aY t∧bz s t∧k t=some r:=by
 unfold xA at h
 split at h
 ·rename_i hc
  rw[aj] at hc
  obtain⟨hp,hfr⟩:=hc
  obtain⟨C1,C2,C3⟩:=wL C hp
  split at h
  ·rename_i ls hls
   split at h
   ·rename_i q hq
    obtain⟨res,h1,h2⟩:=bind_some h
    have hview:=(uy 1 (fun _=>0) C1 hls []).2
    rw[b9,←fY hq] at hview
    have fin:∀s',(∃g st,(g=(lG con.aA (leaves _ res)).er (fun _=>0)∧st=([]:List (Nat×ap)))∧s'=s.er.put d g)→∃t:ah S,Gh s' t.er∧aY t∧bz s t∧k t=some r:=by
     intro s' hs'
     obtain⟨g,st,⟨hg,_⟩,e⟩:=hs'
     subst e;subst hg
     refine⟨_,?_,hl.put d _,⟨rfl,rfl,rfl⟩,h2⟩
     rw[fC,GH s.ln (fun _=>0) C2]
     exact Gh.refl _
    have hlen:=zF res (sP hp)
    cases hfs:pX con.aA with
    | true=>exact⟨_,EF.call (P:=P) (W:=W) 3 C.call (kX hv).2 hview (C3 q res h1) (fun g st hg=>by rw[hg.1];exact EZ hfs hlen _),fin⟩
    | false=>
     rw[hfs] at hfr
     have himp:=nJ s.ln vs hfr
     exact⟨_,EF.Sf (P:=P) (W:=W) C.call (kX hv).2 (w5 himp hview) (C3 q res h1) (fun g st hg=>⟨by rw[hg.1];exact DR C2 hlen _,hg.2⟩),fin⟩
   ·cases h
  ·cases h
 ·cases h
theorem EF.RH {P:Program}{W:List Nat}{s:St}{d:Nat}{ty:TypeId}{pos:String}{after:Array Edge}{guard:Option (Nat×Bool)}{f:FuncId}{x:Operand}{xs:Array Operand}{ts:Array TypeId}{gs caps gs':List G}{Q:G→List (Nat×ap)→Prop}(hc:∀args w,(callFunc f args).run P w=.ok (.enter f args) w)
  (hf:ev s x=some (.aE f caps)) (hx:tV s xs.toList=some gs) (hv:dU fP (gs++caps)=some gs') (hcon:GM P f gs' [] Q) (hres:∀r st',Q r st'→lh r=true∧st'=[]):
  bH P W s ⟨some d,.call ⟨.value x,xs,ts⟩,ty,pos,after,guard⟩ (fun s'=>∃r st',Q r st'∧s'=s.put d r):=by
 refine⟨(fun _ h=>by cases h),?_⟩
 intro N cx μ a w hr hN K Q' hK
 obtain⟨h1,h2⟩:=mf hx
 have hcl:=hr.ev hf
 generalize hav:a.eval x=vf at hcl
 cases hcl with
 | aG h=>cases h
 | aE _ _ us hl hrc=>
  have hcall:=CZ (vs:=xs.toList.map a.eval++us) (W:=W) hr hv (by simp[h1,hl]) (fun j g v hg hv=>by
   rw[a8] at hg hv
   rw[a5,←h1] at hv
   split at hg
   ·rename_i hj
    rw[if_pos hj] at hv
    obtain⟨x,hxj,he⟩:=h2 j g hg
    rw[ay,hxj] at hv
    cases hv
    exact hr.ev he
   ·rename_i hj
    rw[if_neg hj] at hv
    exact hrc _ g v hg hv) hcon hres
  unfold Oper.wp
  have:(execOp a.eval ⟨some d,.call ⟨.value x,xs,ts⟩,ty,pos,after,guard⟩).run P w=.ok (.enter f (xs.toList.map a.eval++us).toArray) w:=by
   have e:xs.map a.eval++us.toArray=(xs.toList.map a.eval++us).toArray:=by rw[←nX,←eg]
   simp[execOp,resolve,invoke,Deferred.ofValue,hav,hc,e]
  rw[this]
  refine hcall.mono ?_
  rintro e w' ⟨v,r,st',rfl,hq,hr',hrv,hst⟩
  exact hK μ _ _ w' (hr'.put (hN d rfl) hrv) ⟨r,st',hq,rfl⟩ hst
theorem Ip {P:Program}{N:Nat}{W:List Nat}{con:cr S}(C:aP P con){s:ah S}{d:Nat}{vs caps:List (TV S)}{A:Type}{k:ah S→Option A}{r:A}(hl:aY s) (h:xA con s d (vs++caps) k=some r)
  {x:Operand}{xs:Array Operand}{ts:Array TypeId}{ty:TypeId}{pos:String}{after:Array Edge}{guard:Option (Nat×Bool)}(hx:cm s x=some (.aE con.f caps)) (hv:sd s xs.toList=some vs):
  ∃T:St→Prop,bH P W s.er ⟨some d,.call ⟨.value x,xs,ts⟩,ty,pos,after,guard⟩ T∧∀s',T s'→∃t:ah S,Gh s' t.er∧aY t∧bz s t∧k t=some r:=by
 unfold xA at h
 split at h
 ·rename_i hc
  rw[aj] at hc
  obtain⟨hp,hfr⟩:=hc
  obtain⟨C1,C2,C3⟩:=wL C hp
  split at h
  ·rename_i ls hls
   split at h
   ·rename_i q hq
    obtain⟨res,h1,h2⟩:=bind_some h
    have hview:=(uy 1 (fun _=>0) C1 hls []).2
    rw[b9,←fY hq,pk] at hview
    have fin:∀s',(∃g st,(g=(lG con.aA (leaves _ res)).er (fun _=>0)∧st=([]:List (Nat×ap)))∧s'=s.er.put d g)→∃t:ah S,Gh s' t.er∧aY t∧bz s t∧k t=some r:=by
     intro s' hs'
     obtain⟨g,st,⟨hg,_⟩,e⟩:=hs'
     subst e;subst hg
     refine⟨_,?_,hl.put d _,⟨rfl,rfl,rfl⟩,h2⟩
     rw[fC,GH s.ln (fun _=>0) C2]
     exact Gh.refl _
    cases hfs:pX con.aA with
    | true=>exact⟨_,EF.Se (P:=P) (W:=W) 3 C.call (bf hx) (kX hv).2 hview (C3 q res h1) (fun g st hg=>by rw[hg.1];exact EZ hfs (zF res (sP hp)) _),fin⟩
    | false=>
     rw[hfs] at hfr
     have himp:=nJ s.ln (vs++caps) hfr
     rw[pk] at himp
     exact⟨_,EF.RH (P:=P) (W:=W) C.call (bf hx) (kX hv).2 (w5 himp hview) (C3 q res h1) (fun g st hg=>⟨by rw[hg.1];exact DR C2 (zF res (sP hp)) _,hg.2⟩),fin⟩
   ·cases h
  ·cases h
 ·cases h
theorem aP.Sm {P:Program}{N fu:Nat}{H:List (Nat×mq)}{cl:Cl S}{con:cr S}{fn:Func}{c:Code}(hm:P.follows .mixedOrders=true) (hcl:Ac P N cl)
  (hf:P.funcs[con.f]?=some fn) (hcall:∀args w,(callFunc con.f args).run P w=.ok (.enter con.f args) w) (hb:fn.body=some c) (hN:fn.ntmps=N)
  (hle:tB N con.args con.aA con.outs=true) (hrg:oF S N H (lF c 0))
  {mvs:List Nat}(h:∀q,Ib P N fu H cl c mvs fn.results.toList con.args con.aZ con.aA con.outs q=con.F q):aP P con:=
 ⟨hcall,fun q r hr=>Qv hm hcl hf hb hN hle hrg ((h q).trans hr)⟩
end
end Go.DN
