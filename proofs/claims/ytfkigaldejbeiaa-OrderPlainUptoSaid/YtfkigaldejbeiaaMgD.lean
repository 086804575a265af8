/-
  DN, second half.
-/
import Derived.Test.YtfkigaldejbeiaaMgG
set_option linter.unusedSectionVars false
set_option linter.unusedSimpArgs false
set_option linter.unusedVariables false
/-
 DN,part O:what a loop or a join carries.
-/
namespace Go.DN
open Go.AM
inductive Sh where
 | ab (f:Bool) (τ:Ty)
 | ptr (f:Bool) (τ:Ty)
 | own (h:Nat) (τ:Ty)
 | loc (h off:Nat)
 | aF (f:FuncId) (l:List Sh)
 | agg (l:List Sh)
 | ct (h:Nat)
 | mp (h:Nat)
 | any
 | lZ
 | sub (h:Nat) (τ:Ty)
 | fD (h:Nat) (τ:Ty)
 | ks (h:Nat) (τ:Ty)
inductive Oh where
 | aV (e:TypeId) (m f:Bool) (τ:Ty)
 | box (e:TypeId) (m:Bool) (cs:List Sh)
 | lp (key:Nat) (lv:Bool) (cs:List Sh)
 | deep (e:TypeId) (m f:Bool) (dk:Dk) (τ:Ty)
structure JH where
 aA:List (Nat×Sh)
 a6:List (Nat×Oh)
mutual
def Sh.dl:Sh→List Ty
 | .ab _ τ=>[τ]
 | .ptr _ τ=>[τ]
 | .own _ _=>[]
 | .loc _ _=>[]
 | .aF _ l=>wY l
 | .agg l=>wY l
 | .ct _=>[]
 | .mp _=>[]
 | .any=>[]
 | .lZ=>[.int .i64]
 | .sub _ _=>[.int .i64,.int .i64]
 | .fD _ _=>[.bool,.int .i64,.int .i64]
 | .ks _ _=>[.int .i64,.int .i64]
def wY:List Sh→List Ty
 | []=>[]
 | x::r=>x.dl++wY r
end
def Oh.dl:Oh→List Ty
 | .aV _ _ _ τ=>[.list τ]
 | .box _ _ cs=>wY cs
 | .lp _ lv cs=>match lv with
  | true=>.int .i64::wY cs
  | false=>wY cs
 | .deep _ _ _ _ τ=>[τ]
def iM:List (Nat×Sh)→List Ty
 | []=>[]
 | (_,x)::r=>x.dl++iM r
def CL:List (Nat×Oh)→List Ty
 | []=>[]
 | (_,x)::r=>x.dl++CL r
def JH.dl (j:JH):List Ty:=iM j.aA++CL j.a6
@[reducible] def bl (α:Nat→Type):List Ty→Type
 | []=>Unit
 | [t]=>t.den α
 | t::r=>t.den α×bl α r
section
variable {S:eE}
def lG:(ts:List Ty)→List (br S.α)→Option (bl S.α ts)
 | [],[]=>some ()
 | [t],[x]=>iw x.τ t x.a
 | t::u::r,x::xs=>match iw x.τ t x.a with
  | some a=>match lG (u::r) xs with
   | some b=>some (a,b)
   | none=>none
  | none=>none
 | _,_=>none
def leaves:(ts:List Ty)→bl S.α ts→List (br S.α)
 | [],_=>[]
 | [t],q=>[⟨t,q⟩]
 | t::u::r,q=>⟨t,q.1⟩::leaves (u::r) q.2
theorem gd:∀{ts:List Ty}{xs:List (br S.α)}{q:bl S.α ts},lG ts xs=some q→leaves ts q=xs
 | [],[],_,_=>rfl
 | [t],[x],q,h=>by
  obtain⟨τ,a⟩:=x
  have:=ec h
  show[(⟨t,q⟩:br S.α)]=_
  rw[this]
 | t::u::r,x::xs,q,h=>by
  simp only[lG] at h
  split at h
  ·rename_i a h1
   split at h
   ·rename_i b h2
    cases h
    show(⟨t,a⟩:br S.α)::leaves (u::r) b=_
    rw[gd h2]
    obtain⟨τ,a'⟩:=x
    rw[ec h1]
   ·cases h
  ·cases h
 | [],_::_,_,h=>by cases h
 | [_],[],_,h=>by cases h
 | [_],_::_::_,_,h=>by simp[lG] at h
 | _::_::_,[],_,h=>by cases h
mutual
def kM:Sh→TV S→Option (List (br S.α))
 | .ab f τ,v=>match Cm τ v with
  | some (f',a)=>match !f||f' with
   | true=>some [⟨τ,a⟩]
   | false=>none
  | none=>none
 | .ptr f τ,v=>match v with
  | .ptr f' τ' a=>match !f||f' with
   | true=>match iw τ' τ a with
    | some b=>some [⟨τ,b⟩]
    | none=>none
   | false=>none
  | _=>none
 | .own h τ,v=>match v with
  | .aR h' τ'=>match Nat.beq h' h with
   | true=>match decEq τ' τ with
    | isTrue _=>some []
    | isFalse _=>none
   | false=>none
  | _=>none
 | .loc h o,v=>match v with
  | .loc h' o'=>match Nat.beq h' h&&Nat.beq o' o with
   | true=>some []
   | false=>none
  | _=>none
 | .aF f l,v=>match v with
  | .aF f' vs=>match Nat.beq f' f with
   | true=>pR l vs
   | false=>none
  | _=>none
 | .agg l,v=>match v with
  | .agg vs=>pR l vs
  | _=>none
 | .ct h,v=>match v with
  | .ct h'=>match Nat.beq h' h with
   | true=>some []
   | false=>none
  | _=>none
 | .mp h,v=>match v with
  | .mp h'=>match Nat.beq h' h with
   | true=>some []
   | false=>none
  | _=>none
 | .any,_=>some []
 | .lZ,v=>match v with
  | .aF f []=>some [⟨.int .i64,(f:Int)⟩]
  | _=>none
 | .sub h τ,v=>match v with
  | .sub h' τ' o n=>match Nat.beq h' h with
   | true=>match decEq τ' τ with
    | isTrue _=>some [⟨.int .i64,(o:Int)⟩,⟨.int .i64,(n:Int)⟩]
    | isFalse _=>none
   | false=>none
  | _=>none
 | .ks h τ,v=>match v with
  | .ks h' τ' z n=>match Nat.beq h' h with
   | true=>match decEq τ' τ with
    | isTrue _=>some [⟨.int .i64,(z:Int)⟩,⟨.int .i64,(n:Int)⟩]
    | isFalse _=>none
   | false=>none
  | _=>none
 | .fD h τ,v=>match v with
  | .val (.pointer none)=>some [⟨.bool,true⟩,⟨.int .i64,(0:Int)⟩,⟨.int .i64,(0:Int)⟩]
  | .kp h' τ' i j=>match Nat.beq h' h with
   | true=>match decEq τ' τ with
    | isTrue _=>some [⟨.bool,false⟩,⟨.int .i64,(i:Int)⟩,⟨.int .i64,(j:Int)⟩]
    | isFalse _=>none
   | false=>none
  | .fD b h' τ' i j=>match Nat.beq h' h with
   | true=>match decEq τ' τ with
    | isTrue _=>some [⟨.bool,b⟩,⟨.int .i64,(i:Int)⟩,⟨.int .i64,(j:Int)⟩]
    | isFalse _=>none
   | false=>none
  | _=>none
def pR:List Sh→List (TV S)→Option (List (br S.α))
 | [],[]=>some []
 | sh::r,v::vs=>match kM sh v with
  | some xs=>match pR r vs with
   | some ys=>some (xs++ys)
   | none=>none
  | none=>none
 | _,_=>none
end
mutual
def ir:Sh→List (br S.α)→TV S×List (br S.α)
 | .ab f _,ls=>match ls with
  | x::r=>(.ab f x.τ x.a,r)
  | []=>(.any,[])
 | .ptr f _,ls=>match ls with
  | x::r=>(.ptr f x.τ x.a,r)
  | []=>(.any,[])
 | .own h τ,ls=>(.aR h τ,ls)
 | .loc h o,ls=>(.loc h o,ls)
 | .aF f l,ls=>(.aF f (cZ l ls).1,(cZ l ls).2)
 | .agg l,ls=>(.agg (cZ l ls).1,(cZ l ls).2)
 | .ct h,ls=>(.ct h,ls)
 | .mp h,ls=>(.mp h,ls)
 | .any,ls=>(.any,ls)
 | .lZ,ls=>match ls with
  | ⟨.int _,a⟩::r=>(.aF (Int.toNat a) [],r)
  | r=>(.any,r)
 | .sub h τ,ls=>match ls with
  | ⟨.int _,a⟩::⟨.int _,b⟩::r=>(.sub h τ (Int.toNat a) (Int.toNat b),r)
  | r=>(.any,r)
 | .ks h τ,ls=>match ls with
  | ⟨.int _,a⟩::⟨.int _,b⟩::r=>(.ks h τ (Int.toNat a) (Int.toNat b),r)
  | r=>(.any,r)
 | .fD h τ,ls=>match ls with
  | ⟨.bool,b⟩::⟨.int _,i⟩::⟨.int _,j⟩::r=>(.fD b h τ (Int.toNat i) (Int.toNat j),r)
  | r=>(.any,r)
def cZ:List Sh→List (br S.α)→List (TV S)×List (br S.α)
 | [],ls=>([],ls)
 | sh::r,ls=>((ir sh ls).1::(cZ r (ir sh ls).2).1,(cZ r (ir sh ls).2).2)
end
theorem RW.any (g:G):RW g .any:=fun _ _ _ _ _ _=>.aH (.any _)
theorem RW.aF {f:FuncId}{gs gs':List G}(hl:gs'.length=gs.length) (h:∀(j:Nat) (g':G),gs'[j]?=some g'→∃g,gs[j]?=some g∧RW g g'):RW (.aF f gs) (.aF f gs'):=by
 intro O base w μ v hv
 cases hv with
 | aH hv=>cases hv
 | aF _ _ us h1 h2=>exact .aF f _ us (h1.trans hl.symm) fun j g' v hg' hv=>(by
   obtain⟨g,hg,hw⟩:=h j g' hg'
   exact hw _ _ _ _ _ (h2 j g v hg hv))
theorem RW.ab (f f':Bool) (τ:Ty) (a:S.D τ) (hc:(!f||f')=true):RW (nq f' τ a) (nq f τ a):=by
 cases f with
 | true=>
  have:f'=true:=by simpa using hc
  subst this
  exact RW.refl _
 | false=>
  unfold nq
  split
  ·rename_i n a
   refine RW.agg (by simp) fun j g' hg'=>?_
   rw[ay] at hg'⊢
   obtain⟨g,hg,rfl⟩:=av.1 hg'
   exact⟨_,by rw[hg];rfl,RW.dw _ _ _ (fun e=>by cases e)⟩
  ·exact RW.dw _ _ _ (fun e=>by cases e)
theorem RW.S5 (f f':Bool) (τ:Ty) (a:S.D τ) (hc:(!f||f')=true):RW (Od f' τ a) (Od f τ a):=by
 cases f with
 | true=>
  have:f'=true:=by simpa using hc
  subst this
  exact RW.refl _
 | false=>
  cases f' with
  | false=>exact RW.refl _
  | true=>exact RW.Rc (.ptr (aN S τ a))
theorem PM {ln:Nat→Nat}{vs vs':List (TV S)}(hl:vs'.length=vs.length) (h:∀(j:Nat) (v':TV S),vs'[j]?=some v'→∃v,vs[j]?=some v∧RW (v.er ln) (v'.er ln)):
  (TV.er.go ln vs').length=(TV.er.go ln vs).length∧∀(j:Nat) (g':G),(TV.er.go ln vs')[j]?=some g'→∃g,(TV.er.go ln vs)[j]?=some g∧RW g g':=by
 rw[cU,cU]
 refine⟨by simp[hl],fun j g' hg'=>?_⟩
 rw[ay] at hg'
 obtain⟨v',h1,rfl⟩:=av.1 hg'
 obtain⟨v,h2,h3⟩:=h j v' h1
 exact⟨v.er ln,by rw[ay,h2];rfl,h3⟩
mutual
theorem Bm (ln:Nat→Nat):∀{sh:Sh}{v:TV S}{xs:List (br S.α)},kM sh v=some xs→∀(r:List (br S.α)),(ir sh (xs++r)).2=r∧RW (v.er ln) ((ir sh (xs++r)).1.er ln)
 | .ab f τ,v,xs,h,r=>by
  simp only[kM] at h
  split at h
  ·rename_i f' a ha
   split at h
   ·rename_i hc
    cases h
    exact⟨rfl,(Re ha ln).trans (RW.ab _ _ _ _ hc)⟩
   ·cases h
  ·cases h
 | .ptr f τ,v,xs,h,r=>by
  simp only[kM] at h
  split at h
  ·rename_i f' τ' a
   split at h
   ·rename_i hc
    split at h
    ·rename_i b hb
     cases h
     have:=ec hb
     cases this
     exact⟨rfl,RW.S5 _ _ _ _ hc⟩
    ·cases h
   ·cases h
  ·cases h
 | .own h0 τ,v,xs,h,r=>by
  simp only[kM] at h
  split at h
  ·split at h
   ·rename_i hb
    split at h
    ·rename_i e _
     cases h
     subst e
     have:=aa hb
     subst this
     exact⟨rfl,RW.refl _⟩
    ·cases h
   ·cases h
  ·cases h
 | .loc h0 o,v,xs,h,r=>by
  simp only[kM] at h
  split at h
  ·split at h
   ·rename_i hb
    simp only[aj] at hb
    cases h
    have e1:=aa hb.1
    have e2:=aa hb.2
    subst e1;subst e2
    exact⟨rfl,RW.refl _⟩
   ·cases h
  ·cases h
 | .aF f l,v,xs,h,r=>by
  simp only[kM] at h
  split at h
  ·rename_i f' vs
   split at h
   ·rename_i hb
    have e:=aa hb
    subst e
    obtain⟨i1,i2,i3⟩:=qK ln h r
    obtain⟨j1,j2⟩:=PM i2 i3
    exact⟨i1,RW.aF j1 j2⟩
   ·cases h
  ·cases h
 | .agg l,v,xs,h,r=>by
  simp only[kM] at h
  split at h
  ·rename_i vs
   obtain⟨i1,i2,i3⟩:=qK ln h r
   obtain⟨j1,j2⟩:=PM i2 i3
   exact⟨i1,RW.agg j1 j2⟩
  ·cases h
 | .ct h0,v,xs,h,r=>by
  simp only[kM] at h
  split at h
  ·split at h
   ·rename_i hb
    cases h
    have:=aa hb
    subst this
    exact⟨rfl,RW.refl _⟩
   ·cases h
  ·cases h
 | .mp h0,v,xs,h,r=>by
  simp only[kM] at h
  split at h
  ·split at h
   ·rename_i hb
    cases h
    have:=aa hb
    subst this
    exact⟨rfl,RW.refl _⟩
   ·cases h
  ·cases h
 | .any,v,xs,h,r=>by
  simp only[kM] at h
  cases h
  exact⟨rfl,RW.any _⟩
 | .lZ,v,xs,h,r=>by
  simp only[kM] at h
  split at h
  ·cases h
   exact⟨rfl,RW.refl _⟩
  ·cases h
 | .sub h0 τ,v,xs,h,r=>by
  simp only[kM] at h
  split at h
  ·split at h
   ·rename_i hb
    split at h
    ·rename_i e _
     cases h
     subst e
     have:=aa hb
     subst this
     exact⟨rfl,RW.refl _⟩
    ·cases h
   ·cases h
  ·cases h
 | .ks h0 τ,v,xs,h,r=>by
  simp only[kM] at h
  split at h
  ·split at h
   ·rename_i hb
    split at h
    ·rename_i e _
     cases h
     subst e
     have:=aa hb
     subst this
     exact⟨rfl,RW.refl _⟩
    ·cases h
   ·cases h
  ·cases h
 | .fD h0 τ,v,xs,h,r=>by
  simp only[kM] at h
  split at h
  ·cases h
   exact⟨rfl,RW.refl _⟩
  ·split at h
   ·rename_i hb
    split at h
    ·rename_i e _
     cases h
     subst e
     have:=aa hb
     subst this
     exact⟨rfl,RW.refl _⟩
    ·cases h
   ·cases h
  ·split at h
   ·rename_i hb
    split at h
    ·rename_i e _
     cases h
     subst e
     have:=aa hb
     subst this
     exact⟨rfl,RW.refl _⟩
    ·cases h
   ·cases h
  ·cases h
theorem qK (ln:Nat→Nat):∀{l:List Sh}{vs:List (TV S)}{xs:List (br S.α)},pR l vs=some xs→∀(r:List (br S.α)),(cZ l (xs++r)).2=r∧(cZ l (xs++r)).1.length=vs.length∧
  ∀(j:Nat) (v':TV S),(cZ l (xs++r)).1[j]?=some v'→∃v,vs[j]?=some v∧RW (v.er ln) (v'.er ln)
 | [],[],xs,h,r=>by simp only[pR] at h;cases h;exact⟨rfl,rfl,fun j v' h=>by cases h⟩
 | sh::l,v::vs,xs,h,r=>by
  simp only[pR] at h
  split at h
  ·rename_i x1 h1
   split at h
   ·rename_i ys h2
    cases h
    rw[aC]
    obtain⟨e1,e2⟩:=Bm ln h1 (ys++r)
    obtain⟨i1,i2,i3⟩:=qK ln h2 r
    simp only[cZ]
    rw[e1]
    refine⟨i1,by simp[i2],fun j v' hj=>?_⟩
    cases j with
    | zero=>cases hj;exact⟨v,rfl,e2⟩
    | succ j=>exact i3 j v' hj
   ·cases h
  ·cases h
 | [],_::_,_,h,_=>by simp[pR] at h
 | _::_,[],_,h,_=>by simp[pR] at h
end
def CD (fr:List (Nat×TV S)):List (Nat×Sh)→Option (List (br S.α))
 | []=>some []
 | (d,sh)::r=>match bg fr d with
  | some v=>match kM sh v with
   | some xs=>match CD fr r with
    | some ys=>some (xs++ys)
    | none=>none
   | none=>none
  | none=>none
def cy:List (Nat×Sh)→List (br S.α)→List (Nat×TV S)×List (br S.α)
 | [],ls=>([],ls)
 | (d,sh)::r,ls=>((d,(ir sh ls).1)::(cy r (ir sh ls).2).1,(cy r (ir sh ls).2).2)
theorem xb {fr:List (Nat×TV S)}(ln:Nat→Nat):∀{l:List (Nat×Sh)}{xs:List (br S.α)},CD fr l=some xs→∀(r:List (br S.α)),(cy l (xs++r)).2=r∧
  ∀d v',bg (cy l (xs++r)).1 d=some v'→∃v,bg fr d=some v∧RW (v.er ln) (v'.er ln)
 | [],xs,h,r=>by cases h;exact⟨rfl,fun d v' h=>by cases h⟩
 | (d0,sh)::l,xs,h,r=>by
  simp only[CD] at h
  split at h
  ·rename_i v hv
   split at h
   ·rename_i x1 h1
    split at h
    ·rename_i ys h2
     cases h
     rw[aC]
     obtain⟨e1,e2⟩:=Bm ln h1 (ys++r)
     obtain⟨i1,i2⟩:=xb ln h2 r
     simp only[cy]
     rw[e1]
     refine⟨i1,fun d v' hd=>?_⟩
     simp only[bg] at hd
     cases hb:Nat.beq d0 d with
     | true=>
      rw[hb] at hd
      cases hd
      have:=aa hb
      subst this
      exact⟨v,hv,e2⟩
     | false=>rw[hb] at hd;exact i2 d v' hd
    ·cases h
   ·cases h
  ·cases h
def J4:Ty→Bool
 | .list (.list t)=>t.fZ
 | .map=>true
 | _=>false
def KY (oh:Oh) (o:TO S):Option (List (br S.α)):=
 match oh with
 | .aV e m f τ=>match o with
  | .aV e' m' f' τ' l=>match Nat.beq e' e&&((!m||m')&&(!f||(f'||τ'.fZ))) with
   | true=>match iw (.list τ') (.list τ) l with
    | some l=>some [⟨.list τ,l⟩]
    | none=>none
   | false=>none
  | _=>none
 | .box e m cs=>match o with
  | .box e' m' vs=>match Nat.beq e' e&&(!m||m') with
   | true=>pR cs vs
   | false=>none
  | _=>none
 | .lp key lv cs=>match o with
  | .lp key' n vs=>match Nat.beq key' key with
   | true=>match lv with
    | true=>match pR cs vs with
     | some xs=>some (⟨.int .i64,n⟩::xs)
     | none=>none
    | false=>match decEq n 0 with
     | isTrue _=>pR cs vs
     | isFalse _=>none
   | false=>none
  | _=>none
 | .deep e m f dk τ=>match o with
  | .deep e' m' f' dk' τ' a=>match Nat.beq e' e&&((!m||m')&&(!f||(f'||J4 τ'))) with
   | true=>match decEq dk' dk with
    | isTrue _=>match iw τ' τ a with
     | some a=>some [⟨τ,a⟩]
     | none=>none
    | isFalse _=>none
   | false=>none
  | _=>none
def kX (oh:Oh) (ls:List (br S.α)):TO S×List (br S.α):=
 match oh with
 | .aV e m f _=>match ls with
  | ⟨.list τ,l⟩::r=>(.aV e m f τ l,r)
  | r=>(.box e m [],r)
 | .box e m cs=>(.box e m (cZ cs ls).1,(cZ cs ls).2)
 | .lp key lv cs=>match lv with
  | true=>match ls with
   | ⟨.int _,n⟩::r=>(.lp key n (cZ cs r).1,(cZ cs r).2)
   | r=>(.box 0 false [],r)
  | false=>(.lp key 0 (cZ cs ls).1,(cZ cs ls).2)
 | .deep e m f dk _=>match ls with
  | x::r=>(.deep e m f dk x.τ x.a,r)
  | r=>(.box e m [],r)
theorem Lq {st st':List (Nat×ap)}{vs vs':List (TV S)}(ln ln':Nat→Nat) (hl:vs'.length=vs.length) (h:∀(j:Nat) (v':TV S),vs'[j]?=some v'→∃v,vs[j]?=some v∧CV st st' (v.er ln) (v'.er ln')):I3 st st' (TV.er.go ln vs) (TV.er.go ln' vs'):=by
 rw[cU,cU]
 refine⟨by simp[hl],fun j g' hg'=>?_⟩
 rw[ay] at hg'
 obtain⟨v',h1,rfl⟩:=av.1 hg'
 obtain⟨v,h2,h3⟩:=h j v' h1
 exact⟨v.er ln,by rw[ay,h2];rfl,h3⟩
theorem Fk {τ:Ty}(hs:τ.fZ=true):∀(l:List (S.D τ)) (g:G),g∈List.flatMap (aN S τ) l→∃v,g=.val v
 | l,g,hg=>by
  obtain⟨a,_,hg⟩:=ib.1 hg
  cases τ with
  | int _=>exact⟨_,cu.1 hg⟩
  | bool=>exact⟨_,cu.1 hg⟩
  | str=>exact⟨_,cu.1 hg⟩
  | list _=>cases hs
  | st _=>cases hs
  | map=>cases hs
theorem Jc (dk:Dk) (e:TypeId){τ:Ty}(hs:J4 τ=true) (a:S.D τ) (O O':Nat→Prop) (w:World) (b:Nat) (m:Mm) (h:(dk.dp e τ a).φ O w b m):(dk.dp e τ a).φ O' w b m:=by
 cases dk with
 | dK kty=>
  obtain⟨cs,h⟩:=h
  refine⟨cs,{len:=h.len,root:=h.root,inj:=h.inj,heap:=h.heap,size:=h.size,le:=h.le,max:=h.max,row:=fun i n gs hi=>?_}⟩
  obtain⟨u,x,h1,h2,h3⟩:=h.row i n gs hi
  refine⟨u,x,h1,h2,?_⟩
  cases x with
  | none=>exact h3
  | some ck=>
   obtain⟨cap,cs',q1,q2,q3,q4,q5,q6,q7,q8⟩:=h3
   refine⟨cap,cs',q1,q2,q3,q4,q5,q6,q7,fun j g hg=>?_⟩
   obtain⟨v,hv,hr⟩:=q8 j g hg
   refine⟨v,hv,?_⟩
   cases τ with
   | list t=>cases t with
    | list t=>
     have hi:(List.map (fun l=>(List.length l,List.flatMap (aN S t) l)) a)[i]?=some (n,gs):=hi
     rw[ay] at hi
     obtain⟨l,_,e⟩:=av.1 hi
     cases e
     obtain⟨u,rfl⟩:=Fk (τ:=t) hs l g (ar hg)
     cases hr
     exact .val _
    | _=>cases hs
   | map=>
    have hi:([]:List (Nat×List G))[i]?=some (n,gs):=hi
    simp at hi
   | _=>cases hs
 | rows kty ho=>
  obtain⟨cs,h⟩:=h
  have hno:(FO τ a).2.2=[]:=by
   cases τ with
   | list t=>cases t with
    | list t=>rfl
    | _=>cases hs
   | map=>rfl
   | _=>cases hs
  refine⟨cs,{len:=h.len,root:=h.root,inj:=h.inj,heap:=h.heap,size:=h.size,le:=h.le,max:=h.max,row:=fun i n gs hi _=>?_,hole:=h.hole}⟩
  rw[hno] at hi
  cases hi
 | map q kty tty=>
  have h:Aw q kty tty (mapOf τ a).n ((mapOf τ a).es.map (bS.me q)) (vY q (mapOf τ a).pd) O w b m:=h
  show Aw q kty tty (mapOf τ a).n ((mapOf τ a).es.map (bS.me q)) (vY q (mapOf τ a).pd) O' w b m
  have val:∀(l:List Int) (j:Nat) (g:G) (v:Value),(gG q l)[j]?=some g→bG O w g v→bG O' w g v:=by
   intro l j g v hg hr
   unfold gG at hg
   rw[ay] at hg
   obtain⟨x,_,rfl⟩:=av.1 hg
   cases hr
   exact .val _
  refine {len:=h.len,tW:=h.tW,vR:=h.vR,heap:=h.heap,root:=h.root,ot:=fun e he=>?_,inj:=h.inj,yk:=fun sr x gs hp=>?_}
  ·obtain⟨c,cs,h1,h2,h3,h4⟩:=h.ot e he
   refine⟨c,cs,h1,h2,h3,fun j p hp=>?_⟩
   obtain⟨u,h5,h6⟩:=h4 j p hp
   refine⟨u,h5,?_⟩
   obtain⟨e0,_,rfl⟩:=gS.1 he
   have hp:(e0.f.map fun p=>(p.1,gG q p.2))[j]?=some p:=hp
   rw[ay] at hp
   obtain⟨p0,_,rfl⟩:=av.1 hp
   refine h6.imp id fun ⟨h0,c',k',r1,cap,cs',q1,q2,q3,q4,q5,q6,q7,q8⟩=>⟨h0,c',k',r1,cap,cs',q1,q2,q3,q4,q5,q6,q7,fun j g hg=>?_⟩
   obtain⟨v,hv,hr⟩:=q8 j g hg
   exact⟨v,hv,val _ _ _ _ hg hr⟩
  ·obtain⟨h0,⟨c,k,cs,h1,h2,h3,h4,h5,h6⟩,h7⟩:=h.yk sr x gs hp
   refine⟨h0,⟨c,k,cs,h1,h2,h3,h4,h5,fun i g hg=>?_⟩,h7⟩
   obtain⟨v,hv,hr⟩:=h6 i g hg
   refine⟨v,hv,?_⟩
   cases hd:(mapOf τ a).pd with
   | none=>rw[hd] at hp;cases hp
   | some p=>
    obtain⟨sr',x',l⟩:=p
    rw[hd] at hp
    cases hp
    exact val _ _ _ _ hg hr
theorem IQ {a b:Bool}(h:(!a||b)=true) (ha:a=true):b=true:=by subst ha;simpa using h
theorem Ok {st st':List (Nat×ap)}{oh:Oh}{o:TO S}{xs:List (br S.α)}(h:KY oh o=some xs) (ln:Nat→Nat) (r:List (br S.α)):(kX oh (xs++r)).2=r∧(kX oh (xs++r)).1.len=o.len∧oF st st' (o.er ln) ((kX oh (xs++r)).1.er ln):=by
 unfold KY at h
 split at h
 ·split at h
  ·split at h
   ·rename_i hc
    simp only[aj] at hc
    obtain⟨c1,c2,c3⟩:=hc
    split at h
    ·rename_i l' hl
     cases h
     obtain⟨e,hl⟩:=nW hl
     subst e
     cases hl
     have c1:=aa c1
     subst c1
     refine⟨rfl,rfl,rfl,IQ c2,rfl,rfl,rfl,rfl,.inl ⟨rfl,rfl,fun hf=>?_⟩⟩
     have c4:=IQ c3 hf
     rw[dG] at c4
     exact c4.imp id fun hs=>.inl ⟨rfl,Fk hs _⟩
    ·cases h
   ·cases h
  ·cases h
 ·split at h
  ·split at h
   ·rename_i hc
    simp only[aj] at hc
    have c1:=aa hc.1
    have c2:=hc.2
    subst c1
    obtain⟨i1,i2,i3⟩:=qK ln h r
    refine⟨i1,rfl,rfl,IQ c2,rfl,rfl,rfl,?_,.inr ⟨rfl,?_⟩⟩
    ·show(TV.er.go ln _).length=(TV.er.go ln _).length
     rw[cU,cU,aW,aW,i2]
    ·exact(Lq ln ln i2 fun j v' hj=>let ⟨v,h1,h2⟩:=i3 j v' hj;⟨v,h1,CV.rw h2⟩).2
   ·cases h
  ·cases h
 ·split at h
  ·split at h
   ·rename_i hc
    have c1:=aa hc
    subst c1
    split at h
    ·split at h
     ·rename_i xs' hx
      cases h
      obtain⟨i1,i2,i3⟩:=qK ln hx r
      refine⟨i1,rfl,rfl,id,rfl,rfl,rfl,?_,.inr ⟨rfl,?_⟩⟩
      ·show(TV.er.go ln _).length=(TV.er.go ln _).length
       rw[cU,cU,aW,aW]
       exact i2
      ·exact(Lq ln ln i2 fun j v' hj=>let ⟨v,h1,h2⟩:=i3 j v' hj;⟨v,h1,CV.rw h2⟩).2
     ·cases h
    ·split at h
     ·rename_i hn _
      subst hn
      obtain⟨i1,i2,i3⟩:=qK ln h r
      refine⟨i1,rfl,rfl,id,rfl,rfl,rfl,?_,.inr ⟨rfl,?_⟩⟩
      ·show(TV.er.go ln _).length=(TV.er.go ln _).length
       rw[cU,cU,aW,aW,i2]
      ·exact(Lq ln ln i2 fun j v' hj=>let ⟨v,h1,h2⟩:=i3 j v' hj;⟨v,h1,CV.rw h2⟩).2
     ·cases h
   ·cases h
  ·cases h
 ·split at h
  ·rename_i e' m' f' dk' τ' a
   split at h
   ·rename_i hc
    simp only[aj] at hc
    obtain⟨c1,c2,c3⟩:=hc
    split at h
    ·rename_i e1 _
     subst e1
     split at h
     ·rename_i a' ha
      cases h
      cases ec ha
      have c1:=aa c1
      subst c1
      refine⟨rfl,rfl,rfl,IQ c2,rfl,rfl,rfl,rfl,.inl ⟨rfl,rfl,fun hf=>?_⟩⟩
      have c4:=IQ c3 hf
      rw[dG] at c4
      exact c4.imp id fun hs=>.inr ⟨_,rfl,fun O O' w b m=>Jc _ _ hs _ O O' w b m⟩
     ·cases h
    ·cases h
   ·cases h
  ·cases h
def w8 (st:List (Nat×TO S)):List (Nat×Oh)→Option (List (br S.α))
 | []=>some []
 | (h,oh)::r=>match aw st h with
  | some o=>match KY oh o with
   | some xs=>match w8 st r with
    | some ys=>some (xs++ys)
    | none=>none
   | none=>none
  | none=>none
def cd:List (Nat×Oh)→List (br S.α)→List (Nat×TO S)×List (br S.α)
 | [],ls=>([],ls)
 | (h,oh)::r,ls=>((h,(kX oh ls).1)::(cd r (kX oh ls).2).1,(cd r (kX oh ls).2).2)
theorem Bn {st:List (Nat×TO S)}(ln:Nat→Nat) (gst gst':List (Nat×ap)):∀{l:List (Nat×Oh)}{xs:List (br S.α)},w8 st l=some xs→∀(r:List (br S.α)),(cd l (xs++r)).2=r∧
  (∀h,(∃o',aw (cd l (xs++r)).1 h=some o')∨(aw (cd l (xs++r)).1 h=none∧h∉l.map (·.1)))∧
  ∀h o',aw (cd l (xs++r)).1 h=some o'→∃o,aw st h=some o∧o'.len=o.len∧oF gst gst' (o.er ln) (o'.er ln)
 | [],xs,h,r=>by
  cases h
  refine⟨rfl,fun h=>.inr (And.intro rfl (fun e=>nomatch e)),fun d v' h=>nomatch h⟩
 | (h0,oh)::l,xs,h,r=>by
  simp only[w8] at h
  split at h
  ·rename_i o ho
   split at h
   ·rename_i x1 h1
    split at h
    ·rename_i ys h2
     cases h
     rw[aC]
     obtain⟨e1,e2,e3⟩:=Ok (st:=gst) (st':=gst') h1 ln (ys++r)
     obtain⟨i1,i2,i3⟩:=Bn ln gst gst' h2 r
     simp only[cd]
     rw[e1]
     refine⟨i1,fun h=>?_,fun h o' hd=>?_⟩
     ·simp only[aw]
      cases hb:Nat.beq h0 h with
      | true=>exact .inl ⟨_,rfl⟩
      | false=>
       rcases i2 h with h3 | ⟨h3,h4⟩
       ·exact .inl h3
       ·refine .inr ⟨h3,?_⟩
        simp only[aJ,aZ,not_or]
        exact⟨fun e=>(by subst e;rw[aI] at hb;cases hb),h4⟩
     ·simp only[aw] at hd
      cases hb:Nat.beq h0 h with
      | true=>
       rw[hb] at hd
       cases hd
       have:=aa hb
       subst this
       exact⟨o,ho,e2,e3⟩
      | false=>rw[hb] at hd;exact i3 h o' hd
    ·cases h
   ·cases h
  ·cases h
end
end Go.DN
/-
 DN,part P:into a loop or a join,and out of it.
-/
namespace Go.DN
open Go.AM
section
variable {S:eE}
def TV.bad (ks:List Nat):TV S→Bool
 | .aR h _=>!(bw h ks)
 | .agg l=>go ks l
 | .bl l=>go ks l
 | .aF _ l=>go ks l
 | _=>false
where go (ks:List Nat):List (TV S)→Bool
 | []=>false
 | x::r=>x.bad ks||go ks r
mutual
theorem lu {ln ln':Nat→Nat}{ks:List Nat}(h:∀k,k∈ks→ln k=ln' k):∀v:TV S,v.bad ks=false→v.er ln=v.er ln'
 | .ab f τ a,_=>rfl
 | .ptr f τ a,_=>rfl
 | .agg l,e=>congrArg G.agg (oX h l e)
 | .bl l,e=>congrArg G.bl (oX h l e)
 | .aF f l,e=>congrArg (G.aF f) (oX h l e)
 | .loc _ _,_=>rfl
 | .gK _ _ _ _,_=>rfl
 | .aR k τ,e=>congrArg (G.aR k (S.sz τ) 0) (h k (bQ.1 (by simpa[TV.bad] using e)))
 | .sub _ _ _ _,_=>rfl
 | .ct _,_=>rfl
 | .mp _,_=>rfl
 | .ks _ _ _ _,_=>rfl
 | .kp _ _ _ _,_=>rfl
 | .fD _ _ _ _ _,_=>rfl
 | .val _,_=>rfl
 | .any,_=>rfl
theorem oX {ln ln':Nat→Nat}{ks:List Nat}(h:∀k,k∈ks→ln k=ln' k):∀l:List (TV S),TV.bad.go ks l=false→TV.er.go ln l=TV.er.go ln' l
 | [],_=>rfl
 | x::r,e=>by
  simp only[TV.bad.go,bI] at e
  simp only[TV.er.go]
  rw[lu h x e.1,oX h r e.2]
end
def TO.bad (ks:List Nat):TO S→Bool
 | .box _ _ cs=>TV.bad.go ks cs
 | .aV ..=>false
 | .lp _ _ cs=>TV.bad.go ks cs
 | .deep ..=>false
theorem TO.lu {ln ln':Nat→Nat}{ks:List Nat}(h:∀k,k∈ks→ln k=ln' k) (o:TO S) (e:o.bad ks=false):o.er ln=o.er ln':=by
 cases o with
 | box e' m cs=>simp only[TO.er];rw[oX h cs e]
 | aV e' m f τ l=>rfl
 | lp p n cs=>simp only[TO.er];rw[oX h cs e]
 | deep=>rfl
def cf {α:Type}(D:List Nat):List (Nat×α)→List (Nat×α)
 | []=>[]
 | x::r=>match bw x.1 D with
  | true=>cf D r
  | false=>x::cf D r
theorem jN {D:List Nat}:∀{fr:List (Nat×TV S)}{d:Nat},bg (cf D fr) d=match bw d D with | true=>none | false=>bg fr d
 | [],d=>by simp only[cf,bg];cases bw d D <;> rfl
 | (t,v)::r,d=>by
  simp only[cf]
  cases hb:Nat.beq t d with
  | true=>
   have:=aa hb
   subst this
   cases hm:bw t D with
   | true=>simp only;rw[jN,hm]
   | false=>simp only[bg,hb,cond_true]
  | false=>
   cases hm:bw t D with
   | true=>simp only;rw[jN];simp only[bg,hb,cond_false]
   | false=>simp only[bg,hb,cond_false];exact jN
theorem jc {D:List Nat}:∀{st:List (Nat×TO S)}{d:Nat},aw (cf D st) d=match bw d D with | true=>none | false=>aw st d
 | [],d=>by simp only[cf,aw];cases bw d D <;> rfl
 | (t,v)::r,d=>by
  simp only[cf]
  cases hb:Nat.beq t d with
  | true=>
   have:=aa hb
   subst this
   cases hm:bw t D with
   | true=>simp only;rw[jc,hm]
   | false=>simp only[aw,hb,cond_true]
  | false=>
   cases hm:bw t D with
   | true=>simp only;rw[jc];simp only[aw,hb,cond_false]
   | false=>simp only[aw,hb,cond_false];exact jc
mutual
def Sh.owns:Sh→List Nat
 | .ab _ _=>[]
 | .ptr _ _=>[]
 | .own h _=>[h]
 | .loc _ _=>[]
 | .aF _ l=>rQ l
 | .agg l=>rQ l
 | .ct _=>[]
 | .mp _=>[]
 | .any=>[]
 | .lZ=>[]
 | .sub _ _=>[]
 | .fD _ _=>[]
 | .ks _ _=>[]
def rQ:List Sh→List Nat
 | []=>[]
 | x::r=>x.owns++rQ r
end
def mU:List (Nat×Sh)→List Nat
 | []=>[]
 | (_,x)::r=>x.owns++mU r
def Oh.owns:Oh→List Nat
 | .aV ..=>[]
 | .box _ _ cs=>rQ cs
 | .lp _ _ cs=>rQ cs
 | .deep ..=>[]
def pt:List (Nat×Oh)→List Nat
 | []=>[]
 | (_,x)::r=>x.owns++pt r
mutual
theorem xE (ks:List Nat):∀(sh:Sh) (ls:List (br S.α)),(∀k,k∈sh.owns→k∈ks)→(ir sh ls).1.bad ks=false
 | .ab f τ,ls,_=>by cases ls <;> rfl
 | .ptr f τ,ls,_=>by cases ls <;> rfl
 | .own k τ,ls,h=>by
  show(!(bw k ks))=false
  rw[bQ.2 (h k (by simp[Sh.owns]))];rfl
 | .loc _ _,ls,_=>rfl
 | .aF f l,ls,h=>nS ks l ls h
 | .agg l,ls,h=>nS ks l ls h
 | .ct _,ls,_=>rfl
 | .mp _,ls,_=>rfl
 | .any,ls,_=>rfl
 | .lZ,ls,_=>by
  simp only[ir]
  split <;> rfl
 | .sub _ _,ls,_=>by
  simp only[ir]
  split <;> rfl
 | .ks _ _,ls,_=>by
  simp only[ir]
  split <;> rfl
 | .fD _ _,ls,_=>by
  simp only[ir]
  split <;> rfl
theorem nS (ks:List Nat):∀(l:List Sh) (ls:List (br S.α)),(∀k,k∈rQ l→k∈ks)→TV.bad.go ks (cZ l ls).1=false
 | [],_,_=>rfl
 | sh::r,ls,hk=>by
  simp only[cZ,TV.bad.go,xE ks sh ls fun k hk'=>hk k (by simp[rQ,hk']),nS ks r _ fun k hk'=>hk k (by simp[rQ,hk']),Bool.or_self]
end
theorem Da (ks:List Nat):∀(l:List (Nat×Sh)) (ls:List (br S.α)),(∀k,k∈mU l→k∈ks)→∀d v,bg (cy l ls).1 d=some v→v.bad ks=false
 | [],ls,_,d,v,h=>by cases h
 | (d0,sh)::r,ls,hk,d,v,h=>by
  simp only[cy,bg] at h
  cases hb:Nat.beq d0 d with
  | true=>rw[hb] at h;cases h;exact xE ks sh ls fun k hk'=>hk k (by simp[mU,hk'])
  | false=>rw[hb] at h;exact Da ks r _ (fun k hk'=>hk k (by simp[mU,hk'])) d v h
theorem Lv (ks:List Nat) (oh:Oh) (ls:List (br S.α)) (h:∀k,k∈oh.owns→k∈ks):(kX oh ls).1.bad ks=false:=by
 cases oh with
 | aV e m f τ=>
  unfold kX
  dsimp only
  split <;> rfl
 | box e m cs=>exact nS ks cs ls h
 | lp key lv cs=>
  unfold kX
  dsimp only
  split
  ·split
   ·exact nS ks cs _ h
   ·rfl
  ·exact nS ks cs ls h
 | deep e m f dk τ=>
  unfold kX
  dsimp only
  split <;> rfl
theorem ta (ks:List Nat):∀(l:List (Nat×Oh)) (ls:List (br S.α)),(∀k,k∈pt l→k∈ks)→∀h o,aw (cd l ls).1 h=some o→o.bad ks=false
 | [],ls,_,d,v,h=>by cases h
 | (d0,oh)::r,ls,hk,d,v,h=>by
  simp only[cd,aw] at h
  cases hb:Nat.beq d0 d with
  | true=>rw[hb] at h;cases h;exact Lv ks oh ls fun k hk'=>hk k (by simp[pt,hk'])
  | false=>rw[hb] at h;exact ta ks r _ (fun k hk'=>hk k (by simp[pt,hk'])) d v h
theorem told {t u:ah S}{aA:List (Nat×Sh)}{a6:List (Nat×Oh)}{xs ys:List (br S.α)}{F':List (Nat×TV S)}{O':List (Nat×TO S)}{ks:List Nat}
  (hp:CD t.bZ aA=some xs) (hq:w8 t.bi a6=some ys) (hf:u.bZ=(cy aA (xs++ys)).1++F') (ho:u.bi=(cd a6 ys).1++O')
  (hF:∀d v,bg F' d=some v→bg t.bZ d=some v∧v.bad ks=false) (hO:∀h o,aw O' h=some o→aw t.bi h=some o∧o.bad ks=false)
  (hk:∀k,k∈ks→t.ln k=u.ln k) (h1:∀k,k∈mU aA→k∈ks) (h2:∀k,k∈pt a6→k∈ks) (hdf:u.df=t.df) (hdg:TV.bad.go ks t.df=false):Gh t.er u.er:=by
 obtain⟨p1,p2⟩:=xb t.ln hp ys
 obtain⟨q1,_,q2⟩:=Bn t.ln t.er.st u.er.st hq []
 rw[cc] at q2
 refine Gh.rB (fun d v' hv'=>?_) (fun h o' ho'=>?_) ?_
 ·rw[hf,j5] at hv'
  split at hv'
  ·rename_i v1 e
   cases hv'
   obtain⟨v,e1,e2⟩:=p2 d _ e
   refine⟨v,e1,CV.rw ?_⟩
   rw[←lu hk _ (Da ks aA _ h1 d _ e)]
   exact e2
  ·obtain⟨e1,e2⟩:=hF d v' hv'
   refine⟨v',e1,?_⟩
   rw[lu hk v' e2]
   exact CV.refl _ _ _
 ·rw[ho,di] at ho'
  split at ho'
  ·rename_i v1 e
   cases ho'
   obtain⟨o,e1,e2,e3⟩:=q2 h _ e
   refine⟨o,e1,?_⟩
   rw[←TO.lu hk _ (ta ks a6 _ h2 h _ e)]
   exact e3
  ·obtain⟨e1,e2⟩:=hO h o' ho'
   refine⟨o',e1,?_⟩
   rw[TO.lu hk o' e2]
   exact oF.refl _ _ _
 ·rw[hdf]
  exact oX hk _ hdg
def ry (ks:List Nat):List (Nat×TV S)→List Nat
 | []=>[]
 | (t,v)::r=>match v.bad ks with
  | true=>t::ry ks r
  | false=>ry ks r
def ru (ks:List Nat):List (Nat×TO S)→List Nat
 | []=>[]
 | (t,o)::r=>match o.bad ks with
  | true=>t::ru ks r
  | false=>ru ks r
def stay (H:List Nat):List (Nat×TO S)→List Nat
 | []=>[]
 | (t,o)::r=>match o with
  | .aV ..=>match bw t H with
   | true=>stay H r
   | false=>t::stay H r
  | .deep ..=>match bw t H with
   | true=>stay H r
   | false=>t::stay H r
  | _=>stay H r
theorem xY {ks:List Nat}:∀{fr:List (Nat×TV S)}{d:Nat}{v:TV S},bg fr d=some v→bw d (ry ks fr)=false→v.bad ks=false
 | [],_,_,h,_=>by cases h
 | (t,v')::r,d,v,h,hm=>by
  simp only[bg] at h
  simp only[ry] at hm
  cases hb:v'.bad ks with
  | true=>
   rw[hb] at hm
   simp only[bw] at hm
   cases ht:Nat.beq t d with
   | true=>rw[ht] at hm;cases hm
   | false=>rw[ht] at hm h;exact xY h hm
  | false=>
   rw[hb] at hm
   cases ht:Nat.beq t d with
   | true=>rw[ht] at h;cases h;exact hb
   | false=>rw[ht] at h;exact xY h hm
theorem xX {ks:List Nat}:∀{st:List (Nat×TO S)}{d:Nat}{o:TO S},aw st d=some o→bw d (ru ks st)=false→o.bad ks=false
 | [],_,_,h,_=>by cases h
 | (t,v')::r,d,v,h,hm=>by
  simp only[aw] at h
  simp only[ru] at hm
  cases hb:v'.bad ks with
  | true=>
   rw[hb] at hm
   simp only[bw] at hm
   cases ht:Nat.beq t d with
   | true=>rw[ht] at hm;cases hm
   | false=>rw[ht] at hm h;exact xX h hm
  | false=>
   rw[hb] at hm
   cases ht:Nat.beq t d with
   | true=>rw[ht] at h;cases h;exact hb
   | false=>rw[ht] at h;exact xX h hm
end
end Go.DN
/-
 DN,part Q:states taken apart and put together again.
-/
namespace Go.DN
open Go.AM
section
variable {S:eE}
theorem zM {ks ks':List Nat}(h:∀k,k∈ks→k∈ks'):∀v:TV S,v.bad ks=false→v.bad ks'=false:=by
 intro v
 exact TV.rec (motive_1:=fun v=>v.bad ks=false→v.bad ks'=false) (motive_2:=fun l=>TV.bad.go ks l=false→TV.bad.go ks' l=false)
  (fun _ _ _ _=>rfl) (fun _ _ _ _=>rfl) (fun l ih e=>ih e) (fun l ih e=>ih e) (fun _ _ _=>rfl) (fun _ _ _ _ _=>rfl)
  (fun k τ e=>by
   have:bw k ks=true:=by simpa[TV.bad] using e
   show(!(bw k ks'))=false
   rw[bQ.2 (h k (bQ.1 this))];rfl)
  (fun _ _ _ _ _=>rfl) (fun _ l ih e=>ih e) (fun _ _=>rfl) (fun _ _=>rfl) (fun _ _ _ _ _=>rfl) (fun _ _ _ _ _=>rfl) (fun _ _ _ _ _ _=>rfl) (fun _ _=>rfl) (fun _=>rfl) (fun _=>rfl)
  (fun x r i1 i2 e=>by
   simp only[TV.bad.go,bI] at e⊢
   exact⟨i1 e.1,i2 e.2⟩) v
theorem sm {ks ks':List Nat}(h:∀k,k∈ks→k∈ks'):∀l:List (TV S),TV.bad.go ks l=false→TV.bad.go ks' l=false
 | [],_=>rfl
 | x::r,e=>by
  simp only[TV.bad.go,bI] at e⊢
  exact⟨zM h x e.1,sm h r e.2⟩
theorem Fu {ks ks':List Nat}(h:∀k,k∈ks→k∈ks') (o:TO S) (e:o.bad ks=false):o.bad ks'=false:=by
 cases o with
 | box e' m cs=>exact sm h cs e
 | aV=>rfl
 | lp p n cs=>exact sm h cs e
 | deep=>rfl
def aG {α:Type}:List (Nat×α)→List Nat
 | []=>[]
 | x::r=>x.1::aG r
def apart (a b:List Nat):Bool:=match a with
 | []=>true
 | x::r=>match bw x b with
  | true=>false
  | false=>apart r b
theorem apart_spec {b:List Nat}:∀{a:List Nat},apart a b=true→∀x,x∈a→x∉b
 | [],_,x,h=>by cases h
 | y::r,h,x,hx=>by
  simp only[apart] at h
  cases hm:bw y b with
  | true=>rw[hm] at h;cases h
  | false=>
   rw[hm] at h
   rcases aZ.1 hx with e | hx
   ·subst e;intro hb;rw[bQ.2 hb] at hm;cases hm
   ·exact apart_spec h x hx
def within (a b:List Nat):Bool:=match a with
 | []=>true
 | x::r=>match bw x b with
  | true=>within r b
  | false=>false
theorem mj {b:List Nat}:∀{a:List Nat},within a b=true→∀x,x∈a→x∈b
 | [],_,x,h=>by cases h
 | y::r,h,x,hx=>by
  simp only[within] at h
  cases hm:bw y b with
  | false=>rw[hm] at h;cases h
  | true=>
   rw[hm] at h
   rcases aZ.1 hx with e | hx
   ·subst e;exact bQ.1 hm
   ·exact mj h x hx
theorem yE:∀{fr:List (Nat×TV S)}{d:Nat}{v:TV S},bg fr d=some v→d∈aG fr
 | [],_,_,h=>by cases h
 | (t,v')::r,d,v,h=>by
  simp only[bg] at h
  cases hb:Nat.beq t d with
  | true=>have:=aa hb;subst this;exact au
  | false=>rw[hb] at h;exact ao _ (yE h)
theorem rZ:∀{st:List (Nat×TO S)}{d:Nat}{o:TO S},aw st d=some o→d∈aG st
 | [],_,_,h=>by cases h
 | (t,v')::r,d,v,h=>by
  simp only[aw] at h
  cases hb:Nat.beq t d with
  | true=>have:=aa hb;subst this;exact au
  | false=>rw[hb] at h;exact ao _ (rZ h)
theorem Gt {fr:List (Nat×TV S)}{d:Nat}(h:d∉aG fr):bg fr d=none:=by
 cases e:bg fr d with
 | none=>rfl
 | some v=>exact absurd (yE e) h
theorem lj {st:List (Nat×TO S)}{d:Nat}(h:d∉aG st):aw st d=none:=by
 cases e:aw st d with
 | none=>rfl
 | some v=>exact absurd (rZ e) h
theorem mZ:∀{st:List (Nat×TO S)}{k:Nat},k∈aG st→∃o,aw st k=some o
 | [],_,h=>by cases h
 | (y,g)::r,k,h=>by
  simp only[aw]
  cases hb:Nat.beq y k with
  | true=>exact⟨g,rfl⟩
  | false=>
   rcases aZ.1 h with e2 | h2
   ·subst e2;rw[aI] at hb;cases hb
   ·exact mZ h2
theorem jP:∀(l:List (Nat×Oh)) (ls:List (br S.α)),aG (cd l ls).1=aG l
 | [],_=>rfl
 | (d,sh)::r,ls=>by simp only[cd,aG,jP r]
structure Cut where
 D:List Nat
 DO:List Nat
 ks:List Nat
def dZ (s:ah S) (A H B:List Nat):Cut:=
 {D:=A++(B++ry (stay H s.bi) s.bZ),DO:=H++ru (stay H s.bi) s.bi,ks:=stay H s.bi}
def LF (s:ah S) (c:Cut):Bool:=
 apart c.ks c.DO&&(!(TV.bad.go c.ks s.df)&&(apart (aG s.lo) c.D&&apart (aG s.bO) c.DO))
theorem GK {H:List Nat}:∀{st:List (Nat×TO S)}{k:Nat},k∈stay H st→k∉H∧k∈aG st
 | [],_,h=>by cases h
 | (t,o)::r,k,h=>by
  have key:k∈stay H r→k∉H∧k∈aG ((t,o)::r):=fun h=>let ⟨h1,h2⟩:=GK h;⟨h1,ao _ h2⟩
  cases o with
  | aV e m f τ l=>
   simp only[stay] at h
   cases hm:bw t H with
   | true=>rw[hm] at h;exact key h
   | false=>
    rw[hm] at h
    rcases aZ.1 h with e | h
    ·subst e
     exact⟨fun hh=>(by rw[bQ.2 hh] at hm;cases hm),au⟩
    ·exact key h
  | deep e m f dk τ l=>
   simp only[stay] at h
   cases hm:bw t H with
   | true=>rw[hm] at h;exact key h
   | false=>
    rw[hm] at h
    rcases aZ.1 h with e | h
    ·subst e
     exact⟨fun hh=>(by rw[bQ.2 hh] at hm;cases hm),au⟩
    ·exact key h
  | _=>exact key h
def oJ {α:Type}(D:List Nat):List (Nat×α)→List (Nat×α)
 | []=>[]
 | x::r=>match bw x.1 D with
  | true=>x::oJ D r
  | false=>oJ D r
theorem sT {D:List Nat}:∀{fr:List (Nat×TV S)}{d:Nat},bg (oJ D fr) d=match bw d D with | true=>bg fr d | false=>none
 | [],d=>by simp only[oJ,bg];cases bw d D <;> rfl
 | (t,v)::r,d=>by
  simp only[oJ]
  cases hb:Nat.beq t d with
  | true=>
   have:=aa hb
   subst this
   cases hm:bw t D with
   | true=>simp only[bg,hb,cond_true]
   | false=>simp only;rw[sT,hm]
  | false=>
   cases hm:bw t D with
   | true=>simp only[bg,hb,cond_false];exact sT
   | false=>simp only;rw[sT];simp only[bg,hb,cond_false]
theorem sZ {D:List Nat}:∀{fr:List (Nat×TO S)}{d:Nat},aw (oJ D fr) d=match bw d D with | true=>aw fr d | false=>none
 | [],d=>by simp only[oJ,aw];cases bw d D <;> rfl
 | (t,v)::r,d=>by
  simp only[oJ]
  cases hb:Nat.beq t d with
  | true=>
   have:=aa hb
   subst this
   cases hm:bw t D with
   | true=>simp only[aw,hb,cond_true]
   | false=>simp only;rw[sZ,hm]
  | false=>
   cases hm:bw t D with
   | true=>simp only[aw,hb,cond_false];exact sZ
   | false=>simp only;rw[sZ];simp only[aw,hb,cond_false]
def xL (s:ah S) (c:Cut):ah S:={fr:=oJ c.D s.bZ,lo:=cf c.D s.bZ,st:=oJ c.DO s.bi,bO:=cf c.DO s.bi,df:=s.df,nx:=s.nx,last:=s.last}
theorem DJ {s t:ah S}(h1:∀d,bg t.bZ d=bg s.bZ d) (h2:∀d,aw t.bi d=aw s.bi d) (h3:t.df=s.df):Gh s.er t.er:=by
 have hln:t.ln=s.ln:=by
  funext k
  show b6 t.bi k=b6 s.bi k
  unfold b6
  rw[h2]
 refine Gh.rB (fun d v' hv'=>⟨v',by rw[←h1];exact hv',?_⟩) (fun h o' ho'=>⟨o',by rw[←h2];exact ho',?_⟩) (by rw[h3,hln])
 ·rw[hln];exact CV.refl _ _ _
 ·rw[hln];exact oF.refl _ _ _
theorem EL {s t:ah S}(h1:∀d,bg t.bZ d=bg s.bZ d) (h2:∀d,aw t.bi d=aw s.bi d) (h3:t.last=s.last) (hl:a5 s):a5 t:=by
 intro d h x hm
 rw[h3] at hm
 obtain⟨i,bP,m,f,τ,l,a,e1,e2,e3⟩:=hl d h x hm
 exact⟨i,bP,m,f,τ,l,a,by rw[h1];exact e1,by rw[h2];exact e2,e3⟩
theorem xK (s:ah S) (c:Cut):∀d,bg (xL s c).bZ d=bg s.bZ d:=by
 intro d
 show bg (oJ c.D s.bZ++cf c.D s.bZ) d=_
 rw[j5,sT,jN]
 cases bw d c.D with
 | true=>dsimp only;cases bg s.bZ d <;> rfl
 | false=>rfl
theorem IE (s:ah S) (c:Cut):∀d,aw (xL s c).bi d=aw s.bi d:=by
 intro d
 show aw (oJ c.DO s.bi++cf c.DO s.bi) d=_
 rw[di,sZ,jc]
 cases bw d c.DO with
 | true=>dsimp only;cases aw s.bi d <;> rfl
 | false=>rfl
theorem IF (s:ah S) (c:Cut) (hl:a5 s):Gh s.er (xL s c).er∧a5 (xL s c):=
 ⟨DJ (xK s c) (IE s c) rfl,EL (xK s c) (IE s c) rfl hl⟩
def flat (s:ah S) (c:Cut) (t:ah S):ah S:={fr:=t.fr++cf c.D s.fr,lo:=s.lo,st:=t.st++cf c.DO s.st,bO:=s.bO,df:=s.df,nx:=t.nx,last:=t.last}
theorem BW {α:Type}{D:List Nat}:∀{l:List (Nat×α)},apart (aG l) D=true→cf D l=l
 | [],_=>rfl
 | x::r,h=>by
  simp only[aG,apart] at h
  simp only[cf]
  cases hm:bw x.1 D with
  | true=>rw[hm] at h;cases h
  | false=>rw[hm] at h;dsimp only;rw[BW h]
theorem zA {α:Type}{D:List Nat}:∀(l l':List (Nat×α)),cf D (l++l')=cf D l++cf D l'
 | [],_=>rfl
 | x::r,l'=>by
  simp only[bx,cf]
  cases bw x.1 D <;> simp[zA r l']
structure tn (s:ah S) (c:Cut):Prop where
 ks:∀k,k∈c.ks→k∉c.DO
 df:TV.bad.go c.ks s.df=false
 lo:cf c.D s.bZ=cf c.D s.fr++s.lo
 bO:cf c.DO s.bi=cf c.DO s.st++s.bO
theorem LD {s:ah S}{c:Cut}(h:LF s c=true):tn s c:=by
 unfold LF at h
 simp only[aj,a8] at h
 obtain⟨h1,h2,h3,h4⟩:=h
 exact⟨apart_spec h1,h2,by unfold ah.bZ;rw[zA,BW h3],by unfold ah.bi;rw[zA,BW h4]⟩
theorem J0 {s t:ah S}{c:Cut}(hc:tn s c) (h1:t.lo=cf c.D s.bZ) (h2:t.bO=cf c.DO s.bi) (h3:t.df=s.df) (hl:a5 t):Gh t.er (flat s c t).er∧a5 (flat s c t)∧bF s (flat s c t):=by
 have e1:(flat s c t).bZ=t.bZ:=by
  show(t.fr++cf c.D s.fr)++s.lo=t.fr++t.lo
  rw[h1,hc.lo,aC]
 have e2:(flat s c t).bi=t.bi:=by
  show(t.st++cf c.DO s.st)++s.bO=t.st++t.bO
  rw[h2,hc.bO,aC]
 exact⟨DJ (fun d=>by rw[e1]) (fun d=>by rw[e2]) h3.symm,EL (s:=t) (t:=flat s c t) (fun d=>by rw[e1]) (fun d=>by rw[e2]) rfl hl,⟨rfl,rfl,rfl⟩⟩
def w9 (s:ah S) (j:JH):Option (List (br S.α)):=
 match CD s.bZ j.aA with
 | some xs=>match w8 s.bi j.a6 with
  | some ys=>some (xs++ys)
  | none=>none
 | none=>none
def ua:List Nat→Nat→Nat
 | [],n=>n
 | x::r,n=>ua r (bif Nat.ble n x&&Nat.blt x 500 then x+1 else n)
def kO (s:ah S) (c:Cut) (j:JH) (ls:List (br S.α)):ah S:=
 {fr:=(cy j.aA ls).1,lo:=cf c.D s.bZ,st:=(cd j.a6 (cy j.aA ls).2).1,bO:=cf c.DO s.bi,df:=s.df,nx:=ua (aG j.a6) s.nx,last:=[]}
def qL (s:ah S) (c:Cut) (j:JH) (ls:List (br S.α)):ah S:=
 {fr:=(cy j.aA ls).1++cf c.D s.fr,lo:=s.lo,st:=(cd j.a6 (cy j.aA ls).2).1++cf c.DO s.st,bO:=s.bO,df:=s.df,nx:=ua (aG j.a6) s.nx,last:=[]}
def AN (c:Cut) (j:JH):Bool:=within (mU j.aA++pt j.a6) (c.ks++aG j.a6)&&apart c.ks (aG j.a6)
def IU (t:ah S):Bool:=apart (aG t.fr) (aG t.lo)&&apart (aG t.st) (aG t.bO)
theorem Qn {s:ah S}{c:Cut}(hc:tn s c) (j:JH) (ls:List (br S.α)):(qL s c j ls).bZ=(kO s c j ls).bZ:=by
 show((cy j.aA ls).1++cf c.D s.fr)++s.lo=(cy j.aA ls).1++cf c.D s.bZ
 rw[hc.lo,aC]
theorem Qm {s:ah S}{c:Cut}(hc:tn s c) (j:JH) (ls:List (br S.α)):(qL s c j ls).bi=(kO s c j ls).bi:=by
 show((cd j.a6 (cy j.aA ls).2).1++cf c.DO s.st)++s.bO=(cd j.a6 (cy j.aA ls).2).1++cf c.DO s.bi
 rw[hc.bO,aC]
theorem yY {st:List (Nat×TO S)}{l:List (Nat×Oh)}{ys:List (br S.α)}(h:w8 st l=some ys) (k:Nat) (hk:k∈aG l):∃o o',aw (cd l ys).1 k=some o'∧aw st k=some o∧o'.len=o.len:=by
 obtain⟨_,_,q⟩:=Bn (fun _=>0) [] [] h []
 rw[cc] at q
 obtain⟨o',e⟩:=mZ (st:=(cd l ys).1) (k:=k) (by rw[jP];exact hk)
 obtain⟨o,h1,h2,_⟩:=q k o' e
 exact⟨o,o',e,h1,h2⟩
theorem JU {s:ah S}{c:Cut}{A H B:List Nat}{j:JH}{ls:List (br S.α)}(hcc:c=dZ s A H B) (hc:tn s c) (hj:AN c j=true) (hp:w9 s j=some ls):Gh s.er (kO s c j ls).er:=by
 unfold w9 at hp
 split at hp
 ·rename_i xs hx
  split at hp
  ·rename_i ys hy
   cases hp
   obtain⟨p1,_⟩:=xb s.ln hx ys
   unfold AN at hj
   simp only[aj] at hj
   obtain⟨j1,j2⟩:=hj
   have j1:=mj j1
   have j2:=apart_spec j2
   have hks:∀k,k∈c.ks++aG j.a6→s.ln k=(kO s c j (xs++ys)).ln k:=by
    intro k hk
    show b6 s.bi k=b6 (kO s c j (xs++ys)).bi k
    have est:(kO s c j (xs++ys)).bi=(cd j.a6 ys).1++cf c.DO s.bi:=by
     show(cd j.a6 (cy j.aA (xs++ys)).2).1++cf c.DO s.bi=_
     rw[p1]
    rw[est]
    unfold b6
    rw[di]
    rcases cP.1 hk with hk | hk
    ·have:aw (cd j.a6 ys).1 k=none:=lj (by rw[jP];exact j2 k hk)
     rw[this]
     dsimp only
     rw[jc]
     have:bw k c.DO=false:=by
      cases hm:bw k c.DO with
      | false=>rfl
      | true=>exact absurd (bQ.1 hm) (hc.ks k hk)
     rw[this]
    ·obtain⟨o,o',e1,e2,e3⟩:=yY hy k hk
     rw[e1,e2]
     exact e3.symm
   refine told (u:=kO s c j (xs++ys)) (F':=cf c.D s.bZ) (O':=cf c.DO s.bi) hx hy rfl ?_ (fun d v hv=>?_) (fun h o ho=>?_) hks (fun k hk=>j1 k (bV _ hk)) (fun k hk=>j1 k (cF _ hk)) rfl (sm (fun k hk=>bV _ hk) _ hc.df)
   ·show(cd j.a6 (cy j.aA (xs++ys)).2).1++cf c.DO s.bi=_
    rw[p1]
   ·rw[jN] at hv
    cases hm:bw d c.D with
    | true=>rw[hm] at hv;cases hv
    | false=>
     rw[hm] at hv
     refine⟨hv,zM (fun k hk=>bV _ hk) v (xY hv ?_)⟩
     subst hcc
     cases hq:bw d (ry (dZ s A H B).ks s.bZ) with
     | false=>rfl
     | true=>
      rw[bQ.2 (show d∈(dZ s A H B).D from cF _ (cF _ (bQ.1 hq)))] at hm
      cases hm
   ·rw[jc] at ho
    cases hm:bw h c.DO with
    | true=>rw[hm] at ho;cases ho
    | false=>
     rw[hm] at ho
     refine⟨ho,Fu (fun k hk=>bV _ hk) o (xX ho ?_)⟩
     subst hcc
     cases hq:bw h (ru (dZ s A H B).ks s.bi) with
     | false=>rfl
     | true=>
      rw[bQ.2 (show h∈(dZ s A H B).DO from cF _ (bQ.1 hq))] at hm
      cases hm
  ·cases hp
 ·cases hp
theorem Nb {s t:ah S}{c:Cut}{A H B:List Nat}{j:JH}{ls:List (br S.α)}(hcc:c=dZ s A H B) (hc:tn s c) (hj:AN c j=true) (h1:t.lo=cf c.D s.bZ) (h2:t.bO=cf c.DO s.bi) (h3:t.df=s.df)
  (ha:IU t=true) (hp:w9 t j=some ls):Gh t.er (kO s c j ls).er:=by
 unfold w9 at hp
 split at hp
 ·rename_i xs hx
  split at hp
  ·rename_i ys hy
   cases hp
   obtain⟨p1,_⟩:=xb t.ln hx ys
   unfold AN at hj
   simp only[aj] at hj
   obtain⟨j1,j2⟩:=hj
   have j1:=mj j1
   have j2:=apart_spec j2
   unfold IU at ha
   simp only[aj] at ha
   have a1:=apart_spec ha.1
   have a2:=apart_spec ha.2
   have tf:∀{d v},bg t.lo d=some v→bg t.bZ d=some v:=by
    intro d v hv
    show bg (t.fr++t.lo) d=_
    rw[j5,Gt fun hd=>a1 d hd (yE hv)]
    exact hv
   have of:∀{d o},aw t.bO d=some o→aw t.bi d=some o:=by
    intro d v hv
    show aw (t.st++t.bO) d=_
    rw[di,lj fun hd=>a2 d hd (rZ hv)]
    exact hv
   have hgood:∀{d v},bg (cf c.D s.bZ) d=some v→v.bad c.ks=false:=by
    intro d v hv
    rw[jN] at hv
    cases hm:bw d c.D with
    | true=>rw[hm] at hv;cases hv
    | false=>
     rw[hm] at hv
     refine xY hv ?_
     subst hcc
     cases hq:bw d (ry (dZ s A H B).ks s.bZ) with
     | false=>rfl
     | true=>
      rw[bQ.2 (show d∈(dZ s A H B).D from cF _ (cF _ (bQ.1 hq)))] at hm
      cases hm
   have hgoodO:∀{d o},aw (cf c.DO s.bi) d=some o→o.bad c.ks=false:=by
    intro h o ho
    rw[jc] at ho
    cases hm:bw h c.DO with
    | true=>rw[hm] at ho;cases ho
    | false=>
     rw[hm] at ho
     refine xX ho ?_
     subst hcc
     cases hq:bw h (ru (dZ s A H B).ks s.bi) with
     | false=>rfl
     | true=>
      rw[bQ.2 (show h∈(dZ s A H B).DO from cF _ (bQ.1 hq))] at hm
      cases hm
   have hkst:∀k,k∈c.ks→∃o,aw (cf c.DO s.bi) k=some o:=by
    intro k hk
    rw[jc]
    have:bw k c.DO=false:=by
     cases hm:bw k c.DO with
     | false=>rfl
     | true=>exact absurd (bQ.1 hm) (hc.ks k hk)
    rw[this]
    have hk2:k∈aG s.bi:=by subst hcc;exact(GK hk).2
    exact mZ hk2
   have hks:∀k,k∈c.ks++aG j.a6→t.ln k=(kO s c j (xs++ys)).ln k:=by
    intro k hk
    show b6 t.bi k=b6 (kO s c j (xs++ys)).bi k
    have est:(kO s c j (xs++ys)).bi=(cd j.a6 ys).1++cf c.DO s.bi:=by
     show(cd j.a6 (cy j.aA (xs++ys)).2).1++cf c.DO s.bi=_
     rw[p1]
    rw[est]
    unfold b6
    rw[di]
    rcases cP.1 hk with hk | hk
    ·have:aw (cd j.a6 ys).1 k=none:=lj (by rw[jP];exact j2 k hk)
     rw[this]
     dsimp only
     obtain⟨o,ho⟩:=hkst k hk
     rw[ho]
     rw[of (by rw[h2];exact ho)]
    ·obtain⟨o,o',e1,e2,e3⟩:=yY hy k hk
     rw[e1,e2]
     exact e3.symm
   refine told (u:=kO s c j (xs++ys)) (F':=cf c.D s.bZ) (O':=cf c.DO s.bi) hx hy rfl ?_ (fun d v hv=>⟨tf (by rw[h1];exact hv),zM (fun k hk=>bV _ hk) v (hgood hv)⟩)
    (fun h o ho=>⟨of (by rw[h2];exact ho),Fu (fun k hk=>bV _ hk) o (hgoodO ho)⟩) hks (fun k hk=>j1 k (bV _ hk)) (fun k hk=>j1 k (cF _ hk)) h3.symm (by rw[h3];exact sm (fun k hk=>bV _ hk) _ hc.df)
   show(cd j.a6 (cy j.aA (xs++ys)).2).1++cf c.DO s.bi=_
   rw[p1]
  ·cases hp
 ·cases hp
end
end Go.DN
/-
 DN,part R:code.
-/
namespace Go.DN
open Go.AM
section
variable {S:eE}
mutual
def K2:Sh→TV S→List Nat
 | .ab _ _,v=>v.K0
 | .aF _ l,v=>match v with
  | .aF _ vs=>FV l vs
  | _=>[]
 | .agg l,v=>match v with
  | .agg vs=>FV l vs
  | _=>[]
 | _,_=>[]
def FV:List Sh→List (TV S)→List Nat
 | sh::r,v::vs=>K2 sh v++FV r vs
 | _,_=>[]
end
def K3 (fr:List (Nat×TV S)):List (Nat×Sh)→List Nat
 | []=>[]
 | (d,sh)::r=>match bg fr d with
  | some v=>K2 sh v++K3 fr r
  | none=>K3 fr r
def CN (st:List (Nat×TO S)):List (Nat×Oh)→List Nat
 | []=>[]
 | (h,.box _ _ cs)::r=>match aw st h with
  | some (.box _ _ vs)=>FV cs vs++CN st r
  | _=>CN st r
 | _::r=>CN st r
def Db (h:Nat):List (Nat×Oh)→Option TypeId
 | []=>none
 | (k,.aV e _ _ _)::r=>bif Nat.beq k h then some e else Db h r
 | (k,.deep e _ _ _ _)::r=>bif Nat.beq k h then some e else Db h r
 | _::r=>Db h r
def O5 (h:Nat):List (Nat×Oh)→Option TypeId
 | []=>none
 | (k,.deep _ _ _ (.dK kty) _)::r=>bif Nat.beq k h then some kty else O5 h r
 | _::r=>O5 h r
def u9 (s:ah S) (h:Nat):ah S:=match s.free h with
 | true=>s
 | false=>match Ao s h with
  | some s'=>s'
  | none=>s
theorem OU {s:ah S}{h:Nat}(hl:a5 s):Gh s.er (u9 s h).er∧a5 (u9 s h)∧bF s (u9 s h):=by
 unfold u9
 split
 ·exact⟨Gh.refl _,hl,bF.refl s⟩
 ·split
  ·rename_i s' hs
   exact C7 hl hs
  ·exact⟨Gh.refl _,hl,bF.refl s⟩
def GG (s:ah S) (d h:Nat):ah S:=match bg s.bZ d with
 | some (.aR h' τ)=>match Nat.beq h' h with
  | true=>match aw s.bi h' with
   | some (.aV _ _ _ τ' l)=>s.put d (.sub h' τ 0 (List.length l))
   | _=>s
  | false=>s
 | _=>s
theorem P3 {s:ah S}(d h:Nat) (hl:a5 s):Gh s.er (GG s d h).er∧a5 (GG s d h)∧bF s (GG s d h):=by
 unfold GG
 split
 ·rename_i h' τ hx
  split
  ·split
   ·rename_i τ' l ho
    refine⟨?_,hl.put _ _,⟨rfl,rfl,rfl⟩⟩
    rw[fE]
    have e1:get s.er.fr d=some (.aR h' (S.sz τ) 0 (List.length l)):=by
     rw[show get s.er.fr d=_ from fh hx]
     show some (G.aR _ _ 0 (s.ln h'))=_
     rw[mf ho]
    have e2:(TV.sub h' τ 0 (List.length l):TV S).er s.ln=.aR h' (S.sz τ) 0 (List.length l):=by
     show G.aR _ _ (0*_) _=_
     rw[ey]
    rw[e2]
    refine Gh.gen (s:=s.er) (t:=s.er.put d (.aR h' (S.sz τ) 0 (List.length l))) (fun x g' hg=>?_) (fun x k' hk=>⟨k',hk,oF.refl _ _ _⟩) rfl
    simp only[St.put,gH] at hg
    cases hb:Nat.beq d x with
    | true=>
     rw[hb] at hg
     cases hg
     have:=aa hb
     subst this
     exact⟨_,e1,CV.refl _ _ _⟩
    | false=>
     rw[hb] at hg
     exact⟨g',hg,CV.refl _ _ _⟩
   ·exact⟨Gh.refl _,hl,bF.refl s⟩
  ·exact⟨Gh.refl _,hl,bF.refl s⟩
 ·exact⟨Gh.refl _,hl,bF.refl s⟩
def ny (a6:List (Nat×Oh)):List (Nat×Sh)→ah S→Option (ah S)
 | [],s=>some s
 | (d,.own h τ)::r,s=>match bg s.bZ d with
  | some (.val (.slice none 0 0))=>match Db h a6 with
   | some e=>match bg (u9 s h).bZ d with
    | some (.val (.slice none 0 0))=>match (u9 s h).free h with
     | true=>match O5 h a6 with
      | none=>ny a6 r ((u9 s h).l5 h d e τ)
      | some kty=>FL ((u9 s h).l5 h d e τ) h kty fun s=>ny a6 r s
     | false=>none
    | _=>none
   | none=>none
  | _=>ny a6 r s
 | (d,.sub h _)::r,s=>ny a6 r (GG s d h)
 | _::r,s=>ny a6 r s
theorem eC {a6:List (Nat×Oh)}:∀{l:List (Nat×Sh)}{s t:ah S},a5 s→ny a6 l s=some t→Gh s.er t.er∧a5 t∧bF s t
 | [],s,t,hl,h=>by cases h;exact⟨Gh.refl _,hl,bF.refl s⟩
 | (d,.ab _ _)::r,s,t,hl,h=>eC (l:=r) hl h
 | (d,.ptr _ _)::r,s,t,hl,h=>eC (l:=r) hl h
 | (d,.loc _ _)::r,s,t,hl,h=>eC (l:=r) hl h
 | (d,.aF _ _)::r,s,t,hl,h=>eC (l:=r) hl h
 | (d,.agg _)::r,s,t,hl,h=>eC (l:=r) hl h
 | (d,.ct _)::r,s,t,hl,h=>eC (l:=r) hl h
 | (d,.mp _)::r,s,t,hl,h=>eC (l:=r) hl h
 | (d,.any)::r,s,t,hl,h=>eC (l:=r) hl h
 | (d,.lZ)::r,s,t,hl,h=>eC (l:=r) hl h
 | (d,.sub hh _)::r,s,t,hl,h=>by
  obtain⟨a1,a2,a3⟩:=P3 d hh hl
  obtain⟨b1,b2,b3⟩:=eC (l:=r) a2 h
  exact⟨a1.trans b1,b2,a3.trans b3⟩
 | (d,.fD _ _)::r,s,t,hl,h=>eC (l:=r) hl h
 | (d,.ks _ _)::r,s,t,hl,h=>eC (l:=r) hl h
 | (d,.own hh τ)::r,s,t,hl,h=>by
  simp only[ny] at h
  split at h
  ·rename_i hx
   split at h
   ·rename_i e _
    split at h
    ·rename_i hx2
     split at h
     ·rename_i hf
      obtain⟨z1,z2,z3⟩:=OU (h:=hh) hl
      obtain⟨a1,a2⟩:=Cf (e:=e) (τ:=τ) z2 hx2 hf
      split at h
      ·obtain⟨b1,b2,b3⟩:=eC (l:=r) a2 h
       exact⟨z1.trans (Gh.trans a1 b1),b2,z3.trans ⟨b3.lo,b3.bO,b3.df⟩⟩
      ·obtain⟨t0,c1,c2,c3,h⟩:=Gp a2 h
       obtain⟨b1,b2,b3⟩:=eC (l:=r) c2 h
       exact⟨z1.trans (Gh.trans a1 (Gh.trans c1 b1)),b2,z3.trans ⟨b3.lo.trans c3.lo,b3.bO.trans c3.bO,b3.df.trans c3.df⟩⟩
     ·cases h
    ·cases h
   ·cases h
  ·exact eC hl h
def GH (s:ah S) (h j hd:Nat):ah S:=match aw s.st h with
 | some (.box e m cs)=>match cs[j]? with
  | some (.aR h' τ)=>match Nat.beq h' hd with
   | true=>match aw s.bi h' with
    | some (.aV _ _ _ τ' l)=>s.set h (.box e m (cs.set j (.sub h' τ 0 (List.length l))))
    | _=>s
   | false=>s
  | _=>s
 | _=>s
theorem P5 {s:ah S}(h j hd:Nat) (hl:a5 s):Gh s.er (GH s h j hd).er∧a5 (GH s h j hd)∧bF s (GH s h j hd):=by
 unfold GH
 split
 ·rename_i e m cs ho
  split
  ·rename_i h' τ hj
   split
   ·split
    ·rename_i τ' l ho2
     refine⟨?_,hl.set ho _,⟨rfl,rfl,rfl⟩⟩
     obtain⟨e1,_⟩:=lc (o':=.box e m (cs.set j (.sub h' τ 0 (List.length l)))) ho rfl
     rw[e1]
     have e2:(TV.sub h' τ 0 (List.length l):TV S).er s.ln=(TV.aR h' τ:TV S).er s.ln:=by
      show G.aR _ _ (0*_) _=G.aR _ _ 0 (s.ln h')
      rw[ey,mf ho2]
     have e3:TV.er.go s.ln (cs.set j (.sub h' τ 0 (List.length l)))=TV.er.go s.ln cs:=by
      rw[cU,kE,cU,e2]
      apply kF
      intro q
      rw[dr]
      split
      ·rename_i hq
       subst hq
       rw[ay,hj]
       split
       ·rfl
       ·rename_i hlt
        have:=(al.1 hj).1
        rw[aW] at hlt
        exact absurd this hlt
      ·rfl
     have e4:(TO.box e m (cs.set j (.sub h' τ 0 (List.length l))):TO S).er s.ln=(TO.box e m cs:TO S).er s.ln:=by
      show ap.mk _ _ _ _ _ _ _=ap.mk _ _ _ _ _ _ _
      rw[e3]
     rw[e4,uM (cQ (dU ho))]
     exact Gh.refl _
    ·exact⟨Gh.refl _,hl,bF.refl s⟩
   ·exact⟨Gh.refl _,hl,bF.refl s⟩
  ·exact⟨Gh.refl _,hl,bF.refl s⟩
 ·exact⟨Gh.refl _,hl,bF.refl s⟩
def nZ (a6:List (Nat×Oh)) (h:Nat):Nat→List Sh→ah S→Option (ah S)
 | _,[],s=>some s
 | j,.own hd τ::r,s=>match aw s.st h with
  | some (.box e' m cs)=>match cs[j]? with
   | some (.val (.slice none 0 0))=>match Db hd a6 with
    | some e=>match aw (rH s hd).st h with
     | some (.box e' m cs)=>match cs[j]? with
      | some (.val (.slice none 0 0))=>match (rH s hd).free hd with
       | true=>nZ a6 h (j+1) r (((rH s hd).add hd (.aV e true true τ [])).set h (.box e' m (cs.set j (.aR hd τ))))
       | false=>none
      | _=>none
     | _=>none
    | none=>none
   | _=>nZ a6 h (j+1) r s
  | _=>nZ a6 h (j+1) r s
 | j,.sub hd _::r,s=>nZ a6 h (j+1) r (GH s h j hd)
 | j,_::r,s=>nZ a6 h (j+1) r s
theorem eS {a6:List (Nat×Oh)}{h:Nat}:∀{l:List Sh}{j:Nat}{s t:ah S},a5 s→nZ a6 h j l s=some t→Gh s.er t.er∧a5 t∧bF s t
 | [],_,s,t,hl,h=>by cases h;exact⟨Gh.refl _,hl,bF.refl s⟩
 | .ab _ _::r,_,s,t,hl,h=>eS (l:=r) hl h
 | .ptr _ _::r,_,s,t,hl,h=>eS (l:=r) hl h
 | .loc _ _::r,_,s,t,hl,h=>eS (l:=r) hl h
 | .aF _ _::r,_,s,t,hl,h=>eS (l:=r) hl h
 | .agg _::r,_,s,t,hl,h=>eS (l:=r) hl h
 | .ct _::r,_,s,t,hl,h=>eS (l:=r) hl h
 | .mp _::r,_,s,t,hl,h=>eS (l:=r) hl h
 | .any::r,_,s,t,hl,h=>eS (l:=r) hl h
 | .lZ::r,_,s,t,hl,h=>eS (l:=r) hl h
 | .sub hd _::r,j,s,t,hl,hh=>by
  obtain⟨a1,a2,a3⟩:=P5 h j hd hl
  obtain⟨b1,b2,b3⟩:=eS (l:=r) a2 hh
  exact⟨a1.trans b1,b2,a3.trans b3⟩
 | .fD _ _::r,_,s,t,hl,h=>eS (l:=r) hl h
 | .ks _ _::r,_,s,t,hl,h=>eS (l:=r) hl h
 | .own hd τ::r,j,s,t,hl,h=>by
  simp only[nZ] at h
  split at h
  ·rename_i e' m cs ho
   split at h
   ·rename_i hj
    split at h
    ·rename_i e _
     obtain⟨z1,z2,z3⟩:=Ib hd hl
     split at h
     ·rename_i ho2
      split at h
      ·rename_i hj2
       split at h
       ·rename_i hf
        obtain⟨a1,a2⟩:=NL (e:=e) (τ:=τ) z2 ho2 hj2 hf
        obtain⟨b1,b2,b3⟩:=eS (l:=r) a2 h
        exact⟨z1.trans (Gh.trans a1 b1),b2,z3.trans ⟨b3.lo,b3.bO,b3.df⟩⟩
       ·cases h
      ·cases h
     ·cases h
    ·cases h
   ·exact eS (l:=r) hl h
  ·exact eS (l:=r) hl h
def wJ (a6:List (Nat×Oh)):List (Nat×Oh)→ah S→Option (ah S)
 | [],s=>some s
 | (h,.box _ _ cs)::r,s=>match nZ a6 h 0 cs s with
  | some s'=>wJ a6 r s'
  | none=>none
 | _::r,s=>wJ a6 r s
theorem qu {a6:List (Nat×Oh)}:∀{l:List (Nat×Oh)}{s t:ah S},a5 s→wJ a6 l s=some t→Gh s.er t.er∧a5 t∧bF s t
 | [],s,t,hl,h=>by cases h;exact⟨Gh.refl _,hl,bF.refl s⟩
 | (_,.aV _ _ _ _)::r,s,t,hl,h=>qu (l:=r) hl h
 | (_,.deep _ _ _ _ _)::r,s,t,hl,h=>qu (l:=r) hl h
 | (_,.lp _ _ _)::r,s,t,hl,h=>qu (l:=r) hl h
 | (_,.box _ _ cs)::r,s,t,hl,h=>by
  simp only[wJ] at h
  split at h
  ·rename_i s' hs
   obtain⟨a1,a2,a3⟩:=eS hl hs
   obtain⟨b1,b2,b3⟩:=qu (l:=r) a2 h
   exact⟨a1.trans b1,b2,a3.trans b3⟩
  ·cases h
def Dw (aA:List (Nat×Sh)) (a6:List (Nat×Oh)) (s:ah S):Option (ah S):=match ny a6 aA s with
 | some s'=>wJ a6 a6 s'
 | none=>none
theorem Fx {aA:List (Nat×Sh)}{a6:List (Nat×Oh)}{s t:ah S}(hl:a5 s) (h:Dw aA a6 s=some t):Gh s.er t.er∧a5 t∧bF s t:=by
 unfold Dw at h
 split at h
 ·rename_i s' hs
  obtain⟨a1,a2,a3⟩:=eC hl hs
  obtain⟨b1,b2,b3⟩:=qu a2 h
  exact⟨a1.trans b1,b2,a3.trans b3⟩
 ·cases h
def CB (s:ah S) (j:JH):Option (ah S):=match Dw j.aA j.a6 s with
 | some s'=>p9 (K3 s'.bZ j.aA++CN s'.bi j.a6) s'
 | none=>none
theorem Bk {s t:ah S}{j:JH}(hl:a5 s) (h:CB s j=some t):Gh s.er t.er∧a5 t∧bF s t:=by
 unfold CB at h
 split at h
 ·rename_i s' hs
  obtain⟨a1,a2,a3⟩:=Fx hl hs
  obtain⟨b1,b2,b3⟩:=lW a2 h
  exact⟨a1.trans b1,b2,a3.trans b3⟩
 ·cases h
def carry (t:ah S) (j:JH):Option (bl S.α j.dl):=
 match CB t j with
 | some t'=>match IU t' with
  | true=>match w9 t' j with
   | some ls=>lG j.dl ls
   | none=>none
  | false=>none
 | none=>none
theorem xO {s t:ah S}{c:Cut}{A H B:List Nat}{j:JH}{q:bl S.α j.dl}(hcc:c=dZ s A H B) (hc:tn s c) (hj:AN c j=true) (h1:t.lo=cf c.D s.bZ) (h2:t.bO=cf c.DO s.bi) (h3:t.df=s.df) (hl:a5 t)
  (h:carry t j=some q):Gh t.er (kO s c j (leaves j.dl q)).er:=by
 unfold carry at h
 split at h
 ·rename_i t' hp
  obtain⟨a1,a2,a3⟩:=Bk hl hp
  split at h
  ·rename_i ha
   split at h
   ·rename_i ls hls
    rw[gd h]
    exact a1.trans (Nb hcc hc hj (a3.lo.trans h1) (a3.bO.trans h2) (a3.df.trans h3) ha hls)
   ·cases h
  ·cases h
 ·cases h
theorem vn {s t:ah S}{c:Cut}{A H B:List Nat}{j:JH}{q:bl S.α j.dl}(hcc:c=dZ s A H B) (hc:tn s c) (hj:AN c j=true) (h1:t.lo=cf c.D s.bZ) (h2:t.bO=cf c.DO s.bi) (h3:t.df=s.df) (hl:a5 t)
  (h:carry t j=some q):Gh t.er (qL s c j (leaves j.dl q)).er:=
 (xO hcc hc hj h1 h2 h3 hl h).trans (DJ (fun d=>by rw[Qn hc]) (fun d=>by rw[Qm hc]) rfl)
inductive mA where
 | join (j:JH)
 | PH (j:JH)
 | loop (j:JH) (id:Nat) (x:JH)
 | gX (j:JH) (id:Nat) (x:JH)
 | mF (W:List Nat)
 | fO (W:List Nat) (j:JH)
 | fz (l:List Nat)
 | tr (d:Nat)
 | th (h kty:Nat)
 | My (key hd:Nat)
def fo:List (Nat×mA)→Nat→Option mA
 | [],_=>none
 | (k,h)::r,p=>bif Nat.beq k p then some h else fo r p
def o9:List Oper→List Nat
 | []=>[]
 | o::r=>match o.dst with
  | some d=>d::o9 r
  | none=>o9 r
def kR:Code→List Nat
 | .region _ ops _=>o9 ops.toList
 | .seq a b=>kR a++kR b
 | .cond _ a b=>kR a++kR b
 | .block _ c=>kR c
 | .loop c=>kR c
 | .scope c=>kR c
 | .rangeFunc _ ps a b=>ps.toList++(kR a++kR b)
 | _=>[]
def jA:Code→Nat
 | .seq x y=>jA x+jA y+1
 | .cond _ x y=>jA x+jA y+1
 | .block _ c=>jA c+1
 | .loop c=>jA c+1
 | .scope c=>jA c+1
 | _=>1
abbrev wL (S:eE):=ah S→(B:Type)→(Exit→ah S→Option B)→Option B
def Ec (s:ah S) (c:Cut) (j:JH):Bool:=LF s c&&AN c j
def Ak:Exit→Bool
 | .panic _=>true
 | _=>false
def xk (s:ah S) (c:Cut) (j:JH) (at_:Exit→Bool) (run:wL S){A:Type}(K:Exit→ah S→Option A):Option A:=
 match Ec s c j with
 | true=>Option.bind (run (xL s c) (bl S.α j.dl) fun e t=>match at_ e with
   | true=>carry t j
   | false=>none) fun q=>K .normal (qL s c j (leaves j.dl q))
 | false=>none
def Af (s:ah S) (c:Cut) (j:JH) (at_:Exit→Bool) (run:wL S){A:Type}(K:Exit→ah S→Option A):Option A:=
 match Ec s c j with
 | true=>eU (fun r=>r) (run (xL s c) (Ex (bl S.α j.dl) A) fun e t=>match at_ e with
   | true=>match carry t j with
    | some q=>some (.dW q)
    | none=>none
   | false=>match K e (flat s c t) with
     | some r=>some (.ret r)
     | none=>none) fun q=>K .normal (qL s c j (leaves j.dl q))
 | false=>none
def lT:Exit→Bool
 | .normal=>true
 | _=>false
def xw (id:Nat):Exit→Bool
 | .normal=>true
 | .exit id'=>Nat.beq id' id
 | _=>false
def La (fu:Nat) (s:ah S) (c:Cut) (j:JH) (id:Nat) (x:JH) (run:wL S){A:Type}(K:Exit→ah S→Option A):Option A:=
 match Ec s c j&&AN c x with
 | true=>match w9 s j with
   | some ls=>match lG j.dl ls with
    | some q0=>Option.bind (aB (fun q=>run (kO s c j (leaves j.dl q)) (bl S.α j.dl⊕bl S.α x.dl) fun e t=>match e with
      | .normal=>match carry t j with
       | some q=>some (.inl q)
       | none=>none
      | .exit id'=>match Nat.beq id' id with
       | true=>match carry t x with
        | some q=>some (.inr q)
        | none=>none
       | false=>none
      | _=>none) fu q0) fun q=>K (.exit id) (qL s c x (leaves x.dl q))
    | none=>none
   | none=>none
 | false=>none
def gX (fu:Nat) (s:ah S) (c:Cut) (j:JH) (id:Nat) (x:JH) (run:wL S){A:Type}(K:Exit→ah S→Option A):Option A:=
 match Ec s c j&&AN c x with
 | true=>match w9 s j with
   | some ls=>match lG j.dl ls with
    | some q0=>eU (fun r=>r) (aB (fun q=>run (kO s c j (leaves j.dl q)) (bl S.α j.dl⊕Ex (bl S.α x.dl) A) fun e t=>match e with
      | .normal=>match carry t j with
       | some q=>some (.inl q)
       | none=>none
      | .exit id'=>match Nat.beq id' id with
       | true=>match carry t x with
        | some q=>some (.inr (.dW q))
        | none=>none
       | false=>match K (.exit id') (flat s c t) with
        | some r=>some (.inr (.ret r))
        | none=>none
      | e=>match K e (flat s c t) with
        | some r=>some (.inr (.ret r))
        | none=>none) fu q0) fun q=>K (.exit id) (qL s c x (leaves x.dl q))
    | none=>none
   | none=>none
 | false=>none
def KV (h:Option mA) (s:ah S){A:Type}(k:ah S→Option A):Option A:=
 match h with
 | some (.fz l)=>match p9 l s with
  | some s'=>k s'
  | none=>none
 | some (.tr d)=>yD s (.tmp d) k
 | some (.th h kty)=>FL s h kty k
 | _=>k s
theorem Jw {h:Option mA}{s:ah S}{A:Type}{k:ah S→Option A}{r:A}(hl:a5 s) (e:KV h s k=some r):∃t,Gh s.er t.er∧a5 t∧bF s t∧k t=some r:=by
 unfold KV at e
 split at e
 ·split at e
  ·rename_i s' hz
   obtain⟨a1,a2,a3⟩:=lW hl hz
   exact⟨s',a1,a2,a3,e⟩
  ·cases e
 ·exact yC hl e
 ·exact Gp hl e
 ·exact⟨s,Gh.refl _,hl,bF.refl s,e⟩
def lK:Code→Nat→List (Nat×Array Tmp×Code×Code)
 | .seq x y,p=>lK x (p+1)++lK y (p+1+jA x)
 | .cond _ x y,p=>lK x (p+1)++lK y (p+1+jA x)
 | .block _ c,p=>lK c (p+1)
 | .loop c,p=>lK c (p+1)
 | .rangeFunc _ ps a b,p=>[(p,ps,a,b)]
 | _,_=>[]
def oN (S:eE) (N:Nat) (H:List (Nat×mA)):List (Nat×Array Tmp×Code×Code)→Prop
 | []=>True
 | (p,ps,a,b)::r=>(match fo H p with
  | some (.My key _)=>(S.eV key).N=N∧(S.eV key).ps=ps∧(S.eV key).ly=a∧(S.eV key).body=b
  | _=>True)∧oN S N H r
theorem oN.gz {N:Nat}{H:List (Nat×mA)}:∀{a b:List (Nat×Array Tmp×Code×Code)},oN S N H (a++b)→oN S N H a∧oN S N H b
 | [],b,h=>⟨trivial,h⟩
 | x::r,b,h=>⟨⟨h.1,(oN.gz h.2).1⟩,(oN.gz h.2).2⟩
structure Cl (S:eE) where
 call:(Nat→Bool)→(A:Type)→(List PanicEntry→ah S→Option A)→ah S→Option Nat→Call→(ah S→Option A)→Option A
 rf:(key hd:Nat)→ah S→Operand→(A:Type)→(Exit→ah S→Option A)→Option A
def wg (ds:List Nat):List (Nat×TV S)→Bool
 | []=>true
 | (d,_)::r=>!(bw d ds)&&wg ds r
def forget (ds:List Nat) (s:ah S):ah S:={s with fr:=cf ds s.fr,last:=[]}
def AK (ops:Array Oper){A:Type}(K:Exit→ah S→Option A) (ch:List PanicEntry) (t:ah S):Option A:=
 match wg (o9 ops.toList) t.lo with
 | true=>K (.panic ch) (forget (o9 ops.toList) t)
 | false=>none
noncomputable def gI (P:Program) (N fu:Nat) (H:List (Nat×mA)) (cl:Cl S):Code→Nat→ah S→(A:Type)→(Exit→ah S→Option A)→Option A
 | .skip,_,s,_,K=>K .normal s
 | .region _ ops draw,p,s,A,K=>match fo H p with
  | some (.fO W j)=>xk s (dZ s (o9 ops.toList) (aG j.a6) (aG j.aA)) j lT (fun s' B K'=>match draw with
   | true=>vi P N (fun h=>bw h W) W ops (cl.call (fun h=>bw h W) B (AK ops K')) s' (K' .normal)
   | false=>pK P N (fun h=>Nat.blt h 1100) ops.toList (cl.call (fun h=>Nat.blt h 1100) B fun ch=>K' (.panic ch)) ops.toList s' (K' .normal)) K
  | some (.mF W)=>match draw with
   | true=>vi P N (fun h=>bw h W) W ops (cl.call (fun h=>bw h W) A (AK ops K)) s (K .normal)
   | false=>pK P N (fun h=>Nat.blt h 1100) ops.toList (cl.call (fun h=>Nat.blt h 1100) A fun ch=>K (.panic ch)) ops.toList s (K .normal)
  | _=>KV (fo H p) s fun s=>match draw with
   | true=>vi P N (fun h=>Nat.blt h 1100) (List.range 1100) ops (cl.call (fun h=>Nat.blt h 1100) A (AK ops K)) s (K .normal)
   | false=>pK P N (fun h=>Nat.blt h 1100) ops.toList (cl.call (fun h=>Nat.blt h 1100) A fun ch=>K (.panic ch)) ops.toList s (K .normal)
 | .seq x y,p,s,A,K=>KV (fo H p) s fun s=>gI P N fu H cl x (p+1) s A fun e s'=>match e with
  | .normal=>gI P N fu H cl y (p+1+jA x) s' A K
  | e=>K e s'
 | .cond o x y,p,s,A,K=>match o with
  | .tmp t=>match bg s.bZ t with
   | some (.ab _ .bool b)=>match fo H p with
    | some (.join j)=>xk s (dZ s (kR x++kR y) (aG j.a6) (aG j.aA)) j lT (fun s' B K'=>cond b (gI P N fu H cl x (p+1) s' B K') (gI P N fu H cl y (p+1+jA x) s' B K')) K
    | some (.PH j)=>Af s (dZ s (kR x++kR y) (aG j.a6) (aG j.aA)) j lT (fun s' B K'=>cond b (gI P N fu H cl x (p+1) s' B K') (gI P N fu H cl y (p+1+jA x) s' B K')) K
    | _=>cond b (gI P N fu H cl x (p+1) s A K) (gI P N fu H cl y (p+1+jA x) s A K)
   | _=>none
  | _=>none
 | .block id c,p,s,A,K=>match fo H p with
  | some (.join j)=>xk s (dZ s (kR c) (aG j.a6) (aG j.aA)) j (xw id) (fun s' B K'=>gI P N fu H cl c (p+1) s' B K') K
  | some (.PH j)=>Af s (dZ s (kR c) (aG j.a6) (aG j.aA)) j (xw id) (fun s' B K'=>gI P N fu H cl c (p+1) s' B K') K
  | _=>gI P N fu H cl c (p+1) s A fun e s'=>match e with
   | .exit id'=>match Nat.beq id' id with
    | true=>K .normal s'
    | false=>K (.exit id') s'
   | e=>K e s'
 | .loop c,p,s,A,K=>match fo H p with
  | some (.loop j id x)=>match CB s j with
   | some s'=>La fu s' (dZ s' (kR c) (aG j.a6) (aG j.aA)) j id x (fun s' B K'=>gI P N fu H cl c (p+1) s' B K') K
   | none=>none
  | some (.gX j id x)=>match CB s j with
   | some s'=>gX fu s' (dZ s' (kR c) (aG j.a6) (aG j.aA)) j id x (fun s' B K'=>gI P N fu H cl c (p+1) s' B K') K
   | none=>none
  | _=>none
 | .exit id,_,s,_,K=>K (.exit id) s
 | .ret,_,s,_,K=>K .ret s
 | .rangeFunc g _ _ _,p,s,A,K=>match fo H p with
  | some (.My key hd)=>cl.rf key hd s g A K
  | _=>none
 | _,_,_,_,_=>none
section
variable {P:Program}{N:Nat}{cx:Cx}
def I2 (P:Program) (N:Nat) (cx:Cx) (c:Code) (run:wL S):Prop:=
 ∀(s:ah S) (B:Type) (K:Exit→ah S→Option B) (r:B),a5 s→run s B K=some r→∀Q:Exit→St→Prop,(∀e t,a5 t→bF s t→K e t=some r→Q e t.er)→GW P N cx c Q s.er
theorem GW.PD {σ ρ:Type}{c:Code}{Q:Exit→St→Prop}(E:σ→St) (R:ρ→Exit→St→Prop){body:σ→Option (σ⊕ρ)}{n:Nat}{x0:σ}{e:ρ}(hl:AM.aB body n x0=some e)
  (hr:∀x o,body x=some o→GW P N cx c (fun ex s=>match o with | .inl x'=>ex=.normal∧Gh s (E x') | .inr r=>ex≠.normal∧R r ex s) (E x)) (hq:∀ex s,ex≠.normal→R e ex s→Q ex s):GW P N cx (.loop c) Q (E x0):=by
 intro μ a w hrel
 refine Ch (fun k a w=>∃x μ,AM.aB body k x=some e∧Rel N cx μ (E x) a w) n ⟨x0,μ,hl,hrel⟩ ?_
 rintro k a w ⟨x,μ,hI,hrel⟩
 cases k with
 | zero=>exact absurd hI (by simp[AM.aB])
 | succ k=>
  simp only[AM.aB] at hI
  cases hb:body x with
  | none=>rw[hb] at hI;cases hI
  | some o=>
   rw[hb] at hI
   refine wpIn_mono (hr x o hb μ a w hrel) fun ex a' w' hl=>?_
   cases o with
   | inl x'=>
    cases ex with
    | normal=>
     obtain⟨μ',s',hr',_,hg⟩:=hl
     obtain⟨μ2,h1,_⟩:=hg N cx μ' a' w' hr'
     exact⟨k,jV k,x',μ2,hI,h1⟩
    | outgrown=>exact hl.elim
    | _=>obtain⟨μ',s',hr',hq',_⟩:=hl;cases hq'
   | inr r=>
    cases hI
    cases ex with
    | normal=>obtain⟨μ',s',hr',hq',_⟩:=hl;exact absurd rfl hq'
    | outgrown=>exact hl.elim
    | _=>obtain⟨μ',s',hr',hn,hq'⟩:=hl;exact⟨μ',s',hr',hq _ _ hn hq'⟩
theorem vc {s:ah S}{c:Cut}{j:JH}(h:Ec s c j=true):tn s c∧AN c j=true:=by
 unfold Ec at h
 simp only[aj] at h
 exact⟨LD h.1,h.2⟩
theorem GW.CA {c:Code}{Q Q':Exit→St→Prop}{s:St}(h:GW P N cx c Q' s) (hq:∀e s,Q' e s→∃t,Gh s t∧Q e t):GW P N cx c Q s:=fun μ a w hr=>
 wpIn_mono (h μ a w hr) fun e a' w' hl=>by
  cases e with
  | outgrown=>exact hl.elim
  | _=>
   obtain⟨μ',s',hr',h4⟩:=hl
   obtain⟨t,h5,h6⟩:=hq _ _ h4
   obtain⟨μ2,h7,_⟩:=h5 N cx μ' a' w' hr'
   exact⟨μ2,t,h7,h6⟩
theorem Dg {s t:ah S}{c:Cut}(h:bF (xL s c) t):t.lo=cf c.D s.bZ∧t.bO=cf c.DO s.bi∧t.df=s.df:=⟨h.lo,h.bO,h.df⟩
theorem Bv {code:Code}{s:ah S}{A H B:List Nat}{j:JH}{at_:Exit→Bool}{run:wL S}{X:Type}{K:Exit→ah S→Option X}{r:X}(hat:∀e,at_ e=true→Ak e=false) (hrun:I2 P N cx code run) (hl:a5 s)
  (h:xk s (dZ s A H B) j at_ run K=some r){Q:Exit→St→Prop}(hQ:∀e t,a5 t→bF s t→K e t=some r→Q e t.er):
  GW P N cx code (fun e s'=>at_ e=true∧∃t,Gh s' t∧Q .normal t) s.er:=by
 unfold xk at h
 split at h
 ·rename_i hf
  obtain⟨hc,hj⟩:=vc hf
  obtain⟨q,h1,h2⟩:=bind_some h
  obtain⟨g1,g2⟩:=IF s (dZ s A H B) hl
  refine GW.gh g1 (hrun _ _ _ q g2 h1 _ fun e t hlt hk hK=>?_)
  split at hK
  ·rename_i he
   obtain⟨k1,k2,k3⟩:=Dg hk
   exact⟨he,_,vn rfl hc hj k1 k2 k3 hlt hK,hQ _ _ (gJ rfl) ⟨rfl,rfl,rfl⟩ h2⟩
  ·cases hK
 ·cases h
theorem HE {code:Code}{s:ah S}{A H B:List Nat}{j:JH}{at_:Exit→Bool}{run:wL S}{X:Type}{K:Exit→ah S→Option X}{r:X}(hat:∀e,at_ e=true→Ak e=false) (hrun:I2 P N cx code run) (hl:a5 s)
  (h:Af s (dZ s A H B) j at_ run K=some r){Q:Exit→St→Prop}(hQ:∀e t,a5 t→bF s t→K e t=some r→Q e t.er):
  GW P N cx code (fun e s'=>(at_ e=true∧∃t,Gh s' t∧Q .normal t)∨(at_ e=false∧∃t,Gh s' t∧Q e t)) s.er:=by
 unfold Af at h
 split at h
 ·rename_i hf
  obtain⟨hc,hj⟩:=vc hf
  obtain⟨ex,h1,h2,h3⟩:=Dr h
  obtain⟨g1,g2⟩:=IF s (dZ s A H B) hl
  refine GW.gh g1 (hrun _ _ _ ex g2 h1 _ fun e t hlt hk hK=>?_)
  obtain⟨k1,k2,k3⟩:=Dg hk
  split at hK
  ·rename_i he
   split at hK
   ·rename_i q hq
    cases hK
    exact .inl ⟨he,_,vn rfl hc hj k1 k2 k3 hlt hq,hQ _ _ (gJ rfl) ⟨rfl,rfl,rfl⟩ (h2 q rfl)⟩
   ·cases hK
  ·rename_i he
   split at hK
   ·rename_i r' hr'
    cases hK
    obtain⟨f1,f2,f3⟩:=J0 hc k1 k2 k3 hlt
    refine .inr ⟨he,_,f1,hQ e _ f2 f3 ?_⟩
    rw[hr',←h3 r' rfl]
   ·cases hK
 ·cases h
theorem Ow {body:Code}{fu:Nat}{s:ah S}{A H B:List Nat}{j x:JH}{id:Nat}{run:wL S}{X:Type}{K:Exit→ah S→Option X}{r:X}(hrun:I2 P N cx body run) (hl:a5 s)
  (h:La fu s (dZ s A H B) j id x run K=some r){Q:Exit→St→Prop}(hQ:∀e t,a5 t→bF s t→K e t=some r→Q e t.er):
  GW P N cx (.loop body) Q s.er:=by
 unfold La at h
 split at h
 ·rename_i hf
  simp only[aj] at hf
  obtain⟨hc,hj⟩:=vc hf.1
  have hx:=hf.2
  split at h
  ·rename_i ls hls
   split at h
   ·rename_i q0 hq0
    obtain⟨q,h1,h2⟩:=bind_some h
    refine GW.gh (JU rfl hc hj hls) ?_
    rw[←gd hq0]
    refine GW.CA (GW.PD (fun q=>(kO s (dZ s A H B) j (leaves j.dl q)).er) (fun (b:bl S.α x.dl) e s'=>e=.exit id∧∃t,Gh s' t∧t=(qL s (dZ s A H B) x (leaves x.dl b)).er) h1 (Q:=fun e s'=>e=.exit id∧∃t,Gh s' t∧t=(qL s (dZ s A H B) x (leaves x.dl q)).er) (fun q' o ho=>?_) (fun e s' hne hR=>hR)) (fun e s' hR=>?_)
    ·refine hrun _ _ _ o (gJ rfl) ho _ fun e t hlt hk hK=>?_
     have k1:t.lo=cf (dZ s A H B).D s.bZ:=hk.lo
     have k2:t.bO=cf (dZ s A H B).DO s.bi:=hk.bO
     have k3:t.df=s.df:=hk.df
     split at hK
     ·split at hK
      ·rename_i q2 hq2
       cases hK
       exact⟨rfl,xO rfl hc hj k1 k2 k3 hlt hq2⟩
      ·cases hK
     ·split at hK
      ·rename_i hid
       split at hK
       ·rename_i q2 hq2
        cases hK
        have:=aa hid
        subst this
        exact⟨fun e=>(by cases e),rfl,_,vn rfl hc hx k1 k2 k3 hlt hq2,rfl⟩
       ·cases hK
      ·cases hK
     ·cases hK
    ·obtain⟨e1,t,e2,e3⟩:=hR
     subst e1;subst e3
     exact⟨_,e2,hQ _ _ (gJ (t:=qL s (dZ s A H B) x (leaves x.dl q)) rfl) ⟨rfl,rfl,rfl⟩ h2⟩
   ·cases h
  ·cases h
 ·cases h
def LR {β X:Type}(s:ah S) (K:Exit→ah S→Option X) (id:Nat) (out:β→St) (b:Ex β X) (e:Exit) (s':St):Prop:=
 match b with
 | .dW b=>e=.exit id∧∃t,Gh s' t∧t=out b
 | .ret r'=>∃t:ah S,Gh s' t.er∧a5 t∧bF s t∧K e t=some r'
theorem Ov {body:Code}{fu:Nat}{s:ah S}{A H B:List Nat}{j x:JH}{id:Nat}{run:wL S}{X:Type}{K:Exit→ah S→Option X}{r:X}(hrun:I2 P N cx body run) (hl:a5 s)
  (h:gX fu s (dZ s A H B) j id x run K=some r){Q:Exit→St→Prop}(hQ:∀e t,a5 t→bF s t→K e t=some r→Q e t.er):
  GW P N cx (.loop body) Q s.er:=by
 unfold gX at h
 split at h
 ·rename_i hf
  simp only[aj] at hf
  obtain⟨hc,hj⟩:=vc hf.1
  have hx:=hf.2
  split at h
  ·rename_i ls hls
   split at h
   ·rename_i q0 hq0
    obtain⟨ex,h1,h2,h3⟩:=Dr h
    refine GW.gh (JU rfl hc hj hls) ?_
    rw[←gd hq0]
    refine GW.CA (GW.PD (fun q=>(kO s (dZ s A H B) j (leaves j.dl q)).er)
     (LR s K id fun b=>(qL s (dZ s A H B) x (leaves x.dl b)).er) h1
     (Q:=LR s K id (fun b=>(qL s (dZ s A H B) x (leaves x.dl b)).er) ex) (fun q' o ho=>?_) (fun e s' hne hR=>hR)) (fun e s' hR=>?_)
    ·refine hrun _ _ _ o (gJ rfl) ho _ fun e t hlt hk hK=>?_
     have k1:t.lo=cf (dZ s A H B).D s.bZ:=hk.lo
     have k2:t.bO=cf (dZ s A H B).DO s.bi:=hk.bO
     have k3:t.df=s.df:=hk.df
     obtain⟨f1,f2,f3⟩:=J0 hc k1 k2 k3 hlt
     split at hK
     ·split at hK
      ·rename_i q2 hq2
       cases hK
       exact⟨rfl,xO rfl hc hj k1 k2 k3 hlt hq2⟩
      ·cases hK
     ·split at hK
      ·rename_i hid
       split at hK
       ·rename_i q2 hq2
        cases hK
        have:=aa hid
        subst this
        exact⟨fun e=>(by cases e),rfl,_,vn rfl hc hx k1 k2 k3 hlt hq2,rfl⟩
       ·cases hK
      ·split at hK
       ·rename_i r' hr'
        cases hK
        exact⟨fun e=>(by cases e),_,f1,f2,f3,hr'⟩
       ·cases hK
     ·rename_i hn1 hn2
      split at hK
      ·rename_i r' hr'
       cases hK
       exact⟨fun e=>hn1 e,_,f1,f2,f3,hr'⟩
      ·cases hK
    ·cases ex with
     | dW b=>
      obtain⟨e1,t,e2,e3⟩:=hR
      subst e1;subst e3
      exact⟨_,e2,hQ _ _ (gJ (t:=qL s (dZ s A H B) x (leaves x.dl b)) rfl) ⟨rfl,rfl,rfl⟩ (h2 b rfl)⟩
     | ret r'=>
      obtain⟨t,e2,e3,e4,e5⟩:=hR
      refine⟨_,e2,hQ _ _ e3 e4 ?_⟩
      rw[e5,←h3 r' rfl]
   ·cases h
  ·cases h
 ·cases h
end
end
end Go.DN
/-
 DN,part S:what the code does is what 'denC' says.
-/
namespace Go.DN
open Go.AM
section
variable {S:eE}{P:Program}{N:Nat}{cx:Cx}{fu:Nat}{H:List (Nat×mA)}{cl:Cl S}
structure Ax (P:Program) (N:Nat) (cl:Cl S):Prop where
 call:∀(ok:Nat→Bool) (W:List Nat),(∀h,ok h=true→W.contains h=true)→∀(A:Type) (kp:List PanicEntry→ah S→Option A) (r:A),zT P N W (cl.call ok A kp) kp r
 ct:∀(ok:Nat→Bool) (A:Type) (kp:List PanicEntry→ah S→Option A) (r:A),Pv P N (cl.call ok A kp) r
 rf:∀(cx:Cx),cx.ro=none→∀(key hd:Nat) (g:Operand),(S.eV key).N=N→∀(s:ah S) (B:Type) (K:Exit→ah S→Option B) (r:B),a5 s→cl.rf key hd s g B K=some r→∀Q:Exit→St→Prop,(∀e t,a5 t→bF s t→K e t=some r→Q e t.er)→
  GW P N cx (.rangeFunc g (S.eV key).ps (S.eV key).ly (S.eV key).body) Q s.er
theorem w6:∀h,Nat.blt h 1100=true→(List.range 1100).contains h=true:=fun h hh=>fL.2 (List.mem_range.2 (by simpa[fW] using hh))
theorem JI (W:List Nat):∀h,bw h W=true→W.contains h=true:=fun h hh=>fL.2 (bQ.1 hh)
theorem Gh.lift {c:Code}{Q:Exit→St→Prop}{s:St}(h:GW P N cx c (fun e s'=>∃t,Gh s' t∧Q e t) s):GW P N cx c Q s:=
 GW.CA h fun e s' hq=>hq
theorem Cc:∀{l:List Oper}{d:Nat},d∈l.filterMap (·.dst)→d∈o9 l
 | [],d,h=>by cases h
 | o::r,d,h=>by
  simp only[o9]
  cases ho:o.dst with
  | none=>
   rw[List.filterMap_cons_none ho] at h
   exact Cc h
  | some x=>
   rw[List.filterMap_cons_some ho] at h
   rcases aZ.1 h with e | h
   ·subst e;exact au
   ·exact ao _ (Cc h)
theorem CM {ds:List Nat}:∀{l:List (Nat×TV S)}{d:Nat},wg ds l=true→d∈ds→bg l d=none
 | [],_,_,_=>rfl
 | (k,v)::r,d,h,hm=>by
  simp only[wg,aj,a8] at h
  simp only[bg]
  cases hb:Nat.beq k d with
  | true=>
   have:=aa hb
   subst this
   rw[bQ.2 hm] at h;cases h.1
  | false=>exact CM h.2 hm
theorem zo {ln:Nat→Nat}:∀{fr:List (Nat×TV S)}{t:Nat},bg fr t=none→get (gi ln fr) t=none
 | [],_,_=>rfl
 | (k,g)::r,t,h=>by
  simp only[bg] at h
  simp only[gi,AM.get]
  cases hk:Nat.beq k t with
  | true=>rw[hk] at h;cases h
  | false=>rw[hk] at h;exact zo h
theorem Lu (ds:List Nat) (s:ah S) (hn:wg ds s.lo=true) (d:Nat):bg (forget ds s).bZ d=if bw d ds=true then none else bg s.bZ d:=by
 show bg (cf ds s.fr++s.lo) d=if bw d ds=true then none else bg (s.fr++s.lo) d
 rw[j5,j5,jN]
 cases h:bw d ds with
 | true=>rw[CM hn (bQ.1 h)];rfl
 | false=>rfl
theorem Gh.Tu {s t:St}(h1:∀d g,get t.fr d=some g→get s.fr d=some g) (h2:t.st=s.st) (h3:t.df=s.df):Gh s t:=by
 obtain⟨fr,st,df⟩:=s
 obtain⟨fr',st',df'⟩:=t
 dsimp only at h1 h2 h3
 subst h2;subst h3
 exact fun N cx μ a w hr=>⟨μ,{st:=hr.st,nd:=hr.nd,sz:=hr.sz,fr:=fun d g hg=>hr.fr d g (h1 d g hg)},Gh.same fun h k b m h4 h5=>⟨k,h4,h5⟩⟩
theorem AT {ln:Nat→Nat}(fr:List (Nat×TV S)) (t:Nat):get (gi ln fr) t=(bg fr t).map (TV.er ln):=by
 cases h:bg fr t with
 | none=>exact zo h
 | some v=>exact fh h
theorem Nj {ops:Array Oper}{s:ah S}(hn:wg (o9 ops.toList) s.lo=true):Gh s.er (forget (o9 ops.toList) s).er∧∀d,d∈qY ops→get (forget (o9 ops.toList) s).er.fr d=none:=by
 have key:∀d,get (forget (o9 ops.toList) s).er.fr d=if bw d (o9 ops.toList)=true then none else get s.er.fr d:=by
  intro d
  show get (gi s.ln (forget (o9 ops.toList) s).bZ) d=if bw d (o9 ops.toList)=true then none else get (gi s.ln s.bZ) d
  rw[AT,AT,Lu _ _ hn]
  split <;> rfl
 refine⟨Gh.Tu (fun d g hg=>?_) rfl rfl,fun d hd=>?_⟩
 ·rw[key] at hg
  split at hg
  ·cases hg
  ·exact hg
 ·rw[key,if_pos (bQ.2 (Cc hd))]
theorem yU (hm:P.follows .mixedOrders=true) (hcl:Ax P N cl) (id:Nat) (ops:Array Oper) (draw:Bool) (W:Option (List Nat)):I2 P N cx (.region id ops draw) (fun s B K=>match draw with
  | true=>match W with
   | some W=>vi P N (fun h=>bw h W) W ops (cl.call (fun h=>bw h W) B (AK ops K)) s (K .normal)
   | none=>vi P N (fun h=>Nat.blt h 1100) (List.range 1100) ops (cl.call (fun h=>Nat.blt h 1100) B (AK ops K)) s (K .normal)
  | false=>pK P N (fun h=>Nat.blt h 1100) ops.toList (cl.call (fun h=>Nat.blt h 1100) B fun ch=>K (.panic ch)) ops.toList s (K .normal)):=by
 intro s B K r hl h Q hQ
 have hp:∀ch (t:ah S),a5 t→bF s t→AK ops K ch t=some r→∃u,Gh t.er u∧Q (.panic ch) u∧∀d,d∈qY ops→get u.fr d=none:=by
  intro ch t a b c
  unfold AK at c
  split at c
  ·rename_i hn
   obtain⟨f1,f2⟩:=Nj hn
   exact⟨_,f1,hQ (.panic ch) _ (gJ rfl) ⟨b.lo,b.bO,b.df⟩ c,f2⟩
  ·cases c
 cases draw with
 | true=>
  cases W with
  | some W=>exact Ix hm (JI W) (hcl.call _ _ (JI W) B (AK ops K) r) hl h (fun t a b c=>hQ .normal t a b c) hp
  | none=>exact Ix hm w6 (hcl.call _ _ w6 B (AK ops K) r) hl h (fun t a b c=>hQ .normal t a b c) hp
 | false=>
  have:ops=ops.toList.toArray:=by simp
  rw[this]
  exact GW.region (pn w6 (hcl.call _ _ w6 B _ r) (hcl.ct _ B _ r) hl h (fun t a b c=>hQ .normal t a b c) fun ch t a b c=>⟨_,Gh.refl _,hQ (.panic ch) t a b c⟩)
theorem xv:∀e,lT e=true→Ak e=false:=fun e h=>by cases e <;> first | rfl | cases h
theorem JR (id:Nat):∀e,xw id e=true→Ak e=false:=fun e h=>by cases e <;> first | rfl | cases h
theorem AJ {c:Code}{Q:Exit→St→Prop}{s:St}(h:GW P N cx c (fun e s'=>lT e=true∧∃t,Gh s' t∧Q .normal t) s):GW P N cx c Q s:=
 Gh.lift (h.mono fun e s' ⟨h1,t,h2,h3⟩=>by
  cases e with
  | normal=>exact⟨t,h2,h3⟩
  | _=>cases h1)
theorem HD {c:Code}{Q:Exit→St→Prop}{s:St}(h:GW P N cx c (fun e s'=>(lT e=true∧∃t,Gh s' t∧Q .normal t)∨(lT e=false∧∃t,Gh s' t∧Q e t)) s):GW P N cx c Q s:=
 Gh.lift (h.mono fun e s' hq=>by
  rcases hq with ⟨h1,t,h2,h3⟩ | ⟨h0,t,h2,h3⟩
  ·cases e with
   | normal=>exact⟨t,h2,h3⟩
   | _=>cases h1
  ·exact⟨t,h2,h3⟩)
theorem Ot {id:Nat}{c:Code}{Q:Exit→St→Prop}{s:St}(h:GW P N cx c (fun e s'=>xw id e=true∧∃t,Gh s' t∧Q .normal t) s):GW P N cx (.block id c) Q s:=
 GW.block (Gh.lift (h.mono fun e s' ⟨h1,t,h2,h3⟩=>by
  refine⟨t,h2,?_⟩
  cases e with
  | normal=>exact h3
  | exit id'=>
   have:=aa h1
   subst this
   simp only[wP,if_true]
   exact h3
  | _=>cases h1))
theorem MV {id:Nat}{c:Code}{Q:Exit→St→Prop}{s:St}(h:GW P N cx c (fun e s'=>(xw id e=true∧∃t,Gh s' t∧Q .normal t)∨(xw id e=false∧∃t,Gh s' t∧Q e t)) s):GW P N cx (.block id c) Q s:=
 GW.block (Gh.lift (h.mono fun e s' hq=>by
  rcases hq with ⟨h1,t,h2,h3⟩ | ⟨h0,t,h2,h3⟩
  ·refine⟨t,h2,?_⟩
   cases e with
   | normal=>exact h3
   | exit id'=>
    have:=aa h1
    subst this
    simp only[wP,if_true]
    exact h3
   | _=>cases h1
  ·refine⟨t,h2,?_⟩
   cases e with
   | normal=>exact h3
   | exit id'=>
    simp only[xw] at h0
    simp only[wP]
    rw[if_neg (fun e=>by subst e;rw[aI] at h0;cases h0)]
    exact h3
   | _=>exact h3))
theorem RB {a b:List (Nat×Array Tmp×Code×Code)}(h:a++b=[]∨cx.ro=none):a=[]∨cx.ro=none:=h.imp (fun h=>(List.append_eq_nil_iff.1 h).1) id
theorem RA {a b:List (Nat×Array Tmp×Code×Code)}(h:a++b=[]∨cx.ro=none):b=[]∨cx.ro=none:=h.imp (fun h=>(List.append_eq_nil_iff.1 h).2) id
theorem jy (hm:P.follows .mixedOrders=true) (hcl:Ax P N cl):∀(c:Code) (p:Nat),oN S N H (lK c p)→(lK c p=[]∨cx.ro=none)→I2 P N cx c (fun s B K=>gI P N fu H cl c p s B K)
 | .skip,p,_,_=>fun s B K r hl h Q hQ=>GW.skip (hQ _ s hl (bF.refl s) h)
 | .region id ops draw,p,_,_=>fun s B K r hl h Q hQ=>by
  simp only[gI] at h
  split at h
  ·rename_i W j _
   refine AJ (Bv xv (run:=fun s B K=>match draw with
    | true=>vi P N (fun h=>bw h W) W ops (cl.call (fun h=>bw h W) B (AK ops K)) s (K .normal)
    | false=>pK P N (fun h=>Nat.blt h 1100) ops.toList (cl.call (fun h=>Nat.blt h 1100) B fun ch=>K (.panic ch)) ops.toList s (K .normal)) ?_ hl h hQ)
   intro s B K r hl h Q hQ
   refine yU hm hcl id ops draw (some W) s B K r hl ?_ Q hQ
   cases draw <;> exact h
  ·rename_i W _
   refine yU hm hcl id ops draw (some W) s B K r hl ?_ Q hQ
   cases draw <;> exact h
  ·obtain⟨s1,g1,g2,g3,h⟩:=Jw hl h
   refine GW.gh g1 (yU hm hcl id ops draw none s1 B K r g2 ?_ Q fun e t a b c=>hQ e t a (g3.trans b) c)
   cases draw <;> exact h
 | .seq x y,p,hr,ho=>fun s B K r hl h Q hQ=>by
  simp only[gI] at h
  obtain⟨s1,g1,g2,g3,h⟩:=Jw hl h
  refine GW.gh g1 (GW.seq (jy hm hcl x _ hr.gz.1 (RB ho) s1 B _ r g2 h _ fun e t hlt hk hK=>?_))
  cases e with
  | normal=>exact jy hm hcl y _ hr.gz.2 (RA ho) t B K r hlt hK Q fun e' t' a b c=>hQ e' t' a (g3.trans (hk.trans b)) c
  | _=>exact hQ _ t hlt (g3.trans hk) hK
 | .cond o x y,p,hr,ho=>fun s B K r hl h Q hQ=>by
  simp only[gI] at h
  split at h
  ·rename_i t
   split at h
   ·rename_i f b hb
    have hg:get s.er.fr t=some (.val (.bool b)):=by rw[show get s.er.fr t=_ from fh hb];exact congrArg some (gf f b)
    have sub:∀(s:ah S),(∀d,bg s.bZ d=bg s.bZ d)→True:=fun _ _=>trivial
    have hrun:I2 P N cx (.cond (.tmp t) x y) (fun s' B' K'=>match bg s'.bZ t with
     | some (.ab _ .bool b')=>cond b' (gI P N fu H cl x (p+1) s' B' K') (gI P N fu H cl y (p+1+jA x) s' B' K')
     | _=>none):=by
     intro s' B' K' r' hl' h' Q' hQ'
     dsimp only at h'
     split at h'
     ·rename_i f' b' hb'
      have hg':get s'.er.fr t=some (.val (.bool b')):=by rw[show get s'.er.fr t=_ from fh hb'];exact congrArg some (gf f' b')
      refine GW.cond hg' (fun e=>?_) (fun e=>?_)
      ·subst e;exact jy hm hcl x _ hr.gz.1 (RB ho) s' B' K' r' hl' h' Q' hQ'
      ·subst e;exact jy hm hcl y _ hr.gz.2 (RA ho) s' B' K' r' hl' h' Q' hQ'
     ·cases h'
    split at h
    ·rename_i j _
     have h2:xk s (dZ s (kR x++kR y) (aG j.a6) (aG j.aA)) j lT (fun s' B' K'=>match bg s'.bZ t with
      | some (.ab _ .bool b')=>cond b' (gI P N fu H cl x (p+1) s' B' K') (gI P N fu H cl y (p+1+jA x) s' B' K')
      | _=>none) K=some r:=by
      rw[←h]
      unfold xk
      split
      ·congr 1
       dsimp only
       rw[xK,hb]
      ·rfl
     exact AJ (Bv xv hrun hl h2 hQ)
    ·rename_i j _
     have h2:Af s (dZ s (kR x++kR y) (aG j.a6) (aG j.aA)) j lT (fun s' B' K'=>match bg s'.bZ t with
      | some (.ab _ .bool b')=>cond b' (gI P N fu H cl x (p+1) s' B' K') (gI P N fu H cl y (p+1+jA x) s' B' K')
      | _=>none) K=some r:=by
      rw[←h]
      unfold Af
      split
      ·congr 1
       dsimp only
       rw[xK,hb]
      ·rfl
     exact HD (HE xv hrun hl h2 hQ)
    ·refine GW.cond hg (fun e=>?_) (fun e=>?_)
     ·subst e;exact jy hm hcl x _ hr.gz.1 (RB ho) s B K r hl h Q hQ
     ·subst e;exact jy hm hcl y _ hr.gz.2 (RA ho) s B K r hl h Q hQ
   ·cases h
  ·cases h
 | .block id c,p,hr,ho=>fun s B K r hl h Q hQ=>by
  simp only[gI] at h
  split at h
  ·exact Ot (Bv (JR id) (jy hm hcl c _ hr ho) hl h hQ)
  ·exact MV (HE (JR id) (jy hm hcl c _ hr ho) hl h hQ)
  ·refine GW.block (jy hm hcl c _ hr ho s B _ r hl h _ fun e t hlt hk hK=>?_)
   cases e with
   | exit id'=>
    dsimp only at hK
    simp only[wP]
    split at hK
    ·rename_i he
     rw[if_pos (aa he)]
     exact hQ _ t hlt hk hK
    ·rename_i he
     rw[if_neg (fun e=>by subst e;rw[aI] at he;cases he)]
     exact hQ _ t hlt hk hK
   | _=>exact hQ _ t hlt hk hK
 | .loop c,p,hr,ho=>fun s B K r hl h Q hQ=>by
  simp only[gI] at h
  split at h
  ·split at h
   ·rename_i s' hp
    obtain⟨a1,a2,a3⟩:=Bk hl hp
    exact GW.gh a1 (Ow (jy hm hcl c _ hr ho) a2 h fun e t x y z=>hQ e t x (a3.trans y) z)
   ·cases h
  ·split at h
   ·rename_i s' hp
    obtain⟨a1,a2,a3⟩:=Bk hl hp
    exact GW.gh a1 (Ov (jy hm hcl c _ hr ho) a2 h fun e t x y z=>hQ e t x (a3.trans y) z)
   ·cases h
  ·cases h
 | .exit id,p,_,_=>fun s B K r hl h Q hQ=>GW.exit (hQ _ s hl (bF.refl s) h)
 | .ret,p,_,_=>fun s B K r hl h Q hQ=>GW.ret (hQ _ s hl (bF.refl s) h)
 | .rangeFunc g ps a b,p,hr,ho=>fun s B K r hl h Q hQ=>by
  simp only[gI] at h
  split at h
  ·rename_i key hd hh
   have h1:=hr.1
   rw[hh] at h1
   obtain⟨e1,e2,e3,e4⟩:=h1
   subst e2;subst e3;subst e4
   exact hcl.rf cx (ho.resolve_left fun h=>by cases h) key hd g e1 s B K r hl h Q hQ
  ·cases h
 | .scope _,p,_,_=>fun s B K r hl h Q hQ=>by simp[gI] at h
 | .label _,p,_,_=>fun s B K r hl h Q hQ=>by simp[gI] at h
 | .goto _,p,_,_=>fun s B K r hl h Q hQ=>by simp[gI] at h
 | .refuse _,p,_,_=>fun s B K r hl h Q hQ=>by simp[gI] at h
end
end Go.DN
/-
 DN,part Sb:a lent slice under a number of the call's own.
-/
namespace Go.DN
open Go.AM
mutual
theorem MR {h h':Nat}:∀g:G,g.b9 h=false→mL h h' g=g
 | .loc x off,e=>by
  show G.loc (mv h h' x) off=_
  rw[iH fun e'=>by subst e';simp[G.b9,aI] at e]
 | .aR x sz off n,e=>by
  show G.aR (mv h h' x) sz off n=_
  rw[iH fun e'=>by subst e';simp[G.b9,aI] at e]
 | .ct x,e=>by
  show G.ct (mv h h' x)=_
  rw[iH fun e'=>by subst e';simp[G.b9,aI] at e]
 | .dV x,e=>by
  show G.dV (mv h h' x)=_
  rw[iH fun e'=>by subst e';simp[G.b9,aI] at e]
 | .ks x i sz n,e=>by
  show G.ks (mv h h' x) i sz n=_
  rw[iH fun e'=>by subst e';simp[G.b9,aI] at e]
 | .kp x i off,e=>by
  show G.kp (mv h h' x) i off=_
  rw[iH fun e'=>by subst e';simp[G.b9,aI] at e]
 | .agg gs,e=>congrArg G.agg (Ae gs e)
 | .bl gs,e=>congrArg G.bl (Ae gs e)
 | .aF f gs,e=>congrArg (G.aF f) (Ae gs e)
 | .any,_=>rfl
 | .val _,_=>rfl
 | .sl _ _,_=>rfl
 | .ptr _,_=>rfl
 | .fr _,_=>rfl
theorem Ae {h h':Nat}:∀gs:List G,G.b9.go h gs=false→mL.go h h' gs=gs
 | [],_=>rfl
 | x::r,e=>by
  simp only[G.b9.go,bI] at e
  simp only[mL.go,MR x e.1,Ae r e.2]
end
section
variable {S:eE}
def zb (h h':Nat):TV S→TV S
 | .loc x o=>.loc (mv h h' x) o
 | .gK x τ i j=>.gK (mv h h' x) τ i j
 | .aR x τ=>.aR (mv h h' x) τ
 | .sub x τ o n=>.sub (mv h h' x) τ o n
 | .ct x=>.ct (mv h h' x)
 | .mp x=>.mp (mv h h' x)
 | .ks x τ i n=>.ks (mv h h' x) τ i n
 | .kp x τ i j=>.kp (mv h h' x) τ i j
 | .fD b x τ i j=>.fD b (mv h h' x) τ i j
 | .agg l=>.agg (go l)
 | .bl l=>.bl (go l)
 | .aF f l=>.aF f (go l)
 | v=>v
where go:List (TV S)→List (TV S)
 | []=>[]
 | x::r=>zb h h' x::go r
mutual
theorem MQ {h h':Nat}{ln ln':Nat→Nat}(hln:∀x,x≠h'→ln' (mv h h' x)=ln x):∀v:TV S,v.has h'=false→(zb h h' v).er ln'=mL h h' (v.er ln)
 | .ab f τ a,_=>(MR _ (ID h f τ a)).symm
 | .ptr f τ a,_=>by cases f <;> rfl
 | .loc _ _,_=>rfl
 | .gK _ _ _ _,_=>rfl
 | .aR x τ,e=>by
  show G.aR _ _ _ (ln' (mv h h' x))=G.aR _ _ _ (ln x)
  rw[hln x fun e'=>by subst e';simp[TV.has,aI] at e]
 | .sub _ _ _ _,_=>rfl
 | .ct _,_=>rfl
 | .mp _,_=>rfl
 | .ks _ _ _ _,_=>rfl
 | .kp _ _ _ _,_=>rfl
 | .fD b _ _ _ _,_=>by cases b <;> rfl
 | .val _,_=>rfl
 | .any,_=>rfl
 | .agg l,e=>congrArg G.agg (qR hln l e)
 | .bl l,e=>congrArg G.bl (qR hln l e)
 | .aF f l,e=>congrArg (G.aF f) (qR hln l e)
theorem qR {h h':Nat}{ln ln':Nat→Nat}(hln:∀x,x≠h'→ln' (mv h h' x)=ln x):∀l:List (TV S),TV.has.go h' l=false→TV.er.go ln' (zb.go h h' l)=mL.go h h' (TV.er.go ln l)
 | [],_=>rfl
 | x::r,e=>by
  simp only[TV.has.go,bI] at e
  simp only[zb.go,TV.er.go,mL.go,MQ hln x e.1,qR hln r e.2]
end
def RF (h h':Nat):TO S→TO S
 | .box e m cs=>.box e m (zb.go h h' cs)
 | .lp l n cs=>.lp l n (zb.go h h' cs)
 | o=>o
def MS (h h':Nat):List (Nat×TV S)→List (Nat×TV S)
 | []=>[]
 | (t,v)::r=>(t,zb h h' v)::MS h h' r
def EZ (h h':Nat):List (Nat×TO S)→List (Nat×TO S)
 | []=>[]
 | (k,o)::r=>(mv h h' k,RF h h' o)::EZ h h' r
def ah.move (s:ah S) (h h':Nat):ah S:={fr:=MS h h' s.bZ,lo:=[],st:=EZ h h' s.bi,bO:=[],df:=zb.go h h' s.df,nx:=s.nx,last:=[]}
theorem RE {h h' x y:Nat}(hx:x≠h') (hy:y≠h'):Nat.beq (mv h h' x) (mv h h' y)=Nat.beq x y:=by
 cases hb:Nat.beq x y with
 | true=>have:=aa hb;subst this;exact aI _
 | false=>
  cases hc:Nat.beq (mv h h' x) (mv h h' y) with
  | false=>rfl
  | true=>
   have e:=aa hc
   have hne:x≠y:=fun e=>by subst e;rw[aI] at hb;cases hb
   by_cases h1:x=h
   ·subst h1
    by_cases h2:y=x
    ·exact absurd h2.symm hne
    ·rw[tB,iH h2] at e;exact absurd e.symm hy
   ·by_cases h2:y=h
    ·subst h2;rw[tB,iH h1] at e;exact absurd e hx
    ·rw[iH h1,iH h2] at e;exact absurd e hne
theorem Hr {h h':Nat}:∀{st:List (Nat×TO S)}{x:Nat},aw st h'=none→x≠h'→aw (EZ h h' st) (mv h h' x)=(aw st x).map (RF h h')
 | [],_,_,_=>rfl
 | (k,o)::r,x,hn,hx=>by
  simp only[aw] at hn
  cases hb:Nat.beq k h' with
  | true=>rw[hb] at hn;cases hn
  | false=>
   rw[hb] at hn
   have hk:k≠h':=fun e=>by subst e;rw[aI] at hb;cases hb
   simp only[EZ,aw,RE hk hx]
   cases Nat.beq k x with
   | true=>rfl
   | false=>exact Hr hn hx
theorem Qw (h h':Nat) (o:TO S):(RF h h' o).len=o.len:=by cases o <;> rfl
theorem JE {s:ah S}{h h':Nat}(hf:s.free h'=true):(s.move h h').er={fr:=xh h h' s.er.fr,st:=sw h h' s.er.st,df:=mL.go h h' s.er.df}:=by
 obtain⟨f1,f2,f3,f4,_⟩:=free_spec hf
 have hln:∀x,x≠h'→(s.move h h').ln (mv h h' x)=s.ln x:=by
  intro x hx
  show b6 (EZ h h' s.bi++[]) (mv h h' x)=b6 s.bi x
  rw[cc]
  unfold b6
  rw[Hr f1 hx]
  cases aw s.bi x with
  | none=>rfl
  | some o=>exact Qw h h' o
 have e1:∀fr:List (Nat×TV S),gr h' fr=false→gi (s.move h h').ln (MS h h' fr)=xh h h' (gi s.ln fr):=by
  intro fr
  induction fr with
  | nil=>intro _;rfl
  | cons x r ih=>
   obtain⟨t,v⟩:=x
   intro e
   simp only[gr,bI] at e
   simp only[MS,gi,xh,ih e.2,MQ hln v e.1]
 have e2:∀st:List (Nat×TO S),eL h' st=false→ca (s.move h h').ln (EZ h h' st)=sw h h' (ca s.ln st):=by
  intro st
  induction st with
  | nil=>intro _;rfl
  | cons x r ih=>
   obtain⟨t,o⟩:=x
   intro e
   simp only[eL,bI] at e
   simp only[EZ,ca,sw,ih e.2]
   congr 2
   cases o with
   | aV e m f τ l=>rfl
   | deep e m f dk τ a=>rfl
   | box e' m cs=>
    show ap.mk _ _ _ _ _ (TV.er.go _ (zb.go h h' cs)) _=ap.mk _ _ _ _ _ (mL.go h h' (TV.er.go s.ln cs)) _
    rw[qR hln cs e.1];rfl
   | lp l n cs=>
    show ap.mk _ _ _ _ _ (TV.er.go _ (zb.go h h' cs)) _=ap.mk _ _ _ _ _ (mL.go h h' (TV.er.go s.ln cs)) _
    rw[qR hln cs e.1];rfl
 show St.mk (gi _ (MS h h' s.bZ++[])) (ca _ (EZ h h' s.bi++[])) (TV.er.go _ (zb.go h h' s.df))=_
 rw[cc,cc,e1 _ f2,e2 _ f3,qR hln s.df f4]
 rfl
def CP:List Nat→ah S→Option (ah S)
 | [],s=>some s
 | r::rs,s=>match s.free (r-520)&&!(Nat.beq (r-520) r) with
  | true=>CP rs (s.move r (r-520))
  | false=>none
theorem Bt {P:Program}{N:Nat}{cx:Cx}{c:Code}{Q:Exit→St→Prop}:∀{l:List Nat}{s t:ah S},a5 s→CP l s=some t→(a5 t→GW P N cx c Q t.er)→GW P N cx c Q s.er
 | [],s,t,hl,h,hk=>by cases h;exact hk hl
 | r::rs,s,t,hl,h,hk=>by
  simp only[CP] at h
  split at h
  ·rename_i hc
   simp only[aj,a8] at hc
   refine GW.move r (r-520) (gq hc.1) hc.2 ?_
   rw[←JE hc.1]
   exact Bt (gJ rfl) h hk
  ·cases h
end
end Go.DN
/-
 DN,part T:functions:what they hand back;contracts;calls that lend nothing.
-/
namespace Go.DN
open Go.AM
section
variable {S:eE}
def isNil {α:Type}:List α→Bool
 | []=>true
 | _=>false
def FP (P:Program) (t:ah S):ResultVar→Option (TV S)
 | .tmp d=>bg t.bZ d
 | .cell c ty=>match bg t.bZ c with
  | some (.loc h 0)=>match aw t.bi h with
   | some (.box _ _ vs)=>match Et P ty with
    | some true=>match decEq (kz P ty) (some vs.length) with
     | isTrue _=>some (.agg vs)
     | isFalse _=>none
    | some false=>match vs with
     | [v]=>some v
     | _=>none
    | none=>none
   | _=>none
  | _=>none
def Rx (D DO:List Nat) (t:ah S):ResultVar→Bool
 | .tmp d=>!(bw d D)
 | .cell c _=>!(bw c D)&&match bg t.bZ c with
  | some (.loc h _)=>!(bw h DO)
  | _=>false
def PC (P:Program) (t:ah S):List ResultVar→List (Nat×Sh)→List Nat
 | rv::r,(_,sh)::l=>(match FP P t rv with | some v=>K2 sh v | none=>[])++PC P t r l
 | _,_=>[]
def FT (P:Program) (D DO:List Nat) (t:ah S):List ResultVar→List (Nat×Sh)→Option (List (br S.α))
 | [],[]=>some []
 | rv::r,(_,sh)::l=>match Rx D DO t rv with
  | true=>match FP P t rv with
   | some v=>match kM sh v with
    | some xs=>match FT P D DO t r l with
     | some ys=>some (xs++ys)
     | none=>none
    | none=>none
   | none=>none
  | false=>none
 | _,_=>none
def QZ:Sh→List Sh
 | .agg l=>l
 | x=>[x]
def tH (a6:List (Nat×Oh)):List ResultVar→List (Nat×Sh)→ah S→Option (ah S)
 | .cell c _::r,(_,sh)::l,s=>match bg s.bZ c with
  | some (.loc h 0)=>match nZ a6 h 0 (QZ sh) s with
   | some s'=>tH a6 r l s'
   | none=>none
  | _=>tH a6 r l s
 | .tmp _::r,_::l,s=>tH a6 r l s
 | _,_,s=>some s
theorem tl {a6:List (Nat×Oh)}:∀{rvs:List ResultVar}{l:List (Nat×Sh)}{s t:ah S},a5 s→tH a6 rvs l s=some t→Gh s.er t.er∧a5 t∧bF s t
 | .cell c _::r,(_,sh)::l,s,t,hl,h=>by
  simp only[tH] at h
  split at h
  ·split at h
   ·rename_i s' hs
    obtain⟨a1,a2,a3⟩:=eS hl hs
    obtain⟨b1,b2,b3⟩:=tl (rvs:=r) a2 h
    exact⟨a1.trans b1,b2,a3.trans b3⟩
   ·cases h
  ·exact tl (rvs:=r) hl h
 | .tmp _::r,_::l,s,t,hl,h=>tl (rvs:=r) (l:=l) hl h
 | [],_,s,t,hl,h=>by cases h;exact⟨Gh.refl _,hl,bF.refl s⟩
 | .cell _ _::_,[],s,t,hl,h=>by cases h;exact⟨Gh.refl _,hl,bF.refl s⟩
 | .tmp _::_,[],s,t,hl,h=>by cases h;exact⟨Gh.refl _,hl,bF.refl s⟩
def IZ (rvs:List ResultVar) (aA:List (Nat×Sh)) (a6:List (Nat×Oh)) (s:ah S):Option (ah S):=match tH a6 rvs aA s with
 | some s'=>Dw aA a6 s'
 | none=>none
theorem NK {rvs:List ResultVar}{aA:List (Nat×Sh)}{a6:List (Nat×Oh)}{s t:ah S}(hl:a5 s) (h:IZ rvs aA a6 s=some t):Gh s.er t.er∧a5 t∧bF s t:=by
 unfold IZ at h
 split at h
 ·rename_i s' hs
  obtain⟨a1,a2,a3⟩:=tl hl hs
  obtain⟨b1,b2,b3⟩:=Fx a2 h
  exact⟨a1.trans b1,b2,a3.trans b3⟩
 ·cases h
def Ej (P:Program) (t:ah S) (rvs:List ResultVar) (aA:List (Nat×Sh)) (outs:List (Nat×Oh)):Option (bl S.α (JH.dl ⟨aA,outs⟩)):=
 match IZ rvs aA outs t with
 | some t1=>match p9 (PC P t1 rvs aA++CN t1.bi outs) t1 with
  | some t2=>match isNil t2.df&&within (mU aA++pt outs) (aG outs) with
   | true=>match FT P (ry (aG outs) t2.bZ) (aG outs++ru (aG outs) t2.bi) t2 rvs aA with
    | some xs=>match w8 t2.bi outs with
     | some ys=>lG (JH.dl ⟨aA,outs⟩) (xs++ys)
     | none=>none
    | none=>none
   | false=>none
  | none=>none
 | none=>none
theorem vB.rw {P:Program}{s:St}{rv:ResultVar}{g g':G}(h:vB P s rv g) (hw:RW g g'):vB P s rv g':=fun N cx μ a w hr=>by
 obtain⟨v,h1,h2⟩:=h N cx μ a w hr
 exact⟨v,hw _ _ _ _ _ h1,h2⟩
theorem DZ {ks:List Nat}:∀{fr:List (Nat×TV S)}{d:Nat}{v:TV S},bg fr d=some v→bw d (ry ks fr)=false→v.bad ks=false
 | [],_,_,h,_=>by cases h
 | (t,w)::r,d,v,h,hm=>by
  simp only[bg] at h
  simp only[ry] at hm
  cases hb:Nat.beq t d with
  | true=>
   rw[hb] at h;cases h
   have e:=aa hb
   subst e
   cases hv:w.bad ks with
   | false=>rfl
   | true=>rw[hv] at hm;rw[bQ.2 au] at hm;cases hm
  | false=>
   rw[hb] at h
   refine DZ h ?_
   cases hw:w.bad ks with
   | false=>rw[hw] at hm;exact hm
   | true=>
    rw[hw] at hm
    cases hx:bw d (ry ks r) with
    | false=>rfl
    | true=>rw[bQ.2 (ao _ (bQ.1 hx))] at hm;cases hm
theorem DY {ks:List Nat}:∀{st:List (Nat×TO S)}{d:Nat}{o:TO S},aw st d=some o→bw d (ru ks st)=false→o.bad ks=false
 | [],_,_,h,_=>by cases h
 | (t,w)::r,d,v,h,hm=>by
  simp only[aw] at h
  simp only[ru] at hm
  cases hb:Nat.beq t d with
  | true=>
   rw[hb] at h;cases h
   have e:=aa hb
   subst e
   cases hv:w.bad ks with
   | false=>rfl
   | true=>rw[hv] at hm;rw[bQ.2 au] at hm;cases hm
  | false=>
   rw[hb] at h
   refine DY h ?_
   cases hw:w.bad ks with
   | false=>rw[hw] at hm;exact hm
   | true=>
    rw[hw] at hm
    cases hx:bw d (ru ks r) with
    | false=>rfl
    | true=>rw[bQ.2 (ao _ (bQ.1 hx))] at hm;cases hm
theorem HC {x:Nat}{a b:List Nat}(h:bw x (a++b)=false):bw x a=false∧bw x b=false:=by
 constructor
 ·cases h1:bw x a with
  | false=>rfl
  | true=>rw[bQ.2 (bV _ (bQ.1 h1))] at h;cases h
 ·cases h1:bw x b with
  | false=>rfl
  | true=>rw[bQ.2 (cF _ (bQ.1 h1))] at h;cases h
theorem Hg {P:Program}{D DO:List Nat}{t u:ah S}(hu:∀d v,bw d D=false→bg t.bZ d=some v→AM.get u.er.fr d=some (v.er t.ln)) (ho:∀h e m cs,bw h DO=false→aw t.bi h=some (.box e m cs)→aq u.er.st h=some ((TO.box e m cs).er t.ln)):
  ∀{rvs:List ResultVar}{aA:List (Nat×Sh)}{xs:List (br S.α)},FT P D DO t rvs aA=some xs→∀(r:List (br S.α)),(cy aA (xs++r)).2=r∧zR P u.er rvs (((cy aA (xs++r)).1.map (·.2)).map (TV.er t.ln))
 | [],[],xs,h,r=>by cases h;exact⟨rfl,trivial⟩
 | rv::rvs,(d,sh)::l,xs,h,r=>by
  simp only[FT] at h
  split at h
  ·rename_i hok
   split at h
   ·rename_i v hv
    split at h
    ·rename_i xs1 hx
     split at h
     ·rename_i ys hy
      cases h
      obtain⟨i1,i2⟩:=Hg hu ho hy r
      obtain⟨p1,p2⟩:=Bm t.ln hx (ys++r)
      rw[aC]
      simp only[cy]
      rw[p1]
      refine⟨i1,vB.rw ?_ p2,i2⟩
      cases rv with
      | tmp d'=>
       simp only[Rx,a8] at hok
       exact vB.tmp (hu d' v hok hv)
      | cell c ty=>
       simp only[Rx,aj,a8] at hok
       simp only[FP] at hv
       split at hv
       ·rename_i h' hc
        rw[hc] at hok
        have hc':AM.get u.er.fr c=some (.loc h' 0):=hu c _ hok.1 hc
        split at hv
        ·rename_i e m vs hb
         have hb':=ho h' e m vs (by simpa using hok.2) hb
         split at hv
         ·rename_i ha
          split at hv
          ·rename_i hs _
           cases hv
           have hl:(TV.er.go t.ln vs).length=vs.length:=by rw[cU,aW]
           have:=vB.Q0 (P:=P) (t:=ty) hc' hb' rfl (gN ha) (dA hs) (by show 0+vs.length≤(TV.er.go t.ln vs).length;omega)
           have e3:(((TO.box e m vs:TO S).er t.ln).cells.drop 0).take vs.length=TV.er.go t.ln vs:=by
            show((TV.er.go t.ln vs).drop 0).take vs.length=_
            rw[eH,b8 (by omega)]
           rw[e3] at this
           exact this
          ·cases hv
         ·rename_i ha
          split at hv
          ·cases hv
           exact vB.cell (P:=P) (t:=ty) hc' hb' rfl (gN ha) (by cases hq:v.er t.ln <;> simp[ap.out,TO.er,hq])
          ·cases hv
         ·cases hv
        ·cases hv
       ·cases hv
     ·cases h
    ·cases h
   ·cases h
  ·cases h
 | [],_::_,_,h,_=>by cases h
 | _::_,[],_,h,_=>by cases h
theorem A0 (ks:List Nat):∀(l:List (Nat×Sh)) (ls:List (br S.α)),(∀k,k∈mU l→k∈ks)→∀d v,(d,v)∈(cy l ls).1→v.bad ks=false
 | [],ls,_,d,v,h=>by cases h
 | (d0,sh)::r,ls,hk,d,v,h=>by
  simp only[cy] at h
  rcases aZ.1 h with e | h
  ·cases e;exact xE ks sh ls fun k hk'=>hk k (bV _ hk')
  ·exact A0 ks r _ (fun k hk'=>hk k (cF _ hk')) d v h
theorem J8 {P:Program}{t:ah S}{rvs:List ResultVar}{aA:List (Nat×Sh)}{outs:List (Nat×Oh)}{q:bl S.α (JH.dl ⟨aA,outs⟩)}(hl:a5 t) (h:Ej P t rvs aA outs=some q):
  ∃u:ah S,Gh t.er u.er∧u.er.df=[]∧zR P u.er rvs (((cy aA (leaves _ q)).1.map (·.2)).map (TV.er (b6 (cd outs (cy aA (leaves _ q)).2).1)))∧
   ∃O',u.bi=(cd outs (cy aA (leaves _ q)).2).1++O'∧(∀k,k∈aG outs→u.ln k=b6 (cd outs (cy aA (leaves _ q)).2).1 k)∧∀k,k∈pt outs→k∈aG outs:=by
 unfold Ej at h
 split at h
 ·rename_i t1 hp1
  obtain⟨a1,a2,a3⟩:=NK hl hp1
  split at h
  ·rename_i t2 hp2
   obtain⟨b1,b2,b3⟩:=lW a2 hp2
   split at h
   ·rename_i hc
    simp only[aj] at hc
    obtain⟨c1,c2⟩:=hc
    have c2:=mj c2
    split at h
    ·rename_i xs hx
     split at h
     ·rename_i ys hy
      have hq:=gd h
      have hdf:t2.df=[]:=by
       cases hd:t2.df with
       | nil=>rfl
       | cons x r=>rw[hd] at c1;cases c1
      let O':=cf (aG outs++ru (aG outs) t2.bi) t2.bi
      let F':=cf (ry (aG outs) t2.bZ) t2.bZ
      let u:ah S:={fr:=F',lo:=[],st:=(cd outs ys).1++O',bO:=[],df:=[],nx:=0,last:=[]}
      have eu:u.bi=(cd outs ys).1++O':=cc _
      have ef:u.bZ=F':=cc _
      have hks:∀k,k∈aG outs→t2.ln k=u.ln k∧u.ln k=b6 (cd outs ys).1 k:=by
       intro k hk
       obtain⟨o,o',e1,e2,e3⟩:=yY hy k hk
       have e4:u.ln k=b6 (cd outs ys).1 k:=by
        show b6 u.bi k=_
        rw[eu];unfold b6;rw[di,e1]
       refine⟨?_,e4⟩
       rw[e4]
       show b6 t2.bi k=_
       unfold b6;rw[e1,e2];exact e3.symm
      have hg:Gh t2.er u.er:=told (aA:=[]) (xs:=[]) (ks:=aG outs) (O':=O') (F':=F') rfl hy ef eu
       (fun d v hv=>by
        have hv:bg (cf (ry (aG outs) t2.bZ) t2.bZ) d=some v:=hv
        rw[jN] at hv
        split at hv
        ·cases hv
        ·rename_i hm;exact⟨hv,DZ hv hm⟩)
       (fun d o ho=>by
        have ho:aw (cf (aG outs++ru (aG outs) t2.bi) t2.bi) d=some o:=ho
        rw[jc] at ho
        split at ho
        ·cases ho
        ·rename_i hm;exact⟨ho,DY ho (HC hm).2⟩)
       (fun k hk=>(hks k hk).1) (fun k hk=>by cases hk) (fun k hk=>c2 k (cF _ hk)) hdf.symm (by rw[hdf];rfl)
      obtain⟨r1,r2⟩:=Hg (P:=P) (u:=u) (t:=t2) (fun d v hm hv=>by
        have e:bg u.bZ d=some v:=by rw[ef];show bg (cf _ t2.bZ) d=_;rw[jN,hm];exact hv
        rw[show AM.get u.er.fr d=_ from fh e]
        rw[lu (fun k hk=>(hks k hk).1) v (DZ hv hm)])
       (fun k e m cs hm ho=>by
        obtain⟨m1,m2⟩:=HC hm
        have hout:aw (cd outs ys).1 k=none:=by
         cases hh:aw (cd outs ys).1 k with
         | none=>rfl
         | some o=>
          have:k∈aG (cd outs ys).1:=rZ hh
          rw[jP] at this
          rw[bQ.2 this] at m1;cases m1
        have e2:aw u.bi k=some (.box e m cs):=by
         rw[eu,di,hout]
         show aw (cf _ t2.bi) k=_
         rw[jc,hm];exact ho
        rw[show aq u.er.st k=_ from fM e2]
        exact congrArg some (TO.lu (fun k hk=>(hks k hk).1) _ (DY ho m2)).symm) hx ys
      refine⟨u,a1.trans (b1.trans hg),rfl,?_,O',?_,?_⟩
      ·rw[hq,r1]
       have:∀(l:List (Nat×TV S)),(∀d v,(d,v)∈l→v.bad (aG outs)=false)→(l.map (·.2)).map (TV.er (b6 (cd outs ys).1))=(l.map (·.2)).map (TV.er t2.ln):=by
        intro l hl
        induction l with
        | nil=>rfl
        | cons x r ih=>
         simp only[aJ]
         rw[ih fun d v hm=>hl d v (ao _ hm),lu (fun k hk=>((hks k hk).1.trans (hks k hk).2).symm) x.2 (hl x.1 x.2 au)]
       rw[this _ (A0 (aG outs) aA _ fun k hk=>c2 k (bV _ hk))]
       exact r2
      ·rw[hq,r1];exact eu
      ·rw[hq,r1];exact⟨fun k hk=>(hks k hk).2,fun k hk=>c2 k (cF _ hk)⟩
     ·cases h
    ·cases h
   ·cases h
  ·cases h
 ·cases h
def mr {α:Type}:List α→Nat→List (Nat×α)
 | [],_=>[]
 | x::r,j=>(j,x)::mr r (j+1)
def eW (args:List Sh) (a6:List Oh) (ls:List (br S.α)):ah S:={fr:=mr (cZ args ls).1 0,lo:=[],st:=(cd (mr a6 1000) (cZ args ls).2).1,bO:=[],df:=[],nx:=300,last:=[]}
def kj (args:List Sh) (a6:List Oh):List Ty:=wY args++CL (mr a6 1000)
theorem C9 (ln:Nat→Nat):∀(args:List (TV S)) (j:Nat),gi ln (mr args j)=nR (TV.er.go ln args) j
 | [],_=>rfl
 | x::r,j=>by simp only[mr,gi,TV.er.go,nR,C9 ln r (j+1)]
def lL (aA:List (Nat×Sh)) (ls:List (br S.α)):TV S:=match (cy aA ls).1 with
 | [(_,v)]=>v
 | l=>.bl (l.map (·.2))
def su (P:Program):List ResultVar→List (Nat×Sh)→ah S→ah S
 | rv::r,(_,.own h _)::l,s=>match FP P s rv with
  | some (.aR h' _)=>match Nat.beq h h' with
   | true=>su P r l s
   | false=>match (rH s h).free h with
    | true=>su P r l ((rH s h).move h' h)
    | false=>su P r l s
  | _=>su P r l s
 | _::r,_::l,s=>su P r l s
 | _,_,s=>s
def Gw (s t:St):Prop:=∀(N:Nat) (cx:Cx) (μ:Mu) (a:Act) (w:World),Rel N cx μ s a w→∃μ',Rel N cx μ' t a w
theorem Gh.w {s t:St}(h:Gh s t):Gw s t:=fun N cx μ a w hr=>let ⟨μ',h1,_⟩:=h N cx μ a w hr;⟨μ',h1⟩
theorem Gw.trans {a b c:St}(h:Gw a b) (h':Gw b c):Gw a c:=fun N cx μ ac w hr=>let ⟨μ1,h1⟩:=h N cx μ ac w hr;h' N cx μ1 ac w h1
theorem gM {P:Program}:∀{rvs:List ResultVar}{l:List (Nat×Sh)}{s:ah S},a5 s→Gw s.er (su P rvs l s).er∧a5 (su P rvs l s)
 | rv::r,(_,.own h _)::l,s,hl=>by
  simp only[su]
  split
  ·rename_i h' _ _
   cases hb:Nat.beq h h' with
   | true=>exact gM hl
   | false=>
    dsimp only
    split
    ·rename_i hf
     obtain⟨a1,a2,_⟩:=Ib h hl
     obtain⟨b1,b2⟩:=gM (P:=P) (rvs:=r) (l:=l) (s:=(rH s h).move h' h) (gJ rfl)
     refine⟨a1.w.trans (Gw.trans (fun N cx μ a w hr=>?_) b1),b2⟩
     rw[JE hf]
     exact⟨_,hr.move h' h (gq hf) hb⟩
    ·exact gM hl
  ·exact gM hl
 | [],_,s,hl=>by simp only[su];exact⟨(Gh.refl _).w,hl⟩
 | _::_,[],s,hl=>by simp only[su];exact⟨(Gh.refl _).w,hl⟩
 | _::r,(_,.ab _ _)::l,s,hl=>gM (rvs:=r) (l:=l) hl
 | _::r,(_,.ptr _ _)::l,s,hl=>gM (rvs:=r) (l:=l) hl
 | _::r,(_,.loc _ _)::l,s,hl=>gM (rvs:=r) (l:=l) hl
 | _::r,(_,.aF _ _)::l,s,hl=>gM (rvs:=r) (l:=l) hl
 | _::r,(_,.agg _)::l,s,hl=>gM (rvs:=r) (l:=l) hl
 | _::r,(_,.ct _)::l,s,hl=>gM (rvs:=r) (l:=l) hl
 | _::r,(_,.mp _)::l,s,hl=>gM (rvs:=r) (l:=l) hl
 | _::r,(_,.fD _ _)::l,s,hl=>gM (rvs:=r) (l:=l) hl
 | _::r,(_,.ks _ _)::l,s,hl=>gM (rvs:=r) (l:=l) hl
 | _::r,(_,.any)::l,s,hl=>gM (rvs:=r) (l:=l) hl
 | _::r,(_,.lZ)::l,s,hl=>gM (rvs:=r) (l:=l) hl
 | _::r,(_,.sub _ _)::l,s,hl=>gM (rvs:=r) (l:=l) hl
theorem GW.Qh {P:Program}{N:Nat}{cx:Cx}{c:Code}{Q Q':Exit→St→Prop}{s:St}(h:GW P N cx c Q' s) (hq:∀e s,Q' e s→∃t,Gw s t∧Q e t):GW P N cx c Q s:=fun μ a w hr=>
 wpIn_mono (h μ a w hr) fun e a' w' hl=>by
  cases e with
  | outgrown=>exact hl.elim
  | _=>
   obtain⟨μ',s',hr',h4⟩:=hl
   obtain⟨t,h5,h6⟩:=hq _ _ h4
   obtain⟨μ2,h7⟩:=h5 N cx μ' a' w' hr'
   exact⟨μ2,t,h7,h6⟩
noncomputable def Iz (P:Program) (N fu:Nat) (H:List (Nat×mA)) (cl:Cl S) (c:Code) (mvs:List Nat) (rvs:List ResultVar) (args:List Sh) (a6:List Oh) (aA:List (Nat×Sh)) (outs:List (Nat×Oh)) (q:bl S.α (kj args a6)):Option (bl S.α (JH.dl ⟨aA,outs⟩)):=
 match CP mvs (eW args a6 (leaves _ q)) with
 | some s=>gI P N fu H cl c 0 s _ fun e t=>match e with
  | .ret=>Ej P (su P rvs aA t) rvs aA outs
  | .normal=>Ej P (su P rvs aA t) rvs aA outs
  | _=>none
 | none=>none
theorem JW (st st':List (Nat×ap)) (f:Bool){τ:Ty}(h:τ.fP=false) (a:S.D τ):iZ st st' (dw f (dC S τ a))=some (dw f (dC S τ a)):=by
 cases τ with
 | st n=>cases h
 | _=>cases f <;> rfl
theorem RR (st st':List (Nat×ap)) (f:Bool) (τ:Ty) (a:S.D τ):iZ st st' (nq f τ a)=some (nq f τ a):=by
 cases τ with
 | st n=>
  show(iZ.go st st' ((aN S (.st n) a).map (dw f))).map G.agg=_
  have:iZ.go st st' ((aN S (.st n) a).map (dw f))=some ((aN S (.st n) a).map (dw f)):=by
   rw[gv]
   have h:=jU n a
   generalize S.cells n a=l at h
   induction l with
   | nil=>rfl
   | cons x r ih=>
    simp only[aJ,iZ.go]
    rw[JW st st' f (h x au) x.a,ih fun y hy=>h y (ao _ hy)]
  rw[this];rfl
 | _=>exact JW st st' f rfl a
theorem Bb {ln:Nat→Nat}{st:List (Nat×ap)}:∀{l:List (Nat×TO S)},(∀j o,(j,o)∈l→aq st j=some (o.er ln))→kr st (ca ln l)
 | [],_=>trivial
 | (j,o)::r,h=>⟨h j o au,Bb fun j o hm=>h j o (ao _ hm)⟩
def TV.still (ks:List Nat):TV S→Bool
 | .ab _ _ _=>true
 | .ptr _ _ _=>true
 | .loc h _=>bw h ks
 | .aR h _=>bw h ks
 | .sub h _ _ _=>bw h ks
 | .agg l=>go ks l
 | .bl l=>go ks l
 | .aF _ l=>go ks l
 | .val (.slice none 0 0)=>false
 | .val _=>true
 | .any=>true
 | .fD _ h _ _ _=>bw h ks
 | .ks h _ _ _=>bw h ks
 | .mp h=>bw h ks
 | _=>false
where go (ks:List Nat):List (TV S)→Bool
 | []=>true
 | x::r=>x.still ks&&go ks r
theorem yK {ln:Nat→Nat}{l:List (Nat×TO S)}{h:Nat}(hk:h∈aG l):∃k,aq (ca ln l) h=some k:=by
 obtain⟨o,ho⟩:=mZ hk
 exact⟨_,fM ho⟩
mutual
theorem GJ {ln lo:Nat→Nat}{st:List (Nat×ap)}{l:List (Nat×TO S)}:∀v:TV S,v.still (aG l)=true→iZ st (ca lo l) (v.er ln)=some (v.er ln)
 | .ab f τ a,_=>RR st _ f τ a
 | .ptr f τ a,_=>by cases f <;> rfl
 | .loc h o,e=>by
  obtain⟨k,hk⟩:=yK (ln:=lo) (bQ.1 e)
  simp only[TV.er,iZ,hk]
 | .aR h τ,e=>by
  obtain⟨k,hk⟩:=yK (ln:=lo) (bQ.1 e)
  simp only[TV.er,iZ,hk]
 | .agg vs,e=>by
  show(iZ.go st (ca lo l) (TV.er.go ln vs)).map G.agg=_
  rw[uK vs e];rfl
 | .bl vs,e=>by
  show(iZ.go st (ca lo l) (TV.er.go ln vs)).map G.bl=_
  rw[uK vs e];rfl
 | .aF f vs,e=>by
  show(iZ.go st (ca lo l) (TV.er.go ln vs)).map (G.aF f)=_
  rw[uK vs e];rfl
 | .val u,e=>by
  have key:Ab u=.val u:=by
   unfold TV.still at e
   unfold Ab
   split
   ·cases e
   ·rfl
  show some (Ab u)=some (.val u)
  rw[key]
 | .any,_=>rfl
 | .sub h τ o n,e=>by
  obtain⟨k,hk⟩:=yK (ln:=lo) (bQ.1 e)
  simp only[TV.er,iZ,hk]
 | .gK _ _ _ _,e=>by cases e
 | .ct _,e=>by cases e
 | .mp _,_=>rfl
 | .ks _ _ _ _,_=>rfl
 | .kp _ _ _ _,e=>by cases e
 | .fD b _ _ _ _,e=>by cases b <;> rfl
theorem uK {ln lo:Nat→Nat}{st:List (Nat×ap)}{l:List (Nat×TO S)}:∀vs:List (TV S),TV.still.go (aG l) vs=true→iZ.go st (ca lo l) (TV.er.go ln vs)=some (TV.er.go ln vs)
 | [],_=>rfl
 | x::r,e=>by
  simp only[TV.still.go,aj] at e
  simp only[TV.er.go,iZ.go,GJ x e.1,uK r e.2]
end
mutual
def Sh.still (ks:List Nat):Sh→Bool
 | .ab _ _=>true
 | .ptr _ _=>true
 | .own h _=>bw h ks
 | .loc h _=>bw h ks
 | .aF _ l=>vS ks l
 | .agg l=>vS ks l
 | .ct _=>false
 | .mp h=>bw h ks
 | .fD h _=>bw h ks
 | .ks h _=>bw h ks
 | .any=>true
 | .lZ=>true
 | .sub h _=>bw h ks
def vS (ks:List Nat):List Sh→Bool
 | []=>true
 | x::r=>x.still ks&&vS ks r
end
def rP (ks:List Nat):List (Nat×Sh)→Bool
 | []=>true
 | (_,x)::r=>x.still ks&&rP ks r
mutual
theorem AY (ks:List Nat):∀(sh:Sh) (ls:List (br S.α)),sh.still ks=true→(ir sh ls).1.still ks=true
 | .ab f τ,ls,_=>by cases ls <;> rfl
 | .ptr f τ,ls,_=>by cases ls <;> rfl
 | .own k τ,ls,h=>h
 | .loc _ _,ls,h=>h
 | .aF f l,ls,h=>vH ks l ls h
 | .agg l,ls,h=>vH ks l ls h
 | .ct _,ls,h=>by cases h
 | .mp _,ls,h=>h
 | .ks _ _,ls,h=>by
  simp only[ir]
  split
  ·exact h
  ·rfl
 | .fD _ _,ls,h=>by
  simp only[ir]
  split
  ·exact h
  ·rfl
 | .any,ls,_=>rfl
 | .lZ,ls,_=>by
  simp only[ir]
  split <;> rfl
 | .sub _ _,ls,h=>by
  simp only[ir]
  split
  ·exact h
  ·rfl
theorem vH (ks:List Nat):∀(l:List Sh) (ls:List (br S.α)),vS ks l=true→TV.still.go ks (cZ l ls).1=true
 | [],_,_=>rfl
 | sh::r,ls,h=>by
  simp only[vS,aj] at h
  simp only[cZ,TV.still.go,AY ks sh ls h.1,vH ks r _ h.2,fK]
end
theorem AZ (ks:List Nat):∀(l:List (Nat×Sh)) (ls:List (br S.α)),rP ks l=true→TV.still.go ks ((cy l ls).1.map (·.2))=true
 | [],_,_=>rfl
 | (d,sh)::r,ls,h=>by
  simp only[rP,aj] at h
  simp only[cy,aJ,TV.still.go,AY ks sh ls h.1,AZ ks r _ h.2,fK]
theorem KX {ks:List Nat}{aA:List (Nat×Sh)}(ls:List (br S.α)) (h:rP ks aA=true):(lL aA ls).still ks=true:=by
 have:=AZ ks aA ls h
 unfold lL
 generalize (cy aA ls).1=l at this
 match l with
 | []=>rfl
 | [(_,v)]=>simpa[TV.still.go] using this
 | (_,v)::(_,v')::r=>exact this
def MO:List Nat→Bool
 | []=>true
 | x::r=>!(bw x r)&&MO r
theorem D0:∀{l:List (Nat×TO S)},MO (aG l)=true→∀j o,(j,o)∈l→aw l j=some o
 | [],_,_,_,h=>by cases h
 | (k,x)::r,hn,j,o,hm=>by
  simp only[aG,MO,aj,a8] at hn
  rcases aZ.1 hm with e | hm
  ·cases e;simp only[aw,aI,cond_true]
  ·have ih:=D0 hn.2 j o hm
   rw[ju _ _ fun e=>?_]
   ·exact ih
   ·subst e
    have:=bQ.2 (rZ ih)
    rw[hn.1] at this;cases this
theorem CU:∀(ts:List Ty) (q:bl S.α ts),(leaves ts q).length=ts.length
 | [],_=>rfl
 | [_],_=>rfl
 | _::u::r,q=>by simp only[leaves,bA,CU (u::r) q.2]
theorem wa (ln:Nat→Nat) (aA:List (Nat×Sh)) (ls:List (br S.α)):pack (((cy aA ls).1.map (·.2)).map (TV.er ln))=(lL aA ls).er ln:=by
 unfold lL
 generalize (cy aA ls).1=l
 match l with
 | []=>rfl
 | [(_,v)]=>rfl
 | (_,v)::(_,v')::r=>
  simp only[aJ,pack,TV.er,cU]
def tL (N:Nat) (args:List Sh) (aA:List (Nat×Sh)) (outs:List (Nat×Oh)):Bool:=
 Nat.ble args.length N&&(rP (aG outs) aA&&MO (aG outs))
theorem zt:∀(l:List Sh) (ls:List (br S.α)),(cZ l ls).1.length=l.length
 | [],_=>rfl
 | x::r,ls=>by simp only[cZ,bA,zt r]
def SU (aA:List (Nat×Sh)) (outs:List (Nat×Oh)) (r:bl S.α (JH.dl ⟨aA,outs⟩)) (g:G) (st:List (Nat×ap)):Prop:=
 g=(lL aA (leaves _ r)).er (b6 (cd outs (cy aA (leaves _ r)).2).1)∧st=ca (b6 (cd outs (cy aA (leaves _ r)).2).1) (cd outs (cy aA (leaves _ r)).2).1
theorem QV {P:Program}{N fu:Nat}{H:List (Nat×mA)}{cl:Cl S}(hm:P.follows .mixedOrders=true) (hcl:Ax P N cl)
  {f:FuncId}{fn:Func}{c:Code}{args:List Sh}{a6:List Oh}{aA:List (Nat×Sh)}{outs:List (Nat×Oh)}{q:bl S.α (kj args a6)}{r:bl S.α (JH.dl ⟨aA,outs⟩)}(hf:P.funcs[f]?=some fn) (hb:fn.body=some c) (hN:fn.ntmps=N)
  (hr:tL N args aA outs=true) (hrg:oN S N H (lK c 0)){mvs:List Nat}(h:Iz P N fu H cl c mvs fn.results.toList args a6 aA outs q=some r):
  GM P f (TV.er.go (eW args a6 (leaves _ q)).ln (cZ args (leaves _ q)).1) (eW args a6 (leaves _ q)).er.st (SU aA outs r):=by
 simp only[tL,aj] at hr
 obtain⟨hle,hr3,hr4⟩:=hr
 refine GM.of hf hb hN (by rw[cU,aW,zt];exact hle) fun cx hro=>?_
 have e0:(⟨nR (TV.er.go (eW args a6 (leaves _ q)).ln (cZ args (leaves _ q)).1) 0,(eW args a6 (leaves _ q)).er.st,[]⟩:St)=(eW args a6 (leaves _ q)).er:=by
  rw[←C9]
  show St.mk _ _ _=St.mk (gi _ (mr (cZ args (leaves _ q)).1 0++[])) _ _
  rw[cc];rfl
 rw[e0]
 unfold Iz at h
 split at h
 rotate_left
 ·cases h
 rename_i s0 hmv
 refine Bt (gJ rfl) hmv fun hl0=>?_
 refine GW.Qh (Q':=fun e s'=>(e=.ret∨e=.normal)∧∃t:ah S,Gw s' t.er∧a5 t∧Ej P t fn.results.toList aA outs=some r) (jy hm hcl c 0 hrg (.inr hro) _ _ _ r hl0 h _ fun e t hlt hk hK=>?_) fun e s' hq=>?_
 ·split at hK
  ·obtain⟨g1,g2⟩:=gM (P:=P) (rvs:=fn.results.toList) (l:=aA) hlt
   exact⟨.inl rfl,_,g1,g2,hK⟩
  ·obtain⟨g1,g2⟩:=gM (P:=P) (rvs:=fn.results.toList) (l:=aA) hlt
   exact⟨.inr rfl,_,g1,g2,hK⟩
  ·cases hK
 ·obtain⟨he,t,hg0,hlt,hE⟩:=hq
  obtain⟨u,hg,hdf,r1,O',eu,hln,hown⟩:=J8 hlt hE
  refine⟨_,hg0.trans hg.w,?_⟩
  have hk:aG (cd outs (cy aA (leaves (JH.dl ⟨aA,outs⟩) r)).2).1=aG outs:=jP _ _
  refine Eu.mk he _ ((lL aA (leaves _ r)).er (b6 (cd outs (cy aA (leaves _ r)).2).1)) _ r1 (Bb (ln:=b6 (cd outs (cy aA (leaves _ r)).2).1) (l:=(cd outs (cy aA (leaves _ r)).2).1) fun j o hm=>?_) ?_ ⟨rfl,rfl⟩ hdf
  ·have e1:aw (cd outs (cy aA (leaves _ r)).2).1 j=some o:=D0 (by rw[hk];exact hr4) j o hm
   have e2:aw u.bi j=some o:=by rw[eu,di,e1]
   rw[show aq u.er.st j=_ from fM e2]
   have hj:o.er u.ln=o.er (b6 (cd outs (cy aA (leaves _ r)).2).1):=TO.lu hln o (ta (aG outs) outs _ hown j o e1)
   rw[hj]
  ·rw[wa]
   refine GJ _ ?_
   rw[hk]
   exact KX _ hr3
end
end Go.DN
/-
 DN,part U:calls that lend nothing.
-/
namespace Go.DN
open Go.AM
section
variable {S:eE}
def wS (s:ah S) (τ:Ty):TV S→Option (S.D τ)
 | .ab _ τ' a=>match τ'.fP with
  | true=>none
  | false=>iw τ' τ a
 | .val (.slice none 0 0)=>match τ with
  | .list _=>some []
  | _=>none
 | .aR h τ2=>match aw s.bi h with
  | some (.aV _ _ _ τ' l)=>match decEq τ' τ2 with
   | isTrue _=>iw (.list τ') τ l
   | isFalse _=>none
  | _=>none
 | _=>none
def Ci (s:ah S):List Ty→List (TV S)→Option (List (br S.α))
 | [],[]=>some []
 | τ::ts,v::vs=>match wS s τ v with
  | some a=>match Ci s ts vs with
   | some l=>some (⟨τ,a⟩::l)
   | none=>none
  | none=>none
 | _,_=>none
def Kv (s:ah S) (τ:Ty) (v:TV S):Option (S.D τ):=
 match v with
 | .ab _ τ' a=>iw τ' τ a
 | .agg vs=>match τ with
  | .st n=>match Ci s (S.dl n) vs with
   | some l=>S.put n l
   | none=>none
  | _=>none
 | v=>wS s τ v
def Kt (s:ah S) (τ:Ty) (v:TV S):Option (S.D τ):=
 match v with
 | .ptr _ τ' a=>iw τ' τ a
 | .loc h 0=>match aw s.bi h with
  | some (.box _ _ vs)=>match τ with
   | .st n=>match Ci s (S.dl n) vs with
    | some l=>S.put n l
    | none=>none
   | τ=>match vs with
    | [v]=>wS s τ v
    | _=>none
  | _=>none
 | _=>none
mutual
def fG (s:ah S):Sh→TV S→Option (List (br S.α))
 | .ab false τ,v=>match Kv s τ v with
  | some a=>some [⟨τ,a⟩]
  | none=>none
 | .ptr false τ,v=>match Kt s τ v with
  | some a=>some [⟨τ,a⟩]
  | none=>none
 | .aF f l,v=>match v with
  | .aF f' vs=>match Nat.beq f' f with
   | true=>jZ s l vs
   | false=>none
  | _=>none
 | _,_=>none
def jZ (s:ah S):List Sh→List (TV S)→Option (List (br S.α))
 | [],[]=>some []
 | x::r,v::vs=>match fG s x v with
  | some a=>match jZ s r vs with
   | some l=>some (a++l)
   | none=>none
  | none=>none
 | _,_=>none
end
theorem Ez (n:Nat) (st:List (Nat×ap)) (f:Bool){τ:Ty}(h:τ.fP=false) (a:S.D τ):view (n+1) st (dw f (dC S τ a))=some (dC S τ a):=by
 cases τ with
 | st n=>cases h
 | _=>cases f <;> rfl
theorem Ba {s:ah S}{τ:Ty}{v:TV S}{a:S.D τ}(n:Nat) (h:wS s τ v=some a):view (n+1) s.er.st (v.er s.ln)=some (dC S τ a)∧τ.fP=false:=by
 unfold wS at h
 split at h
 ·split at h
  ·cases h
  ·rename_i hs
   have:=ec h
   cases this
   refine⟨?_,hs⟩
   rw[nT hs]
   exact Ez n _ _ hs _
 ·split at h
  ·cases h;exact⟨rfl,rfl⟩
  ·cases h
 ·rename_i hh τ2
  split at h
  ·rename_i e m f τ' l ho
   split at h
   ·rename_i e1 _
    subst e1
    have:=ec h
    cases this
    refine⟨?_,rfl⟩
    show view (n+1) s.er.st (.aR hh (S.sz τ') 0 (s.ln hh))=_
    simp only[view,cQ ho,TO.er]
    rw[mf ho,eH,b8 (by rw[eR];exact az _)]
    rfl
   ·cases h
  ·cases h
 ·cases h
theorem A9 {s:ah S}(n:Nat):∀{ts:List Ty}{vs:List (TV S)}{l:List (br S.α)},Ci s ts vs=some l→dY (view (n+1) s.er.st) (TV.er.go s.ln vs)=some (l.map fun x=>dC S x.τ x.a)
 | [],[],_,h=>by cases h;rfl
 | τ::ts,v::vs,l,h=>by
  simp only[Ci] at h
  split at h
  ·rename_i a ha
   split at h
   ·rename_i l' hl
    cases h
    simp only[TV.er.go,dY,(Ba n ha).1,A9 n hl,aJ]
   ·cases h
  ·cases h
 | [],_::_,_,h=>by cases h
 | _::_,[],_,h=>by cases h
theorem Gf {n:Nat}{st:List (Nat×ap)}{gs gs':List G}(h:dY (view n st) gs=some gs'):view (n+1) st (.agg gs)=some (.agg gs'):=by
 show(match dY (view n st) gs with | some gs'=>some (G.agg gs') | none=>none)=_
 rw[h]
theorem Ge {n:Nat}{st:List (Nat×ap)}{h:Nat}{k:ap}{gs':List G}(hk:aq st h=some k) (hlp:k.lp=none) (hp:k.pure=false) (hm:dY (view n st) k.cells=some gs'):view (n+1) st (.loc h 0)=some (.ptr gs'):=by
 show(match aq st h with
  | some k=>match k.lp with
   | some _=>none
   | none=>match k.pure with
    | true=>some (G.ptr (k.cells.drop 0))
    | false=>match dY (view n st) (k.cells.drop 0) with
     | some cs=>some (.ptr cs)
     | none=>none
  | none=>none)=_
 rw[hk]
 dsimp only
 rw[hlp]
 dsimp only
 rw[hp,eH]
 dsimp only
 rw[hm]
theorem Gi {s:ah S}{τ:Ty}{v:TV S}{a:S.D τ}(n:Nat) (h:Kv s τ v=some a) (ln:Nat→Nat):view (n+2) s.er.st (v.er s.ln)=some ((TV.ab false τ a:TV S).er ln):=by
 have one:wS s τ v=some a→view (n+2) s.er.st (v.er s.ln)=some ((TV.ab false τ a:TV S).er ln):=by
  intro h
  obtain⟨h1,h2⟩:=Ba (n+1) h
  rw[h1,nT h2];rfl
 unfold Kv at h
 split at h
 ·rename_i f τ' a'
  have:=ec h
  cases this
  cases τ with
  | st k=>
   show view (n+2) s.er.st (.agg ((aN S (.st k) a).map (dw f)))=some (.agg ((aN S (.st k) a).map (dw false)))
   have key:dY (view (n+1) s.er.st) ((aN S (.st k) a).map (dw f))=some ((aN S (.st k) a).map (dw false)):=by
    rw[gv]
    have h:=jU k a
    generalize S.cells k a=l at h
    induction l with
    | nil=>rfl
    | cons x r ih=>
     simp only[aJ,dY]
     rw[Ez n _ f (h x au) x.a,ih fun y hy=>h y (ao _ hy)]
     rfl
   exact Gf key
  | _=>exact one (by unfold wS;exact h)
 ·rename_i vs
  split at h
  ·rename_i k
   split at h
   ·rename_i l hl
    have hp:=S.kI _ _ _ h
    show view (n+2) s.er.st (.agg (TV.er.go s.ln vs))=some (.agg ((aN S (.st k) a).map (dw false)))
    have e:(dw false)=(id:G→G):=rfl
    rw[e,List.map_id,gv,hp]
    exact Gf (A9 n hl)
   ·cases h
  ·cases h
 ·exact one h
theorem Gg {s:ah S}{τ:Ty}{v:TV S}{a:S.D τ}(n:Nat) (h:Kt s τ v=some a) (ln:Nat→Nat):view (n+2) s.er.st (v.er s.ln)=some ((TV.ptr false τ a:TV S).er ln):=by
 unfold Kt at h
 split at h
 ·rename_i f τ' a'
  have:=ec h
  cases this
  cases f <;> rfl
 ·rename_i hh
  split at h
  ·rename_i e m vs ho
   split at h
   ·rename_i k
    split at h
    ·rename_i l hl
     have hp:=S.kI _ _ _ h
     show view (n+2) s.er.st (.loc hh 0)=some (.ptr (aN S (.st k) a))
     rw[gv,hp]
     exact Ge (cQ ho) rfl rfl (A9 n hl)
    ·cases h
   ·split at h
    ·obtain⟨h1,h2⟩:=Ba n h
     show view (n+2) s.er.st (.loc hh 0)=some (.ptr (aN S τ a))
     rw[kg S h2]
     refine Ge (cQ ho) rfl rfl ?_
     simp only[TO.er,TV.er.go,dY,h1]
    ·cases h
  ·cases h
 ·cases h
theorem Gj {n:Nat}{st:List (Nat×ap)}{g g':G}(h:view (n+2) st g=some g'):rA (n+2) st g=some g':=by
 cases g with
 | aF f l=>simp[view] at h
 | _=>exact h
def Sh.flat:Sh→Bool
 | .aF _ _=>false
 | _=>true
def F2:List Sh→Bool
 | []=>true
 | x::r=>x.flat&&F2 r
def Ta:Sh→Bool
 | .aF _ l=>F2 l
 | _=>true
def CK:List Sh→Bool
 | []=>true
 | x::r=>Ta x&&CK r
theorem EA {s:ah S}(n:Nat) (ln:Nat→Nat):∀{l:List Sh}{vs:List (TV S)}{xs:List (br S.α)},F2 l=true→jZ s l vs=some xs→∀r,(cZ l (xs++r)).2=r∧dY (view (n+2) s.er.st) (TV.er.go s.ln vs)=some (TV.er.go ln (cZ l (xs++r)).1)
 | [],[],_,_,h,r=>by simp[jZ] at h;subst h;exact⟨rfl,rfl⟩
 | x::l,v::vs,xs,hf,h,r=>by
  simp only[F2,aj] at hf
  simp only[jZ] at h
  split at h
  ·rename_i a ha
   split at h
   ·rename_i l' hl
    cases h
    rw[aC]
    obtain⟨i1,i2⟩:=EA n ln hf.2 hl r
    cases x with
    | aF f l0=>cases hf.1
    | own _ _=>simp[fG] at ha
    | loc _ _=>simp[fG] at ha
    | agg _=>simp[fG] at ha
    | ct _=>simp[fG] at ha
    | mp _=>simp[fG] at ha
    | fD _ _=>simp[fG] at ha
    | ks _ _=>simp[fG] at ha
    | lZ=>simp[fG] at ha
    | sub _ _=>simp[fG] at ha
    | any=>simp[fG] at ha
    | ab f τ=>
     cases f with
     | true=>simp[fG] at ha
     | false=>
     simp only[fG] at ha
     split at ha
     ·rename_i b hb
      cases ha
      refine⟨i1,?_⟩
      simp only[TV.er.go,dY,Gi n hb ln,i2]
      rfl
     ·cases ha
    | ptr f τ=>
     cases f with
     | true=>simp[fG] at ha
     | false=>
     simp only[fG] at ha
     split at ha
     ·rename_i b hb
      cases ha
      refine⟨i1,?_⟩
      simp only[TV.er.go,dY,Gg n hb ln,i2]
      rfl
     ·cases ha
   ·cases h
  ·cases h
 | [],_::_,_,_,h,_=>by simp[jZ] at h
 | _::_,[],_,_,h,_=>by simp[jZ] at h
theorem uI {s:ah S}(n:Nat) (ln:Nat→Nat):∀{l:List Sh}{vs:List (TV S)}{xs:List (br S.α)},CK l=true→jZ s l vs=some xs→∀r,(cZ l (xs++r)).2=r∧dY (rA (n+2) s.er.st) (TV.er.go s.ln vs)=some (TV.er.go ln (cZ l (xs++r)).1)
 | [],[],_,_,h,r=>by simp[jZ] at h;subst h;exact⟨rfl,rfl⟩
 | x::l,v::vs,xs,hf,h,r=>by
  simp only[CK,aj] at hf
  simp only[jZ] at h
  split at h
  ·rename_i a ha
   split at h
   ·rename_i l' hl
    cases h
    rw[aC]
    obtain⟨i1,i2⟩:=uI n ln hf.2 hl r
    cases x with
    | own _ _=>simp[fG] at ha
    | loc _ _=>simp[fG] at ha
    | agg _=>simp[fG] at ha
    | ct _=>simp[fG] at ha
    | mp _=>simp[fG] at ha
    | fD _ _=>simp[fG] at ha
    | ks _ _=>simp[fG] at ha
    | lZ=>simp[fG] at ha
    | sub _ _=>simp[fG] at ha
    | any=>simp[fG] at ha
    | aF f l0=>
     simp only[fG] at ha
     split at ha
     ·rename_i f' vs'
      split at ha
      ·rename_i hb
       have e:=aa hb
       subst e
       obtain⟨j1,j2⟩:=EA n ln hf.1 ha (l'++r)
       simp only[cZ,ir]
       rw[j1]
       refine⟨i1,?_⟩
       simp only[TV.er.go,dY,i2]
       have hv:rA (n+2) s.er.st ((TV.aF f' vs':TV S).er s.ln)=some (.aF f' (TV.er.go ln (cZ l0 (a++(l'++r))).1)):=by
        show(match dY (view (n+2) s.er.st) (TV.er.go s.ln vs') with | some c=>some (G.aF f' c) | none=>none)=_
        rw[j2]
       rw[hv]
       rfl
      ·cases ha
     ·cases ha
    | ab f τ=>
     cases f with
     | true=>simp[fG] at ha
     | false=>
     simp only[fG] at ha
     split at ha
     ·rename_i b hb
      cases ha
      refine⟨i1,?_⟩
      simp only[TV.er.go,dY,Gj (Gi n hb ln),i2]
      rfl
     ·cases ha
    | ptr f τ=>
     cases f with
     | true=>simp[fG] at ha
     | false=>
     simp only[fG] at ha
     split at ha
     ·rename_i b hb
      cases ha
      refine⟨i1,?_⟩
      simp only[TV.er.go,dY,Gj (Gg n hb ln),i2]
      rfl
     ·cases ha
   ·cases h
  ·cases h
 | [],_::_,_,_,h,_=>by simp[jZ] at h
 | _::_,[],_,_,h,_=>by simp[jZ] at h
end
end Go.DN
/-
 DN,part V:contracts;calls by ew.
-/
namespace Go.DN
open Go.AM
structure cq (S:eE) where
 f:FuncId
 args:List Sh
 a6:List Oh
 vw:Bool
 aA:List (Nat×Sh)
 outs:List (Nat×Oh)
 F:bl S.α (kj args a6)→Option (bl S.α (JH.dl ⟨aA,outs⟩))
section
variable {S:eE}
structure aP (P:Program) (con:cq S):Prop where
 call:∀args w,(callFunc con.f args).run P w=.ok (.enter con.f args) w
 ok:∀q r,con.F q=some r→GM P con.f (TV.er.go (eW con.args con.a6 (leaves _ q)).ln (cZ con.args (leaves _ q)).1) (eW con.args con.a6 (leaves _ q)).er.st (SU con.aA con.outs r)
def lY:List (Nat×Sh)→Bool
 | []=>true
 | (_,.ab _ _)::r=>lY r
 | _=>false
def qa:List (Nat×Sh)→Bool
 | []=>true
 | (_,.ab f _)::r=>f&&qa r
 | _=>false
theorem C6 {g:G}(h:(∃u,g=.val u)∨∃n cs,g=.sl n cs):jL (dw true g)=true:=by
 rcases h with ⟨u,rfl⟩ | ⟨n,cs,rfl⟩ <;> rfl
theorem Lt (τ:Ty) (a:S.D τ):jL (nq true τ a)=true:=by
 cases τ with
 | st n=>
  show jL.go ((aN S (.st n) a).map (dw true))=true
  have h:=sf (S:=S) (.st n) a
  generalize aN S (.st n) a=l at h
  induction l with
  | nil=>rfl
  | cons x r ih=>
   simp only[aJ,jL.go,C6 (h x au),ih fun y hy=>h y (ao _ hy),fK]
 | _=>exact C6 (wz rfl a)
theorem C5 (ln:Nat→Nat):∀(aA:List (Nat×Sh)) (ls:List (br S.α)),qa aA=true→ls.length=(iM aA).length→jL.go (((cy aA ls).1.map (·.2)).map (TV.er ln))=true
 | [],_,_,_=>rfl
 | (d,.ab f τ)::r,ls,h,hl=>by
  simp only[qa,aj] at h
  cases ls with
  | nil=>simp[iM,Sh.dl] at hl
  | cons x xs=>
   simp only[cy,ir,aJ,jL.go]
   rw[h.1,C5 ln r xs h.2 (by simpa[iM,Sh.dl] using hl),jb]
   exact Lt x.τ x.a
 | (d,.own h τ)::r,ls,h',_=>by cases h'
 | (d,.ptr _ _)::r,ls,h',_=>by cases h'
 | (d,.loc _ _)::r,ls,h',_=>by cases h'
 | (d,.aF _ _)::r,ls,h',_=>by cases h'
 | (d,.agg _)::r,ls,h',_=>by cases h'
 | (d,.ct _)::r,ls,h',_=>by cases h'
 | (d,.mp _)::r,ls,h',_=>by cases h'
 | (d,.fD _ _)::r,ls,h',_=>by cases h'
 | (d,.ks _ _)::r,ls,h',_=>by cases h'
 | (d,.any)::r,ls,h',_=>by cases h'
 | (d,.lZ)::r,ls,h',_=>by cases h'
 | (d,.sub _ _)::r,ls,h',_=>by cases h'
theorem Fh {aA:List (Nat×Sh)}{ls:List (br S.α)}(h:qa aA=true) (hl:ls.length=(iM aA).length) (ln:Nat→Nat):jL ((lL aA ls).er ln)=true:=by
 have:=C5 (S:=S) ln aA ls h hl
 rw[←wa]
 revert this
 generalize (((cy aA ls).1.map (·.2)).map (TV.er ln))=gs
 intro hg
 match gs with
 | []=>rfl
 | [g]=>simpa[jL.go,pack] using hg
 | g::g'::r=>exact hg
theorem J3 (ln ln':Nat→Nat):∀(aA:List (Nat×Sh)) (ls:List (br S.α)),lY aA=true→((cy aA ls).1.map (·.2)).map (TV.er ln)=((cy aA ls).1.map (·.2)).map (TV.er ln')
 | [],_,_=>rfl
 | (d,.ab f τ)::r,ls,h=>by
  simp only[cy,aJ]
  rw[J3 ln ln' r _ h]
  cases ls <;> rfl
 | (d,.own h τ)::r,ls,h'=>by cases h'
 | (d,.ptr _ _)::r,ls,h'=>by cases h'
 | (d,.loc _ _)::r,ls,h'=>by cases h'
 | (d,.aF _ _)::r,ls,h'=>by cases h'
 | (d,.agg _)::r,ls,h'=>by cases h'
 | (d,.ct _)::r,ls,h'=>by cases h'
 | (d,.mp _)::r,ls,h'=>by cases h'
 | (d,.fD _ _)::r,ls,h'=>by cases h'
 | (d,.ks _ _)::r,ls,h'=>by cases h'
 | (d,.any)::r,ls,h'=>by cases h'
 | (d,.lZ)::r,ls,h'=>by cases h'
 | (d,.sub _ _)::r,ls,h'=>by cases h'
theorem G6 (ln ln':Nat→Nat){aA:List (Nat×Sh)}{ls:List (br S.α)}(h:lY aA=true):(lL aA ls).er ln=(lL aA ls).er ln':=by
 rw[←wa,←wa,J3 ln ln' aA ls h]
def TV.imp:TV S→Bool
 | .ab _ _ _=>true
 | .ptr _ _ _=>true
 | .val _=>true
 | .agg l=>go l
 | .aF _ l=>go l
 | _=>false
where go:List (TV S)→Bool
 | []=>true
 | x::r=>x.imp&&go r
def mK:G→Bool
 | .val _=>true
 | .sl _ _=>true
 | .ptr _=>true
 | .fr _=>true
 | .agg gs=>go gs
 | .aF _ gs=>go gs
 | _=>false
where go:List G→Bool
 | []=>true
 | g::r=>mK g&&go r
mutual
theorem M8 (ln:Nat→Nat):∀v:TV S,v.imp=true→mK (v.er ln)=true
 | .ab f τ a,_=>by
  cases τ with
  | st n=>
   show mK.go ((aN S (.st n) a).map (dw f))=true
   have h:=sf (S:=S) (.st n) a
   generalize aN S (.st n) a=l at h
   induction l with
   | nil=>rfl
   | cons x r ih=>
    have h1:mK (dw f x)=true:=by
     rcases h x au with ⟨u,rfl⟩ | ⟨n,cs,rfl⟩ <;> cases f <;> rfl
    simp only[aJ,mK.go,h1,ih fun y hy=>h y (ao _ hy),fK]
  | _=>cases f <;> rfl
 | .ptr f τ a,_=>by cases f <;> rfl
 | .val _,_=>rfl
 | .agg l,h=>nQ ln l h
 | .aF _ l,h=>nQ ln l h
 | .bl _,h=>by cases h
 | .loc _ _,h=>by cases h
 | .gK _ _ _ _,h=>by cases h
 | .aR _ _,h=>by cases h
 | .sub _ _ _ _,h=>by cases h
 | .ct _,h=>by cases h
 | .mp _,h=>by cases h
 | .ks _ _ _ _,h=>by cases h
 | .kp _ _ _ _,h=>by cases h
 | .fD _ _ _ _ _,h=>by cases h
 | .any,h=>by cases h
theorem nQ (ln:Nat→Nat):∀l:List (TV S),TV.imp.go l=true→mK.go (TV.er.go ln l)=true
 | [],_=>rfl
 | x::r,h=>by
  simp only[TV.imp.go,aj] at h
  simp only[TV.er.go,mK.go,M8 ln x h.1,nQ ln r h.2,fK]
end
theorem xm {f:G→Option G}:∀{gs gs':List G},(∀g g',g∈gs→f g=some g'→fS g=some g')→dY f gs=some gs'→fS.go gs=some gs'
 | [],_,_,h=>by cases h;rfl
 | g::r,gs',hf,h=>by
  simp only[dY] at h
  split at h
  ·rename_i g1 r1 h1 h2
   cases h
   simp only[fS.go,hf g g1 au h1,xm (fun x x' hx=>hf x x' (ao _ hx)) h2]
  ·cases h
theorem y9:∀{gs:List G}{g:G},mK.go gs=true→g∈gs→mK g=true
 | x::r,g,h,hm=>by
  simp only[mK.go,aj] at h
  rcases aZ.1 hm with e | hm
  ·subst e;exact h.1
  ·exact y9 h.2 hm
theorem A8 {st:List (Nat×ap)}:∀(n:Nat){g g':G},mK g=true→view n st g=some g'→fS g=some g'
 | 0,_,_,_,h=>by cases h
 | n+1,g,g',ho,h=>by
  cases g with
  | val v=>exact h
  | sl m cs=>exact h
  | ptr cs=>exact h
  | fr g=>exact h
  | agg gs=>
   have h:(match dY (view n st) gs with | some gs'=>some (G.agg gs') | none=>none)=some g':=h
   split at h
   ·rename_i gs' hm
    cases h
    show(fS.go gs).map G.agg=_
    rw[xm (fun x x' hx hv=>A8 n (y9 ho hx) hv) hm];rfl
   ·cases h
  | aF f gs=>simp[view] at h
  | _=>cases ho
theorem L3 {n:Nat}{st:List (Nat×ap)}{g g':G}(ho:mK g=true) (h:rA n st g=some g'):fS g=some g':=by
 cases g with
 | aF f gs=>
  have h:(match dY (view n st) gs with | some c=>some (G.aF f c) | none=>none)=some g':=h
  split at h
  ·rename_i gs' hm
   cases h
   show(fS.go gs).map (G.aF f)=_
   rw[xm (fun x x' hx hv=>A8 n (y9 ho hx) hv) hm];rfl
  ·cases h
 | _=>exact A8 n ho h
theorem xn {n:Nat}{st:List (Nat×ap)}:∀{gs gs':List G},mK.go gs=true→dY (rA n st) gs=some gs'→dY fS gs=some gs'
 | [],_,_,h=>by cases h;rfl
 | g::r,gs',ho,h=>by
  simp only[mK.go,aj] at ho
  simp only[dY] at h
  split at h
  ·rename_i g1 r1 h1 h2
   cases h
   simp only[dY,L3 ho.1 h1,xn ho.2 h2]
  ·cases h
theorem ON (f:Bool) (τ:Ty) (a:S.D τ):lr (nq f τ a)=true:=by
 cases τ with
 | st n=>
  show lr.go ((aN S (.st n) a).map (dw f))=true
  have h:=sf (S:=S) (.st n) a
  generalize aN S (.st n) a=l at h
  induction l with
  | nil=>rfl
  | cons x r ih=>
   have h1:lr (dw f x)=true:=by
    rcases h x au with ⟨u,rfl⟩ | ⟨n,cs,rfl⟩ <;> cases f <;> rfl
   simp only[aJ,lr.go,h1,ih fun y hy=>h y (ao _ hy),fK]
 | _=>cases f <;> rfl
theorem H5 (ln:Nat→Nat):∀(aA:List (Nat×Sh)) (ls:List (br S.α)),lY aA=true→ls.length=(iM aA).length→lr.go (((cy aA ls).1.map (·.2)).map (TV.er ln))=true
 | [],_,_,_=>rfl
 | (d,.ab f τ)::r,ls,h,hl=>by
  cases ls with
  | nil=>simp[iM,Sh.dl] at hl
  | cons x xs=>
   simp only[cy,ir,aJ,lr.go]
   rw[H5 ln r xs h (by simpa[iM,Sh.dl] using hl),jb]
   exact ON f x.τ x.a
 | (d,.own h τ)::r,ls,h',_=>by cases h'
 | (d,.ptr _ _)::r,ls,h',_=>by cases h'
 | (d,.loc _ _)::r,ls,h',_=>by cases h'
 | (d,.aF _ _)::r,ls,h',_=>by cases h'
 | (d,.agg _)::r,ls,h',_=>by cases h'
 | (d,.ct _)::r,ls,h',_=>by cases h'
 | (d,.mp _)::r,ls,h',_=>by cases h'
 | (d,.fD _ _)::r,ls,h',_=>by cases h'
 | (d,.ks _ _)::r,ls,h',_=>by cases h'
 | (d,.any)::r,ls,h',_=>by cases h'
 | (d,.lZ)::r,ls,h',_=>by cases h'
 | (d,.sub _ _)::r,ls,h',_=>by cases h'
theorem D8 {aA:List (Nat×Sh)}{ls:List (br S.α)}(h:lY aA=true) (hl:ls.length=(iM aA).length) (ln:Nat→Nat):lr ((lL aA ls).er ln)=true:=by
 have:=H5 (S:=S) ln aA ls h hl
 rw[←wa]
 revert this
 generalize (((cy aA ls).1.map (·.2)).map (TV.er ln))=gs
 intro hg
 match gs with
 | []=>rfl
 | [g]=>simpa[lr.go,pack] using hg
 | g::g'::r=>exact hg
def ow (con:cq S):Bool:=isNil con.a6&&(isNil con.outs&&(CK con.args&&lY con.aA))
def xQ (con:cq S) (s:ah S) (d:Nat) (vs:List (TV S)){A:Type}(k:ah S→Option A):Option A:=
 match ow con&&(qa con.aA||TV.imp.go vs) with
 | true=>match jZ s con.args vs with
  | some ls=>match lG (kj con.args con.a6) ls with
   | some q=>(con.F q).bind fun r=>k (s.put d (lL con.aA (leaves _ r)))
   | none=>none
  | none=>none
 | false=>none
theorem px (ln:Nat→Nat):∀(l l':List (TV S)),TV.er.go ln (l++l')=TV.er.go ln l++TV.er.go ln l'
 | [],_=>rfl
 | x::r,l'=>by simp only[bx,TV.er.go,px ln r l']
theorem BK {α:Type}:∀{l:List α},isNil l=true→l=[]
 | [],_=>rfl
 | _::_,h=>by cases h
theorem w7 {P:Program}{con:cq S}(C:aP P con) (h:ow con=true):CK con.args=true∧lY con.aA=true∧
  ∀q r,con.F q=some r→GM P con.f (TV.er.go (fun _=>0) (cZ con.args (leaves _ q)).1) [] (fun g st=>g=(lL con.aA (leaves _ r)).er (fun _=>0)∧st=[]):=by
 simp only[ow,aj] at h
 obtain⟨h1,h2,h3,h4⟩:=h
 refine⟨h3,h4,fun q r hr=>?_⟩
 have:=C.ok q r hr
 obtain⟨f,args,a6,vw,aA,outs,F⟩:=con
 have h1':a6=[]:=BK h1
 have h2':outs=[]:=BK h2
 subst h1';subst h2'
 have e1:(eW args [] (leaves (kj args []) q)).ln=fun _=>0:=rfl
 rw[e1] at this
 exact this
theorem zZ {aA:List (Nat×Sh)}{outs:List (Nat×Oh)}(r:bl S.α (JH.dl ⟨aA,outs⟩)) (h:outs=[]):(leaves _ r).length=(iM aA).length:=by
 subst h
 rw[CU];simp[JH.dl,CL]
theorem sW {con:cq S}(h:ow con=true):con.outs=[]:=by
 simp only[ow,aj] at h
 exact BK h.2.1
theorem Pc {P:Program}{N:Nat}{W:List Nat}{con:cq S}(C:aP P con){s:ah S}{d:Nat}{vs:List (TV S)}{A:Type}{k:ah S→Option A}{r:A}(hl:a5 s) (h:xQ con s d vs k=some r)
  {xs:Array Operand}{ts:Array TypeId}{ty:TypeId}{pos:String}{after:Array Edge}{guard:Option (Nat×Bool)}(hv:ss s xs.toList=some vs):
  ∃T:St→Prop,bN P W s.er ⟨some d,.call ⟨.value (.func con.f),xs,ts⟩,ty,pos,after,guard⟩ T∧∀s',T s'→∃t:ah S,Gh s' t.er∧a5 t∧bF s t∧k t=some r:=by
 unfold xQ at h
 split at h
 ·rename_i hc
  rw[aj] at hc
  obtain⟨hp,hfr⟩:=hc
  obtain⟨C1,C2,C3⟩:=w7 C hp
  split at h
  ·rename_i ls hls
   split at h
   ·rename_i q hq
    obtain⟨res,h1,h2⟩:=bind_some h
    have hview:=(uI 1 (fun _=>0) C1 hls []).2
    rw[cc,←gd hq] at hview
    have fin:∀s',(∃g st,(g=(lL con.aA (leaves _ res)).er (fun _=>0)∧st=([]:List (Nat×ap)))∧s'=s.er.put d g)→∃t:ah S,Gh s' t.er∧a5 t∧bF s t∧k t=some r:=by
     intro s' hs'
     obtain⟨g,st,⟨hg,_⟩,e⟩:=hs'
     subst e;subst hg
     refine⟨_,?_,hl.put d _,⟨rfl,rfl,rfl⟩,h2⟩
     rw[fE,G6 s.ln (fun _=>0) C2]
     exact Gh.refl _
    have hlen:=zZ res (sW hp)
    cases hfs:qa con.aA with
    | true=>exact⟨_,EF.call (P:=P) (W:=W) 3 C.call (k5 hv).2 hview (C3 q res h1) (fun g st hg=>by rw[hg.1];exact Fh hfs hlen _),fin⟩
    | false=>
     rw[hfs] at hfr
     have himp:=nQ s.ln vs hfr
     exact⟨_,EF.SK (P:=P) (W:=W) C.call (k5 hv).2 (xn himp hview) (C3 q res h1) (fun g st hg=>⟨by rw[hg.1];exact D8 C2 hlen _,hg.2⟩),fin⟩
   ·cases h
  ·cases h
 ·cases h
theorem EF.R8 {P:Program}{W:List Nat}{s:St}{d:Nat}{ty:TypeId}{pos:String}{after:Array Edge}{guard:Option (Nat×Bool)}{f:FuncId}{x:Operand}{xs:Array Operand}{ts:Array TypeId}{gs caps gs':List G}{Q:G→List (Nat×ap)→Prop}(hc:∀args w,(callFunc f args).run P w=.ok (.enter f args) w)
  (hf:ev s x=some (.aF f caps)) (hx:uf s xs.toList=some gs) (hv:dY fS (gs++caps)=some gs') (hcon:GM P f gs' [] Q) (hres:∀r st',Q r st'→lr r=true∧st'=[]):
  bN P W s ⟨some d,.call ⟨.value x,xs,ts⟩,ty,pos,after,guard⟩ (fun s'=>∃r st',Q r st'∧s'=s.put d r):=by
 refine⟨(fun _ h=>by cases h),?_⟩
 intro N cx μ a w hr hN K Q' hK
 obtain⟨h1,h2⟩:=mq hx
 have hcl:=hr.ev hf
 generalize hav:a.eval x=vf at hcl
 cases hcl with
 | aH h=>cases h
 | aF _ _ us hl hrc=>
  have hcall:=Dl (vs:=xs.toList.map a.eval++us) (W:=W) hr hv (by simp[h1,hl]) (fun j g v hg hv=>by
   rw[a9] at hg hv
   rw[aW,←h1] at hv
   split at hg
   ·rename_i hj
    rw[if_pos hj] at hv
    obtain⟨x,hxj,he⟩:=h2 j g hg
    rw[ay,hxj] at hv
    cases hv
    exact hr.ev he
   ·rename_i hj
    rw[if_neg hj] at hv
    exact hrc _ g v hg hv) hcon hres
  unfold Oper.wp
  have:(execOp a.eval ⟨some d,.call ⟨.value x,xs,ts⟩,ty,pos,after,guard⟩).run P w=.ok (.enter f (xs.toList.map a.eval++us).toArray) w:=by
   have e:xs.map a.eval++us.toArray=(xs.toList.map a.eval++us).toArray:=by rw[←oc,←en]
   simp[execOp,resolve,invoke,Deferred.ofValue,hav,hc,e]
  rw[this]
  refine hcall.mono ?_
  rintro e w' ⟨v,r,st',rfl,hq,hr',hrv,hst⟩
  exact hK μ _ _ w' (hr'.put (hN d rfl) hrv) ⟨r,st',hq,rfl⟩ hst
theorem IL {P:Program}{N:Nat}{W:List Nat}{con:cq S}(C:aP P con){s:ah S}{d:Nat}{vs caps:List (TV S)}{A:Type}{k:ah S→Option A}{r:A}(hl:a5 s) (h:xQ con s d (vs++caps) k=some r)
  {x:Operand}{xs:Array Operand}{ts:Array TypeId}{ty:TypeId}{pos:String}{after:Array Edge}{guard:Option (Nat×Bool)}(hx:cn s x=some (.aF con.f caps)) (hv:ss s xs.toList=some vs):
  ∃T:St→Prop,bN P W s.er ⟨some d,.call ⟨.value x,xs,ts⟩,ty,pos,after,guard⟩ T∧∀s',T s'→∃t:ah S,Gh s' t.er∧a5 t∧bF s t∧k t=some r:=by
 unfold xQ at h
 split at h
 ·rename_i hc
  rw[aj] at hc
  obtain⟨hp,hfr⟩:=hc
  obtain⟨C1,C2,C3⟩:=w7 C hp
  split at h
  ·rename_i ls hls
   split at h
   ·rename_i q hq
    obtain⟨res,h1,h2⟩:=bind_some h
    have hview:=(uI 1 (fun _=>0) C1 hls []).2
    rw[cc,←gd hq,px] at hview
    have fin:∀s',(∃g st,(g=(lL con.aA (leaves _ res)).er (fun _=>0)∧st=([]:List (Nat×ap)))∧s'=s.er.put d g)→∃t:ah S,Gh s' t.er∧a5 t∧bF s t∧k t=some r:=by
     intro s' hs'
     obtain⟨g,st,⟨hg,_⟩,e⟩:=hs'
     subst e;subst hg
     refine⟨_,?_,hl.put d _,⟨rfl,rfl,rfl⟩,h2⟩
     rw[fE,G6 s.ln (fun _=>0) C2]
     exact Gh.refl _
    cases hfs:qa con.aA with
    | true=>exact⟨_,EF.SJ (P:=P) (W:=W) 3 C.call (bh hx) (k5 hv).2 hview (C3 q res h1) (fun g st hg=>by rw[hg.1];exact Fh hfs (zZ res (sW hp)) _),fin⟩
    | false=>
     rw[hfs] at hfr
     have himp:=nQ s.ln (vs++caps) hfr
     rw[px] at himp
     exact⟨_,EF.R8 (P:=P) (W:=W) C.call (bh hx) (k5 hv).2 (xn himp hview) (C3 q res h1) (fun g st hg=>⟨by rw[hg.1];exact D8 C2 (zZ res (sW hp)) _,hg.2⟩),fin⟩
   ·cases h
  ·cases h
 ·cases h
theorem aP.SQ {P:Program}{N fu:Nat}{H:List (Nat×mA)}{cl:Cl S}{con:cq S}{fn:Func}{c:Code}(hm:P.follows .mixedOrders=true) (hcl:Ax P N cl)
  (hf:P.funcs[con.f]?=some fn) (hcall:∀args w,(callFunc con.f args).run P w=.ok (.enter con.f args) w) (hb:fn.body=some c) (hN:fn.ntmps=N)
  (hle:tL N con.args con.aA con.outs=true) (hrg:oN S N H (lK c 0))
  {mvs:List Nat}(h:∀q,Iz P N fu H cl c mvs fn.results.toList con.args con.a6 con.aA con.outs q=con.F q):aP P con:=
 ⟨hcall,fun q r hr=>QV hm hcl hf hb hN hle hrg ((h q).trans hr)⟩
end
end Go.DN
