/-
  DN, second half.
-/
import Derived.Test.YtongekoajbcliaaGreatDoorMgG
set_option linter.unusedSectionVars false
set_option linter.unusedSimpArgs false
set_option linter.unusedVariables false
/-
 DN,part O:what a loop or a join carries.
-/
namespace Go.DN
open Go.AM
inductive Sh where
 | aD (f:Bool) (τ:Ty)
 | ptr (f:Bool) (τ:Ty)
 | own (h:Nat) (τ:Ty)
 | loc (h off:Nat)
 | ba (f:FuncId) (l:List Sh)
 | agg (l:List Sh)
 | cW (h:Nat)
 | mp (h:Nat)
 | any
 | nD
 | sub (h:Nat) (τ:Ty)
 | iF (h:Nat) (τ:Ty)
 | ks (h:Nat) (τ:Ty)
 | gw (h off:Nat)
 | dX (h:Nat)
inductive Oh where
 | arr (e:TypeId) (m f:Bool) (τ:Ty)
 | box (e:TypeId) (m:Bool) (cs:List Sh)
 | lp (key:Nat) (lv:Bool) (cs:List Sh)
 | deep (e:TypeId) (m f:Bool) (dk:Dk) (τ:Ty)
structure JH where
 aw:List (Nat×Sh)
 aQ:List (Nat×Oh)
mutual
def Sh.cX:Sh→List Ty
 | .aD _ τ=>[τ]
 | .ptr _ τ=>[τ]
 | .own _ _=>[]
 | .loc _ _=>[]
 | .ba _ l=>zw l
 | .agg l=>zw l
 | .cW _=>[]
 | .mp _=>[]
 | .any=>[]
 | .nD=>[.int .i64]
 | .sub _ _=>[.int .i64,.int .i64]
 | .iF _ _=>[.bool,.int .i64,.int .i64]
 | .ks _ _=>[.int .i64,.int .i64]
 | .gw _ _=>[.bool]
 | .dX _=>[.bool]
def zw:List Sh→List Ty
 | []=>[]
 | x::r=>x.cX++zw r
end
def Oh.cX:Oh→List Ty
 | .arr _ _ _ τ=>[.list τ]
 | .box _ _ cs=>zw cs
 | .lp _ lv cs=>match lv with
  | true=>.int .i64::zw cs
  | false=>zw cs
 | .deep _ _ _ _ τ=>[τ]
def jC:List (Nat×Sh)→List Ty
 | []=>[]
 | (_,x)::r=>x.cX++jC r
def F5:List (Nat×Oh)→List Ty
 | []=>[]
 | (_,x)::r=>x.cX++F5 r
def JH.cX (j:JH):List Ty:=jC j.aw++F5 j.aQ
@[reducible] def bB (α:Nat→Type):List Ty→Type
 | []=>Unit
 | [t]=>t.den α
 | t::r=>t.den α×bB α r
section
variable {S:eI}
def nR:(ts:List Ty)→List (bn S.α)→Option (bB S.α ts)
 | [],[]=>some ()
 | [t],[x]=>jv x.τ t x.a
 | t::u::r,x::xs=>match jv x.τ t x.a with
  | some a=>match nR (u::r) xs with
   | some b=>some (a,b)
   | none=>none
  | none=>none
 | _,_=>none
def leaves:(ts:List Ty)→bB S.α ts→List (bn S.α)
 | [],_=>[]
 | [t],q=>[⟨t,q⟩]
 | t::u::r,q=>⟨t,q.1⟩::leaves (u::r) q.2
theorem hZ:∀{ts:List Ty}{xs:List (bn S.α)}{q:bB S.α ts},nR ts xs=some q→leaves ts q=xs
 | [],[],_,_=>rfl
 | [t],[x],q,h=>by
  obtain⟨τ,a⟩:=x;have:=eW h;show[(⟨t,q⟩:bn S.α)]=_;rw[this]
 | t::u::r,x::xs,q,h=>by
  simp only[nR] at h;split at h
  ·rename_i a h1;split at h
   ·rename_i b h2;cases h;show(⟨t,a⟩:bn S.α)::leaves (u::r) b=_;rw[hZ h2];obtain⟨τ,a'⟩:=x;rw[eW h1]
   ·cases h
  ·cases h
 | [],_::_,_,h=>by cases h
 | [_],[],_,h=>by cases h
 | [_],_::_::_,_,h=>by simp[nR] at h
 | _::_::_,[],_,h=>by cases h
mutual
def k6:Sh→TV S→Option (List (bn S.α))
 | .aD f τ,v=>match FL τ v with
  | some (f',a)=>match !f||f' with
   | true=>some [⟨τ,a⟩]
   | false=>none
  | none=>none
 | .ptr f τ,v=>match v with
  | .ptr f' τ' a=>match !f||f' with
   | true=>match jv τ' τ a with
    | some b=>some [⟨τ,b⟩]
    | none=>none
   | false=>none
  | _=>none
 | .own h τ,v=>match v with
  | .aL h' τ'=>match Nat.beq h' h with
   | true=>match decEq τ' τ with
    | isTrue _=>some []
    | isFalse _=>none
   | false=>none
  | _=>none
 | .loc h o,v=>match v with
  | .loc h' o'=>match Nat.beq h' h&&Nat.beq o' o with
   | true=>some []
   | false=>none
  | _=>none
 | .ba f l,v=>match v with
  | .ba f' vs=>match Nat.beq f' f with
   | true=>sd l vs
   | false=>none
  | _=>none
 | .agg l,v=>match v with
  | .agg vs=>sd l vs
  | _=>none
 | .cW h,v=>match v with
  | .cW h'=>match Nat.beq h' h with
   | true=>some []
   | false=>none
  | _=>none
 | .mp h,v=>match v with
  | .mp h'=>match Nat.beq h' h with
   | true=>some []
   | false=>none
  | _=>none
 | .any,_=>some []
 | .nD,v=>match v with
  | .ba f []=>some [⟨.int .i64,(f:Int)⟩]
  | _=>none
 | .sub h τ,v=>match v with
  | .sub h' τ' o n=>match Nat.beq h' h with
   | true=>match decEq τ' τ with
    | isTrue _=>some [⟨.int .i64,(o:Int)⟩,⟨.int .i64,(n:Int)⟩]
    | isFalse _=>none
   | false=>none
  | _=>none
 | .ks h τ,v=>match v with
  | .ks h' τ' z n=>match Nat.beq h' h with
   | true=>match decEq τ' τ with
    | isTrue _=>some [⟨.int .i64,(z:Int)⟩,⟨.int .i64,(n:Int)⟩]
    | isFalse _=>none
   | false=>none
  | _=>none
 | .gw h o,v=>match v with
  | .val (.pointer none)=>some [⟨.bool,true⟩]
  | .loc h' o'=>match Nat.beq h' h&&Nat.beq o' o with
   | true=>some [⟨.bool,false⟩]
   | false=>none
  | .gw b h' o'=>match Nat.beq h' h&&Nat.beq o' o with
   | true=>some [⟨.bool,b⟩]
   | false=>none
  | _=>none
 | .dX h,v=>match v with
  | .mp h'=>match Nat.beq h' h with
   | true=>some [⟨.bool,false⟩]
   | false=>none
  | .dX b h'=>match Nat.beq h' h with
   | true=>some [⟨.bool,b⟩]
   | false=>none
  | _=>none
 | .iF h τ,v=>match v with
  | .val (.pointer none)=>some [⟨.bool,true⟩,⟨.int .i64,(0:Int)⟩,⟨.int .i64,(0:Int)⟩]
  | .kp h' τ' i j=>match Nat.beq h' h with
   | true=>match decEq τ' τ with
    | isTrue _=>some [⟨.bool,false⟩,⟨.int .i64,(i:Int)⟩,⟨.int .i64,(j:Int)⟩]
    | isFalse _=>none
   | false=>none
  | .iF b h' τ' i j=>match Nat.beq h' h with
   | true=>match decEq τ' τ with
    | isTrue _=>some [⟨.bool,b⟩,⟨.int .i64,(i:Int)⟩,⟨.int .i64,(j:Int)⟩]
    | isFalse _=>none
   | false=>none
  | _=>none
def sd:List Sh→List (TV S)→Option (List (bn S.α))
 | [],[]=>some []
 | sh::r,v::vs=>match k6 sh v with
  | some xs=>match sd r vs with
   | some ys=>some (xs++ys)
   | none=>none
  | none=>none
 | _,_=>none
end
mutual
def gT:Sh→List (bn S.α)→TV S×List (bn S.α)
 | .aD f _,ls=>match ls with
  | x::r=>(.aD f x.τ x.a,r)
  | []=>(.any,[])
 | .ptr f _,ls=>match ls with
  | x::r=>(.ptr f x.τ x.a,r)
  | []=>(.any,[])
 | .own h τ,ls=>(.aL h τ,ls)
 | .loc h o,ls=>(.loc h o,ls)
 | .ba f l,ls=>(.ba f (dh l ls).1,(dh l ls).2)
 | .agg l,ls=>(.agg (dh l ls).1,(dh l ls).2)
 | .cW h,ls=>(.cW h,ls)
 | .mp h,ls=>(.mp h,ls)
 | .any,ls=>(.any,ls)
 | .nD,ls=>match ls with
  | ⟨.int _,a⟩::r=>(.ba (Int.toNat a) [],r)
  | r=>(.any,r)
 | .sub h τ,ls=>match ls with
  | ⟨.int _,a⟩::⟨.int _,b⟩::r=>(.sub h τ (Int.toNat a) (Int.toNat b),r)
  | r=>(.any,r)
 | .ks h τ,ls=>match ls with
  | ⟨.int _,a⟩::⟨.int _,b⟩::r=>(.ks h τ (Int.toNat a) (Int.toNat b),r)
  | r=>(.any,r)
 | .gw h o,ls=>match ls with
  | ⟨.bool,b⟩::r=>(.gw b h o,r)
  | r=>(.any,r)
 | .dX h,ls=>match ls with
  | ⟨.bool,b⟩::r=>(.dX b h,r)
  | r=>(.any,r)
 | .iF h τ,ls=>match ls with
  | ⟨.bool,b⟩::⟨.int _,i⟩::⟨.int _,j⟩::r=>(.iF b h τ (Int.toNat i) (Int.toNat j),r)
  | r=>(.any,r)
def dh:List Sh→List (bn S.α)→List (TV S)×List (bn S.α)
 | [],ls=>([],ls)
 | sh::r,ls=>((gT sh ls).1::(dh r (gT sh ls).2).1,(dh r (gT sh ls).2).2)
end
theorem RW.any (g:G):RW g .any:=fun _ _ _ _ _ _=>.aF (.any _)
theorem RW.ba {f:FuncId}{gs gs':List G}(hl:gs'.length=gs.length) (h:∀(j:Nat) (g':G),gs'[j]?=some g'→∃g,gs[j]?=some g∧RW g g'):RW (.ba f gs) (.ba f gs'):=by
 intro O base w μ v hv;cases hv with
 | aF hv=>cases hv
 | ba _ _ us h1 h2=>exact .ba f _ us (h1.trans hl.symm) fun j g' v hg' hv=>(by
   obtain⟨g,hg,hw⟩:=h j g' hg';exact hw _ _ _ _ _ (h2 j g v hg hv))
theorem RW.aD (f f':Bool) (τ:Ty) (a:S.D τ) (hc:(!f||f')=true):RW (oP f' τ a) (oP f τ a):=by
 cases f with
 | true=>
  have:f'=true:=by simpa using hc
  subst this;exact RW.refl _
 | false=>
  unfold oP;split
  ·rename_i n a;refine RW.agg (by simp) fun j g' hg'=>?_;rw[ak] at hg'⊢;obtain⟨g,hg,rfl⟩:=az.1 hg';exact⟨_,by rw[hg];rfl,RW.dY _ _ _ (fun e=>by cases e)⟩
  ·exact RW.dY _ _ _ (fun e=>by cases e)
theorem RW.aaa (f f':Bool) (τ:Ty) (a:S.D τ) (hc:(!f||f')=true):RW (Uk f' τ a) (Uk f τ a):=by
 cases f with
 | true=>
  have:f'=true:=by simpa using hc
  subst this;exact RW.refl _
 | false=>
  cases f' with
  | false=>exact RW.refl _
  | true=>exact RW.X3 (.ptr (aX S τ a))
theorem Wn {ln:Nat→Nat}{vs vs':List (TV S)}(hl:vs'.length=vs.length) (h:∀(j:Nat) (v':TV S),vs'[j]?=some v'→∃v,vs[j]?=some v∧RW (v.er ln) (v'.er ln)):
  (TV.er.go ln vs').length=(TV.er.go ln vs).length∧∀(j:Nat) (g':G),(TV.er.go ln vs')[j]?=some g'→∃g,(TV.er.go ln vs)[j]?=some g∧RW g g':=by
 rw[cP,cP];refine⟨by simp[hl],fun j g' hg'=>?_⟩;rw[ak] at hg';obtain⟨v',h1,rfl⟩:=az.1 hg';obtain⟨v,h2,h3⟩:=h j v' h1;exact⟨v.er ln,by rw[ak,h2];rfl,h3⟩
mutual
theorem Ey (ln:Nat→Nat):∀{sh:Sh}{v:TV S}{xs:List (bn S.α)},k6 sh v=some xs→∀(r:List (bn S.α)),(gT sh (xs++r)).2=r∧RW (v.er ln) ((gT sh (xs++r)).1.er ln)
 | .aD f τ,v,xs,h,r=>by
  simp only[k6] at h;split at h
  ·rename_i f' a ha;split at h
   ·rename_i hc;cases h;exact⟨rfl,(X4 ha ln).trans (RW.aD _ _ _ _ hc)⟩
   ·cases h
  ·cases h
 | .ptr f τ,v,xs,h,r=>by
  simp only[k6] at h;split at h
  ·rename_i f' τ' a;split at h
   ·rename_i hc;split at h
    ·rename_i b hb;cases h;have:=eW hb;cases this;exact⟨rfl,RW.aaa _ _ _ _ hc⟩
    ·cases h
   ·cases h
  ·cases h
 | .own h0 τ,v,xs,h,r=>by
  simp only[k6] at h;split at h
  ·split at h
   ·rename_i hb;split at h
    ·rename_i e _;cases h;subst e;have:=ab hb;subst this;exact⟨rfl,RW.refl _⟩
    ·cases h
   ·cases h
  ·cases h
 | .loc h0 o,v,xs,h,r=>by
  simp only[k6] at h;split at h
  ·split at h
   ·rename_i hb;simp only[af] at hb;cases h;have e1:=ab hb.1;have e2:=ab hb.2;subst e1;subst e2;exact⟨rfl,RW.refl _⟩
   ·cases h
  ·cases h
 | .ba f l,v,xs,h,r=>by
  simp only[k6] at h;split at h
  ·rename_i f' vs;split at h
   ·rename_i hb;have e:=ab hb;subst e;obtain⟨i1,i2,i3⟩:=s8 ln h r;obtain⟨j1,j2⟩:=Wn i2 i3;exact⟨i1,RW.ba j1 j2⟩
   ·cases h
  ·cases h
 | .agg l,v,xs,h,r=>by
  simp only[k6] at h;split at h
  ·rename_i vs;obtain⟨i1,i2,i3⟩:=s8 ln h r;obtain⟨j1,j2⟩:=Wn i2 i3;exact⟨i1,RW.agg j1 j2⟩
  ·cases h
 | .cW h0,v,xs,h,r=>by
  simp only[k6] at h;split at h
  ·split at h
   ·rename_i hb;cases h;have:=ab hb;subst this;exact⟨rfl,RW.refl _⟩
   ·cases h
  ·cases h
 | .mp h0,v,xs,h,r=>by
  simp only[k6] at h;split at h
  ·split at h
   ·rename_i hb;cases h;have:=ab hb;subst this;exact⟨rfl,RW.refl _⟩
   ·cases h
  ·cases h
 | .any,v,xs,h,r=>by
  simp only[k6] at h;cases h;exact⟨rfl,RW.any _⟩
 | .nD,v,xs,h,r=>by
  simp only[k6] at h;split at h
  ·cases h;exact⟨rfl,RW.refl _⟩
  ·cases h
 | .sub h0 τ,v,xs,h,r=>by
  simp only[k6] at h;split at h
  ·split at h
   ·rename_i hb;split at h
    ·rename_i e _;cases h;subst e;have:=ab hb;subst this;exact⟨rfl,RW.refl _⟩
    ·cases h
   ·cases h
  ·cases h
 | .ks h0 τ,v,xs,h,r=>by
  simp only[k6] at h;split at h
  ·split at h
   ·rename_i hb;split at h
    ·rename_i e _;cases h;subst e;have:=ab hb;subst this;exact⟨rfl,RW.refl _⟩
    ·cases h
   ·cases h
  ·cases h
 | .gw h0 o,v,xs,h,r=>by
  simp only[k6] at h;split at h
  ·cases h;exact⟨rfl,RW.refl _⟩
  ·split at h
   ·rename_i hb;rw[af] at hb;cases h;have e1:=ab hb.1;have e2:=ab hb.2;subst e1;subst e2;exact⟨rfl,RW.refl _⟩
   ·cases h
  ·split at h
   ·rename_i hb;rw[af] at hb;cases h;have e1:=ab hb.1;have e2:=ab hb.2;subst e1;subst e2;exact⟨rfl,RW.refl _⟩
   ·cases h
  ·cases h
 | .dX h0,v,xs,h,r=>by
  simp only[k6] at h;split at h
  ·split at h
   ·rename_i hb;cases h;have e1:=ab hb;subst e1;exact⟨rfl,RW.refl _⟩
   ·cases h
  ·split at h
   ·rename_i hb;cases h;have e1:=ab hb;subst e1;exact⟨rfl,RW.refl _⟩
   ·cases h
  ·cases h
 | .iF h0 τ,v,xs,h,r=>by
  simp only[k6] at h;split at h
  ·cases h;exact⟨rfl,RW.refl _⟩
  ·split at h
   ·rename_i hb;split at h
    ·rename_i e _;cases h;subst e;have:=ab hb;subst this;exact⟨rfl,RW.refl _⟩
    ·cases h
   ·cases h
  ·split at h
   ·rename_i hb;split at h
    ·rename_i e _;cases h;subst e;have:=ab hb;subst this;exact⟨rfl,RW.refl _⟩
    ·cases h
   ·cases h
  ·cases h
theorem s8 (ln:Nat→Nat):∀{l:List Sh}{vs:List (TV S)}{xs:List (bn S.α)},sd l vs=some xs→∀(r:List (bn S.α)),(dh l (xs++r)).2=r∧(dh l (xs++r)).1.length=vs.length∧
  ∀(j:Nat) (v':TV S),(dh l (xs++r)).1[j]?=some v'→∃v,vs[j]?=some v∧RW (v.er ln) (v'.er ln)
 | [],[],xs,h,r=>by simp only[sd] at h;cases h;exact⟨rfl,rfl,fun j v' h=>by cases h⟩
 | sh::l,v::vs,xs,h,r=>by
  simp only[sd] at h;split at h
  ·rename_i x1 h1;split at h
   ·rename_i ys h2;cases h;rw[aR];obtain⟨e1,e2⟩:=Ey ln h1 (ys++r);obtain⟨i1,i2,i3⟩:=s8 ln h2 r;simp only[dh];rw[e1];refine⟨i1,by simp[i2],fun j v' hj=>?_⟩;cases j with
    | zero=>cases hj;exact⟨v,rfl,e2⟩
    | succ j=>exact i3 j v' hj
   ·cases h
  ·cases h
 | [],_::_,_,h,_=>by simp[sd] at h
 | _::_,[],_,h,_=>by simp[sd] at h
end
def FZ (fr:List (Nat×TV S)):List (Nat×Sh)→Option (List (bn S.α))
 | []=>some []
 | (d,sh)::r=>match bp fr d with
  | some v=>match k6 sh v with
   | some xs=>match FZ fr r with
    | some ys=>some (xs++ys)
    | none=>none
   | none=>none
  | none=>none
def cC:List (Nat×Sh)→List (bn S.α)→List (Nat×TV S)×List (bn S.α)
 | [],ls=>([],ls)
 | (d,sh)::r,ls=>((d,(gT sh ls).1)::(cC r (gT sh ls).2).1,(cC r (gT sh ls).2).2)
theorem zG {fr:List (Nat×TV S)}(ln:Nat→Nat):∀{l:List (Nat×Sh)}{xs:List (bn S.α)},FZ fr l=some xs→∀(r:List (bn S.α)),(cC l (xs++r)).2=r∧
  ∀d v',bp (cC l (xs++r)).1 d=some v'→∃v,bp fr d=some v∧RW (v.er ln) (v'.er ln)
 | [],xs,h,r=>by cases h;exact⟨rfl,fun d v' h=>by cases h⟩
 | (d0,sh)::l,xs,h,r=>by
  simp only[FZ] at h;split at h
  ·rename_i v hv;split at h
   ·rename_i x1 h1;split at h
    ·rename_i ys h2;cases h;rw[aR];obtain⟨e1,e2⟩:=Ey ln h1 (ys++r);obtain⟨i1,i2⟩:=zG ln h2 r;simp only[cC];rw[e1];refine⟨i1,fun d v' hd=>?_⟩;simp only[bp] at hd;cases hb:Nat.beq d0 d with
     | true=>
      rw[hb] at hd;cases hd;have:=ab hb;subst this;exact⟨v,hv,e2⟩
     | false=>rw[hb] at hd;exact i2 d v' hd
    ·cases h
   ·cases h
  ·cases h
def O3:Ty→Bool
 | .list (.list t)=>t.iR
 | .map=>true
 | _=>false
def P2 (oh:Oh) (o:TO S):Option (List (bn S.α)):=
 match oh with
 | .arr e m f τ=>match o with
  | .arr e' m' f' τ' l=>match Nat.beq e' e&&((!m||m')&&(!f||(f'||τ'.iR))) with
   | true=>match jv (.list τ') (.list τ) l with
    | some l=>some [⟨.list τ,l⟩]
    | none=>none
   | false=>none
  | _=>none
 | .box e m cs=>match o with
  | .box e' m' vs=>match Nat.beq e' e&&(!m||m') with
   | true=>sd cs vs
   | false=>none
  | _=>none
 | .lp key lv cs=>match o with
  | .lp key' n vs=>match Nat.beq key' key with
   | true=>match lv with
    | true=>match sd cs vs with
     | some xs=>some (⟨.int .i64,n⟩::xs)
     | none=>none
    | false=>match decEq n 0 with
     | isTrue _=>sd cs vs
     | isFalse _=>none
   | false=>none
  | _=>none
 | .deep e m f dk τ=>match o with
  | .deep e' m' f' dk' τ' a=>match Nat.beq e' e&&((!m||m')&&(!f||(f'||O3 τ'))) with
   | true=>match decEq dk' dk with
    | isTrue _=>match jv τ' τ a with
     | some a=>some [⟨τ,a⟩]
     | none=>none
    | isFalse _=>none
   | false=>none
  | _=>none
def nl (oh:Oh) (ls:List (bn S.α)):TO S×List (bn S.α):=
 match oh with
 | .arr e m f _=>match ls with
  | ⟨.list τ,l⟩::r=>(.arr e m f τ l,r)
  | r=>(.box e m [],r)
 | .box e m cs=>(.box e m (dh cs ls).1,(dh cs ls).2)
 | .lp key lv cs=>match lv with
  | true=>match ls with
   | ⟨.int _,n⟩::r=>(.lp key n (dh cs r).1,(dh cs r).2)
   | r=>(.box 0 false [],r)
  | false=>(.lp key 0 (dh cs ls).1,(dh cs ls).2)
 | .deep e m f dk _=>match ls with
  | x::r=>(.deep e m f dk x.τ x.a,r)
  | r=>(.box e m [],r)
theorem Qy {st st':List (Nat×av)}{vs vs':List (TV S)}(ln ln':Nat→Nat) (hl:vs'.length=vs.length) (h:∀(j:Nat) (v':TV S),vs'[j]?=some v'→∃v,vs[j]?=some v∧CV st st' (v.er ln) (v'.er ln')):TJ st st' (TV.er.go ln vs) (TV.er.go ln' vs'):=by
 rw[cP,cP];refine⟨by simp[hl],fun j g' hg'=>?_⟩;rw[ak] at hg';obtain⟨v',h1,rfl⟩:=az.1 hg';obtain⟨v,h2,h3⟩:=h j v' h1;exact⟨v.er ln,by rw[ak,h2];rfl,h3⟩
theorem JM {τ:Ty}(hs:τ.iR=true):∀(l:List (S.D τ)) (g:G),g∈List.flatMap (aX S τ) l→∃v,g=.val v
 | l,g,hg=>by
  obtain⟨a,_,hg⟩:=pW.1 hg;cases τ with
  | int _=>exact⟨_,c8.1 hg⟩
  | bool=>exact⟨_,c8.1 hg⟩
  | str=>exact⟨_,c8.1 hg⟩
  | list _=>cases hs
  | st _=>cases hs
  | map=>cases hs
  | dw=>cases hs
  | pt _=>cases hs
theorem NS (dk:Dk) (e:TypeId){τ:Ty}(hs:O3 τ=true) (a:S.D τ) (O O':Nat→Prop) (w:World) (b:Nat) (m:Mm) (h:(dk.dp e τ a).φ O w b m):(dk.dp e τ a).φ O' w b m:=by
 cases dk with
 | wq kty=>
  obtain⟨cs,h⟩:=h;refine⟨cs,{len:=h.len,root:=h.root,inj:=h.inj,heap:=h.heap,size:=h.size,le:=h.le,max:=h.max,row:=fun i n gs hi=>?_}⟩;obtain⟨u,x,h1,h2,h3⟩:=h.row i n gs hi;refine⟨u,x,h1,h2,?_⟩;cases x with
  | none=>exact h3
  | some ck=>
   obtain⟨cap,cs',q1,q2,q3,q4,q5,q6,q7,q8⟩:=h3;refine⟨cap,cs',q1,q2,q3,q4,q5,q6,q7,fun j g hg=>?_⟩;obtain⟨v,hv,hr⟩:=q8 j g hg;refine⟨v,hv,?_⟩;cases τ with
   | list t=>cases t with
    | list t=>
     have hi:(List.map (fun l=>(List.length l,List.flatMap (aX S t) l)) a)[i]?=some (n,gs):=hi;rw[ak] at hi;obtain⟨l,_,e⟩:=az.1 hi;cases e;obtain⟨u,rfl⟩:=JM (τ:=t) hs l g (aj hg);cases hr;exact .val _
    | _=>cases hs
   | map=>
    have hi:([]:List (Nat×List G))[i]?=some (n,gs):=hi;simp at hi
   | _=>cases hs
 | rows kty ho=>
  obtain⟨cs,h⟩:=h;have hno:(Kx τ a).2.2=[]:=by
   cases τ with
   | list t=>cases t with
    | list t=>rfl
    | _=>cases hs
   | map=>rfl
   | _=>cases hs
  refine⟨cs,{len:=h.len,root:=h.root,inj:=h.inj,heap:=h.heap,size:=h.size,le:=h.le,max:=h.max,row:=fun i n gs hi _=>?_,hole:=h.hole}⟩;rw[hno] at hi;cases hi
 | sm i=>
  have h:IY (xk i) (qK i τ a) O w b m:=h;show IY (xk i) (qK i τ a) O' w b m;have hno:qK i τ a=[]:=by
   cases τ with
   | list t=>cases t with
    | list t=>rfl
    | _=>cases hs
   | map=>rfl
   | _=>cases hs
  rw[hno] at h⊢;obtain⟨ms,cl,h1,h2,_⟩:=h.heap;exact {uZ:=h.uZ,len:=h.len,nd:=h.nd,heap:=⟨ms,cl,h1,h2,fun i e x he=>by simp at he⟩}
 | map q kty tty=>
  have h:KR q kty tty (mapOf τ a).n ((mapOf τ a).es.map (lR.me q)) (R7 q (mapOf τ a).pd) O w b m:=h;show KR q kty tty (mapOf τ a).n ((mapOf τ a).es.map (lR.me q)) (R7 q (mapOf τ a).pd) O' w b m;have val:∀(l:List Int) (j:Nat) (g:G) (v:Value),(pF q l)[j]?=some g→bH O w g v→bH O' w g v:=by
   intro l j g v hg hr;unfold pF at hg;rw[ak] at hg;obtain⟨x,_,rfl⟩:=az.1 hg;cases hr;exact .val _
  refine {len:=h.len,OG:=h.OG,uZ:=h.uZ,heap:=h.heap,root:=h.root,I7:=fun e he=>?_,inj:=h.inj,Ok:=fun sr x gs hp=>?_}
  ·obtain⟨c,cs,h1,h2,h3,h4⟩:=h.I7 e he;refine⟨c,cs,h1,h2,h3,fun j p hp=>?_⟩;obtain⟨u,h5,h6⟩:=h4 j p hp;refine⟨u,h5,?_⟩;obtain⟨e0,_,rfl⟩:=fc.1 he;have hp:(e0.f.map fun p=>(p.1,pF q p.2))[j]?=some p:=hp;rw[ak] at hp;obtain⟨p0,_,rfl⟩:=az.1 hp;refine h6.imp id fun ⟨h0,c',k',r1,cap,cs',q1,q2,q3,q4,q5,q6,q7,q8⟩=>⟨h0,c',k',r1,cap,cs',q1,q2,q3,q4,q5,q6,q7,fun j g hg=>?_⟩;obtain⟨v,hv,hr⟩:=q8 j g hg;exact⟨v,hv,val _ _ _ _ hg hr⟩
  ·obtain⟨h0,⟨c,k,cs,h1,h2,h3,h4,h5,h6⟩,h7⟩:=h.Ok sr x gs hp;refine⟨h0,⟨c,k,cs,h1,h2,h3,h4,h5,fun i g hg=>?_⟩,h7⟩;obtain⟨v,hv,hr⟩:=h6 i g hg;refine⟨v,hv,?_⟩;cases hd:(mapOf τ a).pd with
   | none=>rw[hd] at hp;cases hp
   | some p=>
    obtain⟨sr',x',l⟩:=p;rw[hd] at hp;cases hp;exact val _ _ _ _ hg hr
theorem Nt {a b:Bool}(h:(!a||b)=true) (ha:a=true):b=true:=by subst ha;simpa using h
theorem Uq {st st':List (Nat×av)}{oh:Oh}{o:TO S}{xs:List (bn S.α)}(h:P2 oh o=some xs) (ln:Nat→Nat) (r:List (bn S.α)):(nl oh (xs++r)).2=r∧(nl oh (xs++r)).1.len=o.len∧wQ st st' (o.er ln) ((nl oh (xs++r)).1.er ln):=by
 unfold P2 at h;split at h
 ·split at h
  ·split at h
   ·rename_i hc;simp only[af] at hc;obtain⟨c1,c2,c3⟩:=hc;split at h
    ·rename_i l' hl;cases h;obtain⟨e,hl⟩:=sF hl;subst e;cases hl;have c1:=ab c1;subst c1;refine⟨rfl,rfl,rfl,Nt c2,rfl,rfl,rfl,rfl,.inl ⟨rfl,rfl,fun hf=>?_⟩⟩;have c4:=Nt c3 hf;rw[eK] at c4;exact c4.imp id fun hs=>.inl ⟨rfl,JM hs _⟩
    ·cases h
   ·cases h
  ·cases h
 ·split at h
  ·split at h
   ·rename_i hc;simp only[af] at hc;have c1:=ab hc.1;have c2:=hc.2;subst c1;obtain⟨i1,i2,i3⟩:=s8 ln h r;refine⟨i1,rfl,rfl,Nt c2,rfl,rfl,rfl,?_,.inr ⟨rfl,?_⟩⟩
    ·show(TV.er.go ln _).length=(TV.er.go ln _).length;rw[cP,cP,aN,aN,i2]
    ·exact(Qy ln ln i2 fun j v' hj=>let ⟨v,h1,h2⟩:=i3 j v' hj;⟨v,h1,CV.rw h2⟩).2
   ·cases h
  ·cases h
 ·split at h
  ·split at h
   ·rename_i hc;have c1:=ab hc;subst c1;split at h
    ·split at h
     ·rename_i xs' hx;cases h;obtain⟨i1,i2,i3⟩:=s8 ln hx r;refine⟨i1,rfl,rfl,id,rfl,rfl,rfl,?_,.inr ⟨rfl,?_⟩⟩
      ·show(TV.er.go ln _).length=(TV.er.go ln _).length;rw[cP,cP,aN,aN];exact i2
      ·exact(Qy ln ln i2 fun j v' hj=>let ⟨v,h1,h2⟩:=i3 j v' hj;⟨v,h1,CV.rw h2⟩).2
     ·cases h
    ·split at h
     ·rename_i hn _;subst hn;obtain⟨i1,i2,i3⟩:=s8 ln h r;refine⟨i1,rfl,rfl,id,rfl,rfl,rfl,?_,.inr ⟨rfl,?_⟩⟩
      ·show(TV.er.go ln _).length=(TV.er.go ln _).length;rw[cP,cP,aN,aN,i2]
      ·exact(Qy ln ln i2 fun j v' hj=>let ⟨v,h1,h2⟩:=i3 j v' hj;⟨v,h1,CV.rw h2⟩).2
     ·cases h
   ·cases h
  ·cases h
 ·split at h
  ·rename_i e' m' f' dk' τ' a;split at h
   ·rename_i hc;simp only[af] at hc;obtain⟨c1,c2,c3⟩:=hc;split at h
    ·rename_i e1 _;subst e1;split at h
     ·rename_i a' ha;cases h;cases eW ha;have c1:=ab c1;subst c1;refine⟨rfl,rfl,rfl,Nt c2,rfl,rfl,rfl,rfl,.inl ⟨rfl,rfl,fun hf=>?_⟩⟩;have c4:=Nt c3 hf;rw[eK] at c4;exact c4.imp id fun hs=>.inr ⟨_,rfl,fun O O' w b m=>NS _ _ hs _ O O' w b m⟩
     ·cases h
    ·cases h
   ·cases h
  ·cases h
def zE (st:List (Nat×TO S)):List (Nat×Oh)→Option (List (bn S.α))
 | []=>some []
 | (h,oh)::r=>match aA st h with
  | some o=>match P2 oh o with
   | some xs=>match zE st r with
    | some ys=>some (xs++ys)
    | none=>none
   | none=>none
  | none=>none
def cg:List (Nat×Oh)→List (bn S.α)→List (Nat×TO S)×List (bn S.α)
 | [],ls=>([],ls)
 | (h,oh)::r,ls=>((h,(nl oh ls).1)::(cg r (nl oh ls).2).1,(cg r (nl oh ls).2).2)
theorem Ez {st:List (Nat×TO S)}(ln:Nat→Nat) (gst gst':List (Nat×av)):∀{l:List (Nat×Oh)}{xs:List (bn S.α)},zE st l=some xs→∀(r:List (bn S.α)),(cg l (xs++r)).2=r∧
  (∀h,(∃o',aA (cg l (xs++r)).1 h=some o')∨(aA (cg l (xs++r)).1 h=none∧h∉l.map (·.1)))∧
  ∀h o',aA (cg l (xs++r)).1 h=some o'→∃o,aA st h=some o∧o'.len=o.len∧wQ gst gst' (o.er ln) (o'.er ln)
 | [],xs,h,r=>by
  cases h;refine⟨rfl,fun h=>.inr (And.intro rfl (fun e=>nomatch e)),fun d v' h=>nomatch h⟩
 | (h0,oh)::l,xs,h,r=>by
  simp only[zE] at h;split at h
  ·rename_i o ho;split at h
   ·rename_i x1 h1;split at h
    ·rename_i ys h2;cases h;rw[aR];obtain⟨e1,e2,e3⟩:=Uq (st:=gst) (st':=gst') h1 ln (ys++r);obtain⟨i1,i2,i3⟩:=Ez ln gst gst' h2 r;simp only[cg];rw[e1];refine⟨i1,fun h=>?_,fun h o' hd=>?_⟩
     ·simp only[aA];cases hb:Nat.beq h0 h with
      | true=>exact .inl ⟨_,rfl⟩
      | false=>
       rcases i2 h with h3 | ⟨h3,h4⟩
       ·exact .inl h3
       ·refine .inr ⟨h3,?_⟩;simp only[bc,bf,not_or];exact⟨fun e=>(by subst e;rw[aW] at hb;cases hb),h4⟩
     ·simp only[aA] at hd;cases hb:Nat.beq h0 h with
      | true=>
       rw[hb] at hd;cases hd;have:=ab hb;subst this;exact⟨o,ho,e2,e3⟩
      | false=>rw[hb] at hd;exact i3 h o' hd
    ·cases h
   ·cases h
  ·cases h
end
end Go.DN
/-
 DN,part P:into a loop or a join,and out of it.
-/
namespace Go.DN
open Go.AM
section
variable {S:eI}
def TV.bad (ks:List Nat):TV S→Bool
 | .aL h _=>!(bA h ks)
 | .agg l=>go ks l
 | .bB l=>go ks l
 | .ba _ l=>go ks l
 | _=>false
where go (ks:List Nat):List (TV S)→Bool
 | []=>false
 | x::r=>x.bad ks||go ks r
mutual
theorem nC {ln ln':Nat→Nat}{ks:List Nat}(h:∀k,k∈ks→ln k=ln' k):∀v:TV S,v.bad ks=false→v.er ln=v.er ln'
 | .aD f τ a,_=>rfl
 | .ptr f τ a,_=>rfl
 | .agg l,e=>congrArg G.agg (rc h l e)
 | .bB l,e=>congrArg G.bB (rc h l e)
 | .ba f l,e=>congrArg (G.ba f) (rc h l e)
 | .loc _ _,_=>rfl
 | .iK _ _ _ _,_=>rfl
 | .aL k τ,e=>congrArg (G.aL k (S.sz τ) 0) (h k (bQ.1 (by simpa[TV.bad] using e)))
 | .sub _ _ _ _,_=>rfl
 | .cW _,_=>rfl
 | .mp _,_=>rfl
 | .ks _ _ _ _,_=>rfl
 | .kp _ _ _ _,_=>rfl
 | .iF _ _ _ _ _,_=>rfl
 | .gw _ _ _,_=>rfl
 | .dX _ _,_=>rfl
 | .val _,_=>rfl
 | .any,_=>rfl
theorem rc {ln ln':Nat→Nat}{ks:List Nat}(h:∀k,k∈ks→ln k=ln' k):∀l:List (TV S),TV.bad.go ks l=false→TV.er.go ln l=TV.er.go ln' l
 | [],_=>rfl
 | x::r,e=>by
  simp only[TV.bad.go,bi] at e;simp only[TV.er.go];rw[nC h x e.1,rc h r e.2]
end
def TO.bad (ks:List Nat):TO S→Bool
 | .box _ _ cs=>TV.bad.go ks cs
 | .arr ..=>false
 | .lp _ _ cs=>TV.bad.go ks cs
 | .deep ..=>false
theorem TO.nC {ln ln':Nat→Nat}{ks:List Nat}(h:∀k,k∈ks→ln k=ln' k) (o:TO S) (e:o.bad ks=false):o.er ln=o.er ln':=by
 cases o with
 | box e' m cs=>simp only[TO.er];rw[rc h cs e]
 | arr e' m f τ l=>rfl
 | lp p n cs=>simp only[TO.er];rw[rc h cs e]
 | deep=>rfl
def cj {α:Type}(D:List Nat):List (Nat×α)→List (Nat×α)
 | []=>[]
 | x::r=>match bA x.1 D with
  | true=>cj D r
  | false=>x::cj D r
theorem kX {D:List Nat}:∀{fr:List (Nat×TV S)}{d:Nat},bp (cj D fr) d=match bA d D with | true=>none | false=>bp fr d
 | [],d=>by simp only[cj,bp];cases bA d D <;> rfl
 | (t,v)::r,d=>by
  simp only[cj];cases hb:Nat.beq t d with
  | true=>
   have:=ab hb;subst this;cases hm:bA t D with
   | true=>simp only;rw[kX,hm]
   | false=>simp only[bp,hb,cond_true]
  | false=>
   cases hm:bA t D with
   | true=>simp only;rw[kX];simp only[bp,hb,cond_false]
   | false=>simp only[bp,hb,cond_false];exact kX
theorem j4 {D:List Nat}:∀{st:List (Nat×TO S)}{d:Nat},aA (cj D st) d=match bA d D with | true=>none | false=>aA st d
 | [],d=>by simp only[cj,aA];cases bA d D <;> rfl
 | (t,v)::r,d=>by
  simp only[cj];cases hb:Nat.beq t d with
  | true=>
   have:=ab hb;subst this;cases hm:bA t D with
   | true=>simp only;rw[j4,hm]
   | false=>simp only[aA,hb,cond_true]
  | false=>
   cases hm:bA t D with
   | true=>simp only;rw[j4];simp only[aA,hb,cond_false]
   | false=>simp only[aA,hb,cond_false];exact j4
mutual
def Sh.owns:Sh→List Nat
 | .aD _ _=>[]
 | .ptr _ _=>[]
 | .own h _=>[h]
 | .loc _ _=>[]
 | .ba _ l=>uf l
 | .agg l=>uf l
 | .cW _=>[]
 | .mp _=>[]
 | .any=>[]
 | .nD=>[]
 | .sub _ _=>[]
 | .iF _ _=>[]
 | .gw _ _=>[]
 | .dX _=>[]
 | .ks _ _=>[]
def uf:List Sh→List Nat
 | []=>[]
 | x::r=>x.owns++uf r
end
def pn:List (Nat×Sh)→List Nat
 | []=>[]
 | (_,x)::r=>x.owns++pn r
def Oh.owns:Oh→List Nat
 | .arr ..=>[]
 | .box _ _ cs=>uf cs
 | .lp _ _ cs=>uf cs
 | .deep ..=>[]
def rA:List (Nat×Oh)→List Nat
 | []=>[]
 | (_,x)::r=>x.owns++rA r
mutual
theorem Ah (ks:List Nat):∀(sh:Sh) (ls:List (bn S.α)),(∀k,k∈sh.owns→k∈ks)→(gT sh ls).1.bad ks=false
 | .aD f τ,ls,_=>by cases ls <;> rfl
 | .ptr f τ,ls,_=>by cases ls <;> rfl
 | .own k τ,ls,h=>by
  show(!(bA k ks))=false;rw[bQ.2 (h k (by simp[Sh.owns]))];rfl
 | .loc _ _,ls,_=>rfl
 | .ba f l,ls,h=>qa ks l ls h
 | .agg l,ls,h=>qa ks l ls h
 | .cW _,ls,_=>rfl
 | .mp _,ls,_=>rfl
 | .any,ls,_=>rfl
 | .gw _ _,ls,_=>by
  simp only[gT];split <;> rfl
 | .dX _,ls,_=>by
  simp only[gT];split <;> rfl
 | .nD,ls,_=>by
  simp only[gT];split <;> rfl
 | .sub _ _,ls,_=>by
  simp only[gT];split <;> rfl
 | .ks _ _,ls,_=>by
  simp only[gT];split <;> rfl
 | .iF _ _,ls,_=>by
  simp only[gT];split <;> rfl
theorem qa (ks:List Nat):∀(l:List Sh) (ls:List (bn S.α)),(∀k,k∈uf l→k∈ks)→TV.bad.go ks (dh l ls).1=false
 | [],_,_=>rfl
 | sh::r,ls,hk=>by
  simp only[dh,TV.bad.go,Ah ks sh ls fun k hk'=>hk k (by simp[uf,hk']),qa ks r _ fun k hk'=>hk k (by simp[uf,hk']),Bool.or_self]
end
theorem GJ (ks:List Nat):∀(l:List (Nat×Sh)) (ls:List (bn S.α)),(∀k,k∈pn l→k∈ks)→∀d v,bp (cC l ls).1 d=some v→v.bad ks=false
 | [],ls,_,d,v,h=>by cases h
 | (d0,sh)::r,ls,hk,d,v,h=>by
  simp only[cC,bp] at h;cases hb:Nat.beq d0 d with
  | true=>rw[hb] at h;cases h;exact Ah ks sh ls fun k hk'=>hk k (by simp[pn,hk'])
  | false=>rw[hb] at h;exact GJ ks r _ (fun k hk'=>hk k (by simp[pn,hk'])) d v h
theorem QH (ks:List Nat) (oh:Oh) (ls:List (bn S.α)) (h:∀k,k∈oh.owns→k∈ks):(nl oh ls).1.bad ks=false:=by
 cases oh with
 | arr e m f τ=>
  unfold nl;dsimp only;split <;> rfl
 | box e m cs=>exact qa ks cs ls h
 | lp key lv cs=>
  unfold nl;dsimp only;split
  ·split
   ·exact qa ks cs _ h
   ·rfl
  ·exact qa ks cs ls h
 | deep e m f dk τ=>
  unfold nl;dsimp only;split <;> rfl
theorem vr (ks:List Nat):∀(l:List (Nat×Oh)) (ls:List (bn S.α)),(∀k,k∈rA l→k∈ks)→∀h o,aA (cg l ls).1 h=some o→o.bad ks=false
 | [],ls,_,d,v,h=>by cases h
 | (d0,oh)::r,ls,hk,d,v,h=>by
  simp only[cg,aA] at h;cases hb:Nat.beq d0 d with
  | true=>rw[hb] at h;cases h;exact QH ks oh ls fun k hk'=>hk k (by simp[rA,hk'])
  | false=>rw[hb] at h;exact vr ks r _ (fun k hk'=>hk k (by simp[rA,hk'])) d v h
theorem told {t u:ae S}{aw:List (Nat×Sh)}{aQ:List (Nat×Oh)}{xs ys:List (bn S.α)}{F':List (Nat×TV S)}{O':List (Nat×TO S)}{ks:List Nat}
  (hp:FZ t.ca aw=some xs) (hq:zE t.bl aQ=some ys) (hf:u.ca=(cC aw (xs++ys)).1++F') (ho:u.bl=(cg aQ ys).1++O')
  (hF:∀d v,bp F' d=some v→bp t.ca d=some v∧v.bad ks=false) (hO:∀h o,aA O' h=some o→aA t.bl h=some o∧o.bad ks=false)
  (hk:∀k,k∈ks→t.ln k=u.ln k) (h1:∀k,k∈pn aw→k∈ks) (h2:∀k,k∈rA aQ→k∈ks) (hdf:u.df=t.df) (hdg:TV.bad.go ks t.df=false):Gh t.er u.er:=by
 obtain⟨p1,p2⟩:=zG t.ln hp ys;obtain⟨q1,_,q2⟩:=Ez t.ln t.er.st u.er.st hq [];rw[bM] at q2;refine Gh.typed (fun d v' hv'=>?_) (fun h o' ho'=>?_) ?_
 ·rw[hf,qV] at hv';split at hv'
  ·rename_i v1 e;cases hv';obtain⟨v,e1,e2⟩:=p2 d _ e;refine⟨v,e1,CV.rw ?_⟩;rw[←nC hk _ (GJ ks aw _ h1 d _ e)];exact e2
  ·obtain⟨e1,e2⟩:=hF d v' hv';refine⟨v',e1,?_⟩;rw[nC hk v' e2];exact CV.refl _ _ _
 ·rw[ho,eC] at ho';split at ho'
  ·rename_i v1 e;cases ho';obtain⟨o,e1,e2,e3⟩:=q2 h _ e;refine⟨o,e1,?_⟩;rw[←TO.nC hk _ (vr ks aQ _ h2 h _ e)];exact e3
  ·obtain⟨e1,e2⟩:=hO h o' ho';refine⟨o',e1,?_⟩;rw[TO.nC hk o' e2];exact wQ.refl _ _ _
 ·rw[hdf];exact rc hk _ hdg
def tI (ks:List Nat):List (Nat×TV S)→List Nat
 | []=>[]
 | (t,v)::r=>match v.bad ks with
  | true=>t::tI ks r
  | false=>tI ks r
def na (ks:List Nat):List (Nat×TO S)→List Nat
 | []=>[]
 | (t,o)::r=>match o.bad ks with
  | true=>t::na ks r
  | false=>na ks r
def stay (H:List Nat):List (Nat×TO S)→List Nat
 | []=>[]
 | (t,o)::r=>match o with
  | .arr ..=>match bA t H with
   | true=>stay H r
   | false=>t::stay H r
  | .deep ..=>match bA t H with
   | true=>stay H r
   | false=>t::stay H r
  | _=>stay H r
theorem AU {ks:List Nat}:∀{fr:List (Nat×TV S)}{d:Nat}{v:TV S},bp fr d=some v→bA d (tI ks fr)=false→v.bad ks=false
 | [],_,_,h,_=>by cases h
 | (t,v')::r,d,v,h,hm=>by
  simp only[bp] at h;simp only[tI] at hm;cases hb:v'.bad ks with
  | true=>
   rw[hb] at hm;simp only[bA] at hm;cases ht:Nat.beq t d with
   | true=>rw[ht] at hm;cases hm
   | false=>rw[ht] at hm h;exact AU h hm
  | false=>
   rw[hb] at hm;cases ht:Nat.beq t d with
   | true=>rw[ht] at h;cases h;exact hb
   | false=>rw[ht] at h;exact AU h hm
theorem AT {ks:List Nat}:∀{st:List (Nat×TO S)}{d:Nat}{o:TO S},aA st d=some o→bA d (na ks st)=false→o.bad ks=false
 | [],_,_,h,_=>by cases h
 | (t,v')::r,d,v,h,hm=>by
  simp only[aA] at h;simp only[na] at hm;cases hb:v'.bad ks with
  | true=>
   rw[hb] at hm;simp only[bA] at hm;cases ht:Nat.beq t d with
   | true=>rw[ht] at hm;cases hm
   | false=>rw[ht] at hm h;exact AT h hm
  | false=>
   rw[hb] at hm;cases ht:Nat.beq t d with
   | true=>rw[ht] at h;cases h;exact hb
   | false=>rw[ht] at h;exact AT h hm
end
end Go.DN
/-
 DN,part Q:states taken apart and put together again.
-/
namespace Go.DN
open Go.AM
section
variable {S:eI}
theorem CP {ks ks':List Nat}(h:∀k,k∈ks→k∈ks'):∀v:TV S,v.bad ks=false→v.bad ks'=false:=by
 intro v;exact TV.rec (motive_1:=fun v=>v.bad ks=false→v.bad ks'=false) (motive_2:=fun l=>TV.bad.go ks l=false→TV.bad.go ks' l=false)
  (fun _ _ _ _=>rfl) (fun _ _ _ _=>rfl) (fun l ih e=>ih e) (fun l ih e=>ih e) (fun _ _ _=>rfl) (fun _ _ _ _ _=>rfl)
  (fun k τ e=>by
   have:bA k ks=true:=by simpa[TV.bad] using e
   show(!(bA k ks'))=false;rw[bQ.2 (h k (bQ.1 this))];rfl)
  (fun _ _ _ _ _=>rfl) (fun _ l ih e=>ih e) (fun _ _=>rfl) (fun _ _=>rfl) (fun _ _ _ _ _=>rfl) (fun _ _ _ _ _=>rfl) (fun _ _ _ _ _ _=>rfl) (fun _ _ _ _=>rfl) (fun _ _ _=>rfl) (fun _ _=>rfl) (fun _=>rfl) (fun _=>rfl)
  (fun x r i1 i2 e=>by
   simp only[TV.bad.go,bi] at e⊢;exact⟨i1 e.1,i2 e.2⟩) v
theorem uH {ks ks':List Nat}(h:∀k,k∈ks→k∈ks'):∀l:List (TV S),TV.bad.go ks l=false→TV.bad.go ks' l=false
 | [],_=>rfl
 | x::r,e=>by
  simp only[TV.bad.go,bi] at e⊢;exact⟨CP h x e.1,uH h r e.2⟩
theorem J0 {ks ks':List Nat}(h:∀k,k∈ks→k∈ks') (o:TO S) (e:o.bad ks=false):o.bad ks'=false:=by
 cases o with
 | box e' m cs=>exact uH h cs e
 | arr=>rfl
 | lp p n cs=>exact uH h cs e
 | deep=>rfl
def aE {α:Type}:List (Nat×α)→List Nat
 | []=>[]
 | x::r=>x.1::aE r
def apart (a b:List Nat):Bool:=match a with
 | []=>true
 | x::r=>match bA x b with
  | true=>false
  | false=>apart r b
theorem apart_spec {b:List Nat}:∀{a:List Nat},apart a b=true→∀x,x∈a→x∉b
 | [],_,x,h=>by cases h
 | y::r,h,x,hx=>by
  simp only[apart] at h;cases hm:bA y b with
  | true=>rw[hm] at h;cases h
  | false=>
   rw[hm] at h;rcases bf.1 hx with e | hx
   ·subst e;intro hb;rw[bQ.2 hb] at hm;cases hm
   ·exact apart_spec h x hx
def within (a b:List Nat):Bool:=match a with
 | []=>true
 | x::r=>match bA x b with
  | true=>within r b
  | false=>false
theorem oG {b:List Nat}:∀{a:List Nat},within a b=true→∀x,x∈a→x∈b
 | [],_,x,h=>by cases h
 | y::r,h,x,hx=>by
  simp only[within] at h;cases hm:bA y b with
  | false=>rw[hm] at h;cases h
  | true=>
   rw[hm] at h;rcases bf.1 hx with e | hx
   ·subst e;exact bQ.1 hm
   ·exact oG h x hx
theorem Bx:∀{fr:List (Nat×TV S)}{d:Nat}{v:TV S},bp fr d=some v→d∈aE fr
 | [],_,_,h=>by cases h
 | (t,v')::r,d,v,h=>by
  simp only[bp] at h;cases hb:Nat.beq t d with
  | true=>have:=ab hb;subst this;exact ar
  | false=>rw[hb] at h;exact ap _ (Bx h)
theorem uq:∀{st:List (Nat×TO S)}{d:Nat}{o:TO S},aA st d=some o→d∈aE st
 | [],_,_,h=>by cases h
 | (t,v')::r,d,v,h=>by
  simp only[aA] at h;cases hb:Nat.beq t d with
  | true=>have:=ab hb;subst this;exact ar
  | false=>rw[hb] at h;exact ap _ (uq h)
theorem K6 {fr:List (Nat×TV S)}{d:Nat}(h:d∉aE fr):bp fr d=none:=by
 cases e:bp fr d with
 | none=>rfl
 | some v=>exact absurd (Bx e) h
theorem nz {st:List (Nat×TO S)}{d:Nat}(h:d∉aE st):aA st d=none:=by
 cases e:aA st d with
 | none=>rfl
 | some v=>exact absurd (uq e) h
theorem pw:∀{st:List (Nat×TO S)}{k:Nat},k∈aE st→∃o,aA st k=some o
 | [],_,h=>by cases h
 | (y,g)::r,k,h=>by
  simp only[aA];cases hb:Nat.beq y k with
  | true=>exact⟨g,rfl⟩
  | false=>
   rcases bf.1 h with e2 | h2
   ·subst e2;rw[aW] at hb;cases hb
   ·exact pw h2
theorem la:∀(l:List (Nat×Oh)) (ls:List (bn S.α)),aE (cg l ls).1=aE l
 | [],_=>rfl
 | (d,sh)::r,ls=>by simp only[cg,aE,la r]
structure Cut where
 D:List Nat
 DO:List Nat
 ks:List Nat
def eU (s:ae S) (A H B:List Nat):Cut:=
 {D:=A++(B++tI (stay H s.bl) s.ca),DO:=H++na (stay H s.bl) s.bl,ks:=stay H s.bl}
def Q3 (s:ae S) (c:Cut):Bool:=
 apart c.ks c.DO&&(!(TV.bad.go c.ks s.df)&&(apart (aE s.lo) c.D&&apart (aE s.bN) c.DO))
theorem Lg {H:List Nat}:∀{st:List (Nat×TO S)}{k:Nat},k∈stay H st→k∉H∧k∈aE st
 | [],_,h=>by cases h
 | (t,o)::r,k,h=>by
  have key:k∈stay H r→k∉H∧k∈aE ((t,o)::r):=fun h=>let ⟨h1,h2⟩:=Lg h;⟨h1,ap _ h2⟩;cases o with
  | arr e m f τ l=>
   simp only[stay] at h;cases hm:bA t H with
   | true=>rw[hm] at h;exact key h
   | false=>
    rw[hm] at h;rcases bf.1 h with e | h
    ·subst e;exact⟨fun hh=>(by rw[bQ.2 hh] at hm;cases hm),ar⟩
    ·exact key h
  | deep e m f dk τ l=>
   simp only[stay] at h;cases hm:bA t H with
   | true=>rw[hm] at h;exact key h
   | false=>
    rw[hm] at h;rcases bf.1 h with e | h
    ·subst e;exact⟨fun hh=>(by rw[bQ.2 hh] at hm;cases hm),ar⟩
    ·exact key h
  | _=>exact key h
def qM {α:Type}(D:List Nat):List (Nat×α)→List (Nat×α)
 | []=>[]
 | x::r=>match bA x.1 D with
  | true=>x::qM D r
  | false=>qM D r
theorem u7 {D:List Nat}:∀{fr:List (Nat×TV S)}{d:Nat},bp (qM D fr) d=match bA d D with | true=>bp fr d | false=>none
 | [],d=>by simp only[qM,bp];cases bA d D <;> rfl
 | (t,v)::r,d=>by
  simp only[qM];cases hb:Nat.beq t d with
  | true=>
   have:=ab hb;subst this;cases hm:bA t D with
   | true=>simp only[bp,hb,cond_true]
   | false=>simp only;rw[u7,hm]
  | false=>
   cases hm:bA t D with
   | true=>simp only[bp,hb,cond_false];exact u7
   | false=>simp only;rw[u7];simp only[bp,hb,cond_false]
theorem vi {D:List Nat}:∀{fr:List (Nat×TO S)}{d:Nat},aA (qM D fr) d=match bA d D with | true=>aA fr d | false=>none
 | [],d=>by simp only[qM,aA];cases bA d D <;> rfl
 | (t,v)::r,d=>by
  simp only[qM];cases hb:Nat.beq t d with
  | true=>
   have:=ab hb;subst this;cases hm:bA t D with
   | true=>simp only[aA,hb,cond_true]
   | false=>simp only;rw[vi,hm]
  | false=>
   cases hm:bA t D with
   | true=>simp only[aA,hb,cond_false];exact vi
   | false=>simp only;rw[vi];simp only[aA,hb,cond_false]
def Ax (s:ae S) (c:Cut):ae S:={fr:=qM c.D s.ca,lo:=cj c.D s.ca,st:=qM c.DO s.bl,bN:=cj c.DO s.bl,df:=s.df,nx:=s.nx,last:=s.last}
theorem HF {s t:ae S}(h1:∀d,bp t.ca d=bp s.ca d) (h2:∀d,aA t.bl d=aA s.bl d) (h3:t.df=s.df):Gh s.er t.er:=by
 have hln:t.ln=s.ln:=by
  funext k;show cp t.bl k=cp s.bl k;unfold cp;rw[h2]
 refine Gh.typed (fun d v' hv'=>⟨v',by rw[←h1];exact hv',?_⟩) (fun h o' ho'=>⟨o',by rw[←h2];exact ho',?_⟩) (by rw[h3,hln])
 ·rw[hln];exact CV.refl _ _ _
 ·rw[hln];exact wQ.refl _ _ _
theorem Jg {s t:ae S}(h1:∀d,bp t.ca d=bp s.ca d) (h2:∀d,aA t.bl d=aA s.bl d) (h3:t.last=s.last) (hl:aO s):aO t:=by
 intro d h x hm;rw[h3] at hm;obtain⟨i,bI,m,f,τ,l,a,e1,e2,e3⟩:=hl d h x hm;exact⟨i,bI,m,f,τ,l,a,by rw[h1];exact e1,by rw[h2];exact e2,e3⟩
theorem Aw (s:ae S) (c:Cut):∀d,bp (Ax s c).ca d=bp s.ca d:=by
 intro d;show bp (qM c.D s.ca++cj c.D s.ca) d=_;rw[qV,u7,kX];cases bA d c.D with
 | true=>dsimp only;cases bp s.ca d <;> rfl
 | false=>rfl
theorem M5 (s:ae S) (c:Cut):∀d,aA (Ax s c).bl d=aA s.bl d:=by
 intro d;show aA (qM c.DO s.bl++cj c.DO s.bl) d=_;rw[eC,vi,j4];cases bA d c.DO with
 | true=>dsimp only;cases aA s.bl d <;> rfl
 | false=>rfl
theorem M6 (s:ae S) (c:Cut) (hl:aO s):Gh s.er (Ax s c).er∧aO (Ax s c):=
 ⟨HF (Aw s c) (M5 s c) rfl,Jg (Aw s c) (M5 s c) rfl hl⟩
def flat (s:ae S) (c:Cut) (t:ae S):ae S:={fr:=t.fr++cj c.D s.fr,lo:=s.lo,st:=t.st++cj c.DO s.st,bN:=s.bN,df:=s.df,nx:=t.nx,last:=t.last}
theorem E1 {α:Type}{D:List Nat}:∀{l:List (Nat×α)},apart (aE l) D=true→cj D l=l
 | [],_=>rfl
 | x::r,h=>by
  simp only[aE,apart] at h;simp only[cj];cases hm:bA x.1 D with
  | true=>rw[hm] at h;cases h
  | false=>rw[hm] at h;dsimp only;rw[E1 h]
theorem Cq {α:Type}{D:List Nat}:∀(l l':List (Nat×α)),cj D (l++l')=cj D l++cj D l'
 | [],_=>rfl
 | x::r,l'=>by
  simp only[bU,cj];cases bA x.1 D <;> simp[Cq r l']
structure vF (s:ae S) (c:Cut):Prop where
 ks:∀k,k∈c.ks→k∉c.DO
 df:TV.bad.go c.ks s.df=false
 lo:cj c.D s.ca=cj c.D s.fr++s.lo
 bN:cj c.DO s.bl=cj c.DO s.st++s.bN
theorem Q2 {s:ae S}{c:Cut}(h:Q3 s c=true):vF s c:=by
 unfold Q3 at h;simp only[af,aS] at h;obtain⟨h1,h2,h3,h4⟩:=h;exact⟨apart_spec h1,h2,by unfold ae.ca;rw[Cq,E1 h3],by unfold ae.bl;rw[Cq,E1 h4]⟩
theorem O1 {s t:ae S}{c:Cut}(hc:vF s c) (h1:t.lo=cj c.D s.ca) (h2:t.bN=cj c.DO s.bl) (h3:t.df=s.df) (hl:aO t):Gh t.er (flat s c t).er∧aO (flat s c t)∧bC s (flat s c t):=by
 have e1:(flat s c t).ca=t.ca:=by
  show(t.fr++cj c.D s.fr)++s.lo=t.fr++t.lo;rw[h1,hc.lo,aR]
 have e2:(flat s c t).bl=t.bl:=by
  show(t.st++cj c.DO s.st)++s.bN=t.st++t.bN;rw[h2,hc.bN,aR]
 exact⟨HF (fun d=>by rw[e1]) (fun d=>by rw[e2]) h3.symm,Jg (s:=t) (t:=flat s c t) (fun d=>by rw[e1]) (fun d=>by rw[e2]) rfl hl,⟨rfl,rfl,rfl⟩⟩
def zF (s:ae S) (j:JH):Option (List (bn S.α)):=
 match FZ s.ca j.aw with
 | some xs=>match zE s.bl j.aQ with
  | some ys=>some (xs++ys)
  | none=>none
 | none=>none
def uM:List Nat→Nat→Nat
 | [],n=>n
 | x::r,n=>uM r (bif Nat.ble n x&&Nat.blt x 500 then x+1 else n)
def mD (s:ae S) (c:Cut) (j:JH) (ls:List (bn S.α)):ae S:=
 {fr:=(cC j.aw ls).1,lo:=cj c.D s.ca,st:=(cg j.aQ (cC j.aw ls).2).1,bN:=cj c.DO s.bl,df:=s.df,nx:=uM (aE j.aQ) s.nx,last:=[]}
def s9 (s:ae S) (c:Cut) (j:JH) (ls:List (bn S.α)):ae S:=
 {fr:=(cC j.aw ls).1++cj c.D s.fr,lo:=s.lo,st:=(cg j.aQ (cC j.aw ls).2).1++cj c.DO s.st,bN:=s.bN,df:=s.df,nx:=uM (aE j.aQ) s.nx,last:=[]}
def DU (c:Cut) (j:JH):Bool:=within (pn j.aw++rA j.aQ) (c.ks++aE j.aQ)&&apart c.ks (aE j.aQ)
def Nx (t:ae S):Bool:=apart (aE t.fr) (aE t.lo)&&apart (aE t.st) (aE t.bN)
theorem W4 {s:ae S}{c:Cut}(hc:vF s c) (j:JH) (ls:List (bn S.α)):(s9 s c j ls).ca=(mD s c j ls).ca:=by
 show((cC j.aw ls).1++cj c.D s.fr)++s.lo=(cC j.aw ls).1++cj c.D s.ca;rw[hc.lo,aR]
theorem W3 {s:ae S}{c:Cut}(hc:vF s c) (j:JH) (ls:List (bn S.α)):(s9 s c j ls).bl=(mD s c j ls).bl:=by
 show((cg j.aQ (cC j.aw ls).2).1++cj c.DO s.st)++s.bN=(cg j.aQ (cC j.aw ls).2).1++cj c.DO s.bl;rw[hc.bN,aR]
theorem BX {st:List (Nat×TO S)}{l:List (Nat×Oh)}{ys:List (bn S.α)}(h:zE st l=some ys) (k:Nat) (hk:k∈aE l):∃o o',aA (cg l ys).1 k=some o'∧aA st k=some o∧o'.len=o.len:=by
 obtain⟨_,_,q⟩:=Ez (fun _=>0) [] [] h [];rw[bM] at q;obtain⟨o',e⟩:=pw (st:=(cg l ys).1) (k:=k) (by rw[la];exact hk);obtain⟨o,h1,h2,_⟩:=q k o' e;exact⟨o,o',e,h1,h2⟩
theorem OW {s:ae S}{c:Cut}{A H B:List Nat}{j:JH}{ls:List (bn S.α)}(hcc:c=eU s A H B) (hc:vF s c) (hj:DU c j=true) (hp:zF s j=some ls):Gh s.er (mD s c j ls).er:=by
 unfold zF at hp;split at hp
 ·rename_i xs hx;split at hp
  ·rename_i ys hy;cases hp;obtain⟨p1,_⟩:=zG s.ln hx ys;unfold DU at hj;simp only[af] at hj;obtain⟨j1,j2⟩:=hj;have j1:=oG j1;have j2:=apart_spec j2;have hks:∀k,k∈c.ks++aE j.aQ→s.ln k=(mD s c j (xs++ys)).ln k:=by
    intro k hk;show cp s.bl k=cp (mD s c j (xs++ys)).bl k;have est:(mD s c j (xs++ys)).bl=(cg j.aQ ys).1++cj c.DO s.bl:=by
     show(cg j.aQ (cC j.aw (xs++ys)).2).1++cj c.DO s.bl=_;rw[p1]
    rw[est];unfold cp;rw[eC];rcases dl.1 hk with hk | hk
    ·have:aA (cg j.aQ ys).1 k=none:=nz (by rw[la];exact j2 k hk);rw[this];dsimp only;rw[j4];have:bA k c.DO=false:=by
      cases hm:bA k c.DO with
      | false=>rfl
      | true=>exact absurd (bQ.1 hm) (hc.ks k hk)
     rw[this]
    ·obtain⟨o,o',e1,e2,e3⟩:=BX hy k hk;rw[e1,e2];exact e3.symm
   refine told (u:=mD s c j (xs++ys)) (F':=cj c.D s.ca) (O':=cj c.DO s.bl) hx hy rfl ?_ (fun d v hv=>?_) (fun h o ho=>?_) hks (fun k hk=>j1 k (bY _ hk)) (fun k hk=>j1 k (ct _ hk)) rfl (uH (fun k hk=>bY _ hk) _ hc.df)
   ·show(cg j.aQ (cC j.aw (xs++ys)).2).1++cj c.DO s.bl=_;rw[p1]
   ·rw[kX] at hv;cases hm:bA d c.D with
    | true=>rw[hm] at hv;cases hv
    | false=>
     rw[hm] at hv;refine⟨hv,CP (fun k hk=>bY _ hk) v (AU hv ?_)⟩;subst hcc;cases hq:bA d (tI (eU s A H B).ks s.ca) with
     | false=>rfl
     | true=>
      rw[bQ.2 (show d∈(eU s A H B).D from ct _ (ct _ (bQ.1 hq)))] at hm;cases hm
   ·rw[j4] at ho;cases hm:bA h c.DO with
    | true=>rw[hm] at ho;cases ho
    | false=>
     rw[hm] at ho;refine⟨ho,J0 (fun k hk=>bY _ hk) o (AT ho ?_)⟩;subst hcc;cases hq:bA h (na (eU s A H B).ks s.bl) with
     | false=>rfl
     | true=>
      rw[bQ.2 (show h∈(eU s A H B).DO from ct _ (bQ.1 hq))] at hm;cases hm
  ·cases hp
 ·cases hp
theorem SP {s t:ae S}{c:Cut}{A H B:List Nat}{j:JH}{ls:List (bn S.α)}(hcc:c=eU s A H B) (hc:vF s c) (hj:DU c j=true) (h1:t.lo=cj c.D s.ca) (h2:t.bN=cj c.DO s.bl) (h3:t.df=s.df)
  (ha:Nx t=true) (hp:zF t j=some ls):Gh t.er (mD s c j ls).er:=by
 unfold zF at hp;split at hp
 ·rename_i xs hx;split at hp
  ·rename_i ys hy;cases hp;obtain⟨p1,_⟩:=zG t.ln hx ys;unfold DU at hj;simp only[af] at hj;obtain⟨j1,j2⟩:=hj;have j1:=oG j1;have j2:=apart_spec j2;unfold Nx at ha;simp only[af] at ha;have a1:=apart_spec ha.1;have a2:=apart_spec ha.2;have tf:∀{d v},bp t.lo d=some v→bp t.ca d=some v:=by
    intro d v hv;show bp (t.fr++t.lo) d=_;rw[qV,K6 fun hd=>a1 d hd (Bx hv)];exact hv
   have of:∀{d o},aA t.bN d=some o→aA t.bl d=some o:=by
    intro d v hv;show aA (t.st++t.bN) d=_;rw[eC,nz fun hd=>a2 d hd (uq hv)];exact hv
   have hgood:∀{d v},bp (cj c.D s.ca) d=some v→v.bad c.ks=false:=by
    intro d v hv;rw[kX] at hv;cases hm:bA d c.D with
    | true=>rw[hm] at hv;cases hv
    | false=>
     rw[hm] at hv;refine AU hv ?_;subst hcc;cases hq:bA d (tI (eU s A H B).ks s.ca) with
     | false=>rfl
     | true=>
      rw[bQ.2 (show d∈(eU s A H B).D from ct _ (ct _ (bQ.1 hq)))] at hm;cases hm
   have hgoodO:∀{d o},aA (cj c.DO s.bl) d=some o→o.bad c.ks=false:=by
    intro h o ho;rw[j4] at ho;cases hm:bA h c.DO with
    | true=>rw[hm] at ho;cases ho
    | false=>
     rw[hm] at ho;refine AT ho ?_;subst hcc;cases hq:bA h (na (eU s A H B).ks s.bl) with
     | false=>rfl
     | true=>
      rw[bQ.2 (show h∈(eU s A H B).DO from ct _ (bQ.1 hq))] at hm;cases hm
   have hkst:∀k,k∈c.ks→∃o,aA (cj c.DO s.bl) k=some o:=by
    intro k hk;rw[j4];have:bA k c.DO=false:=by
     cases hm:bA k c.DO with
     | false=>rfl
     | true=>exact absurd (bQ.1 hm) (hc.ks k hk)
    rw[this];have hk2:k∈aE s.bl:=by subst hcc;exact(Lg hk).2
    exact pw hk2
   have hks:∀k,k∈c.ks++aE j.aQ→t.ln k=(mD s c j (xs++ys)).ln k:=by
    intro k hk;show cp t.bl k=cp (mD s c j (xs++ys)).bl k;have est:(mD s c j (xs++ys)).bl=(cg j.aQ ys).1++cj c.DO s.bl:=by
     show(cg j.aQ (cC j.aw (xs++ys)).2).1++cj c.DO s.bl=_;rw[p1]
    rw[est];unfold cp;rw[eC];rcases dl.1 hk with hk | hk
    ·have:aA (cg j.aQ ys).1 k=none:=nz (by rw[la];exact j2 k hk);rw[this];dsimp only;obtain⟨o,ho⟩:=hkst k hk;rw[ho];rw[of (by rw[h2];exact ho)]
    ·obtain⟨o,o',e1,e2,e3⟩:=BX hy k hk;rw[e1,e2];exact e3.symm
   refine told (u:=mD s c j (xs++ys)) (F':=cj c.D s.ca) (O':=cj c.DO s.bl) hx hy rfl ?_ (fun d v hv=>⟨tf (by rw[h1];exact hv),CP (fun k hk=>bY _ hk) v (hgood hv)⟩)
    (fun h o ho=>⟨of (by rw[h2];exact ho),J0 (fun k hk=>bY _ hk) o (hgoodO ho)⟩) hks (fun k hk=>j1 k (bY _ hk)) (fun k hk=>j1 k (ct _ hk)) h3.symm (by rw[h3];exact uH (fun k hk=>bY _ hk) _ hc.df)
   show(cg j.aQ (cC j.aw (xs++ys)).2).1++cj c.DO s.bl=_;rw[p1]
  ·cases hp
 ·cases hp
end
end Go.DN
/-
 DN,part R:code.
-/
namespace Go.DN
open Go.AM
section
variable {S:eI}
def TV.ZI (τ:Ty) (v:TV S):List Nat:=match τ with
 | .pt _=>match v with
  | .loc h 0=>[h]
  | _=>[]
 | _=>v.P4
mutual
def P7:Sh→TV S→List Nat
 | .aD _ τ,v=>v.ZI τ
 | .ba _ l,v=>match v with
  | .ba _ vs=>KD l vs
  | _=>[]
 | .agg l,v=>match v with
  | .agg vs=>KD l vs
  | _=>[]
 | _,_=>[]
def KD:List Sh→List (TV S)→List Nat
 | sh::r,v::vs=>P7 sh v++KD r vs
 | _,_=>[]
end
def P8 (fr:List (Nat×TV S)):List (Nat×Sh)→List Nat
 | []=>[]
 | (d,sh)::r=>match bp fr d with
  | some v=>P7 sh v++P8 fr r
  | none=>P8 fr r
def F8 (st:List (Nat×TO S)):List (Nat×Oh)→List Nat
 | []=>[]
 | (h,.box _ _ cs)::r=>match aA st h with
  | some (.box _ _ vs)=>KD cs vs++F8 st r
  | _=>F8 st r
 | _::r=>F8 st r
def GN (h:Nat):List (Nat×Oh)→Option TypeId
 | []=>none
 | (k,.arr e _ _ _)::r=>bif Nat.beq k h then some e else GN h r
 | (k,.deep e _ _ _ _)::r=>bif Nat.beq k h then some e else GN h r
 | _::r=>GN h r
def Vn (h:Nat):List (Nat×Oh)→Option TypeId
 | []=>none
 | (k,.deep _ _ _ (.wq kty) _)::r=>bif Nat.beq k h then some kty else Vn h r
 | _::r=>Vn h r
def xv (s:ae S) (h:Nat):ae S:=match s.free h with
 | true=>s
 | false=>match Dj s h with
  | some s'=>s'
  | none=>s
theorem Va {s:ae S}{h:Nat}(hl:aO s):Gh s.er (xv s h).er∧aO (xv s h)∧bC s (xv s h):=by
 unfold xv;split
 ·exact⟨Gh.refl _,hl,bC.refl s⟩
 ·split
  ·rename_i s' hs;exact GC hl hs
  ·exact⟨Gh.refl _,hl,bC.refl s⟩
def Lc (s:ae S) (d h:Nat):ae S:=match bp s.ca d with
 | some (.aL h' τ)=>match Nat.beq h' h with
  | true=>match aA s.bl h' with
   | some (.arr _ _ _ τ' l)=>s.put d (.sub h' τ 0 (List.length l))
   | _=>s
  | false=>s
 | _=>s
theorem WJ {s:ae S}(d h:Nat) (hl:aO s):Gh s.er (Lc s d h).er∧aO (Lc s d h)∧bC s (Lc s d h):=by
 unfold Lc;split
 ·rename_i h' τ hx;split
  ·split
   ·rename_i τ' l ho;refine⟨?_,hl.put _ _,⟨rfl,rfl,rfl⟩⟩;rw[iJ];have e1:get s.er.fr d=some (.aL h' (S.sz τ) 0 (List.length l)):=by
     rw[show get s.er.fr d=_ from fU hx];show some (G.aL _ _ 0 (s.ln h'))=_;rw[pA ho]
    have e2:(TV.sub h' τ 0 (List.length l):TV S).er s.ln=.aL h' (S.sz τ) 0 (List.length l):=by
     show G.aL _ _ (0*_) _=_;rw[gJ]
    rw[e2];refine Gh.gen (s:=s.er) (t:=s.er.put d (.aL h' (S.sz τ) 0 (List.length l))) (fun x g' hg=>?_) (fun x k' hk=>⟨k',hk,wQ.refl _ _ _⟩) rfl;simp only[St.put,iS] at hg;cases hb:Nat.beq d x with
    | true=>
     rw[hb] at hg;cases hg;have:=ab hb;subst this;exact⟨_,e1,CV.refl _ _ _⟩
    | false=>
     rw[hb] at hg;exact⟨g',hg,CV.refl _ _ _⟩
   ·exact⟨Gh.refl _,hl,bC.refl s⟩
  ·exact⟨Gh.refl _,hl,bC.refl s⟩
 ·exact⟨Gh.refl _,hl,bC.refl s⟩
def pU (aQ:List (Nat×Oh)):List (Nat×Sh)→ae S→Option (ae S)
 | [],s=>some s
 | (d,.own h τ)::r,s=>match bp s.ca d with
  | some (.val (.slice none 0 0))=>match GN h aQ with
   | some e=>match bp (xv s h).ca d with
    | some (.val (.slice none 0 0))=>match (xv s h).free h with
     | true=>match Vn h aQ with
      | none=>pU aQ r ((xv s h).pb h d e τ)
      | some kty=>Ku ((xv s h).pb h d e τ) h kty fun s=>pU aQ r s
     | false=>none
    | _=>none
   | none=>none
  | _=>pU aQ r s
 | (d,.sub h _)::r,s=>pU aQ r (Lc s d h)
 | _::r,s=>pU aQ r s
theorem eJ {aQ:List (Nat×Oh)}:∀{l:List (Nat×Sh)}{s t:ae S},aO s→pU aQ l s=some t→Gh s.er t.er∧aO t∧bC s t
 | [],s,t,hl,h=>by cases h;exact⟨Gh.refl _,hl,bC.refl s⟩
 | (d,.aD _ _)::r,s,t,hl,h=>eJ (l:=r) hl h
 | (d,.ptr _ _)::r,s,t,hl,h=>eJ (l:=r) hl h
 | (d,.loc _ _)::r,s,t,hl,h=>eJ (l:=r) hl h
 | (d,.ba _ _)::r,s,t,hl,h=>eJ (l:=r) hl h
 | (d,.agg _)::r,s,t,hl,h=>eJ (l:=r) hl h
 | (d,.cW _)::r,s,t,hl,h=>eJ (l:=r) hl h
 | (d,.gw _ _)::r,s,t,hl,h=>eJ (l:=r) hl h
 | (d,.dX _)::r,s,t,hl,h=>eJ (l:=r) hl h
 | (d,.mp _)::r,s,t,hl,h=>eJ (l:=r) hl h
 | (d,.any)::r,s,t,hl,h=>eJ (l:=r) hl h
 | (d,.nD)::r,s,t,hl,h=>eJ (l:=r) hl h
 | (d,.sub hh _)::r,s,t,hl,h=>by
  obtain⟨a1,a2,a3⟩:=WJ d hh hl;obtain⟨b1,b2,b3⟩:=eJ (l:=r) a2 h;exact⟨a1.trans b1,b2,a3.trans b3⟩
 | (d,.iF _ _)::r,s,t,hl,h=>eJ (l:=r) hl h
 | (d,.ks _ _)::r,s,t,hl,h=>eJ (l:=r) hl h
 | (d,.own hh τ)::r,s,t,hl,h=>by
  simp only[pU] at h;split at h
  ·rename_i hx;split at h
   ·rename_i e _;split at h
    ·rename_i hx2;split at h
     ·rename_i hf;obtain⟨z1,z2,z3⟩:=Va (h:=hh) hl;obtain⟨a1,a2⟩:=FB (e:=e) (τ:=τ) z2 hx2 hf;split at h
      ·obtain⟨b1,b2,b3⟩:=eJ (l:=r) a2 h;exact⟨z1.trans (Gh.trans a1 b1),b2,z3.trans ⟨b3.lo,b3.bN,b3.df⟩⟩
      ·obtain⟨t0,c1,c2,c3,h⟩:=K4 a2 h;obtain⟨b1,b2,b3⟩:=eJ (l:=r) c2 h;exact⟨z1.trans (Gh.trans a1 (Gh.trans c1 b1)),b2,z3.trans ⟨b3.lo.trans c3.lo,b3.bN.trans c3.bN,b3.df.trans c3.df⟩⟩
     ·cases h
    ·cases h
   ·cases h
  ·exact eJ hl h
def Ld (s:ae S) (h j hd:Nat):ae S:=match aA s.st h with
 | some (.box e m cs)=>match cs[j]? with
  | some (.aL h' τ)=>match Nat.beq h' hd with
   | true=>match aA s.bl h' with
    | some (.arr _ _ _ τ' l)=>s.set h (.box e m (cs.set j (.sub h' τ 0 (List.length l))))
    | _=>s
   | false=>s
  | _=>s
 | _=>s
theorem WL {s:ae S}(h j hd:Nat) (hl:aO s):Gh s.er (Ld s h j hd).er∧aO (Ld s h j hd)∧bC s (Ld s h j hd):=by
 unfold Ld;split
 ·rename_i e m cs ho;split
  ·rename_i h' τ hj;split
   ·split
    ·rename_i τ' l ho2;refine⟨?_,hl.set ho _,⟨rfl,rfl,rfl⟩⟩;obtain⟨e1,_⟩:=pu (o':=.box e m (cs.set j (.sub h' τ 0 (List.length l)))) ho rfl;rw[e1];have e2:(TV.sub h' τ 0 (List.length l):TV S).er s.ln=(TV.aL h' τ:TV S).er s.ln:=by
      show G.aL _ _ (0*_) _=G.aL _ _ 0 (s.ln h');rw[gJ,pA ho2]
     have e3:TV.er.go s.ln (cs.set j (.sub h' τ 0 (List.length l)))=TV.er.go s.ln cs:=by
      rw[cP,nP,cP,e2];apply du;intro q;rw[dN];split
      ·rename_i hq;subst hq;rw[ak,hj];split
       ·rfl
       ·rename_i hlt;have:=(ai.1 hj).1;rw[aN] at hlt;exact absurd this hlt
      ·rfl
     have e4:(TO.box e m (cs.set j (.sub h' τ 0 (List.length l))):TO S).er s.ln=(TO.box e m cs:TO S).er s.ln:=by
      show av.mk _ _ _ _ _ _ _=av.mk _ _ _ _ _ _ _;rw[e3]
     rw[e4,BL (eB (fR ho))];exact Gh.refl _
    ·exact⟨Gh.refl _,hl,bC.refl s⟩
   ·exact⟨Gh.refl _,hl,bC.refl s⟩
  ·exact⟨Gh.refl _,hl,bC.refl s⟩
 ·exact⟨Gh.refl _,hl,bC.refl s⟩
def PG (h:Nat):List (Nat×Oh)→Option (Bool×Nat)
 | []=>none
 | (k,.deep _ _ _ (.sm i) (.st n))::r=>bif Nat.beq k h then some (i,n) else PG h r
 | _::r=>PG h r
theorem Gh.aah {s:St}(hd:Nat) (k:av) (hf:fresh s hd=true) (hk:∀O base w μ,aV O base w μ k none):Gh s {fr:=s.fr,st:=(hd,k)::s.st,df:=s.df}:=fun N cx μ a w h=>by
 refine⟨lk μ hd none,h.yM hd k hf hk,Gh.same fun x k1 b m hx hm=>?_⟩
 by_cases e1:x=hd
 ·subst e1;rw[b7] at hm;cases hm
 ·rw[aZ e1] at hm;rw[aB _ _ e1] at hx;exact⟨k1,hx,hm⟩
theorem TE {s:ae S}{h j hd n0 n:Nat}{e':TypeId}{m i:Bool}{cs:List (TV S)}{a0:S.α n0}(hl:aO s) (ho:aA s.st h=some (.box e' m cs)) (hj:cs[j]?=some (.val (.map none))) (hf:s.free hd=true) (ha:S.cells n0 a0=[⟨.list (.st n),[]⟩]):
  Gh s.er ((s.add hd (.deep 0 true true (.sm i) (.st n0) a0)).set h (.box e' m (cs.set j (.dX true hd)))).er∧aO ((s.add hd (.deep 0 true true (.sm i) (.st n0) a0)).set h (.box e' m (cs.set j (.dX true hd)))):=by
 obtain⟨e1,hag⟩:=pV hf (.deep 0 true true (.sm i) (.st n0) a0) rfl;obtain⟨f1,f2,f3,f4,f5⟩:=free_spec hf;have hne:h≠hd:=fun e=>by subst e;rw[fR ho] at f1;cases f1
 have hne':Nat.beq hd h=false:=by
  cases hb:Nat.beq hd h with
  | false=>rfl
  | true=>exact absurd (ab hb).symm hne
 have ho2:aA (s.add hd (.deep 0 true true (.sm i) (.st n0) a0)).st h=some (.box e' m cs):=by
  show aA ((hd,_)::s.st) h=_;simp only[aA,hne',cond_false];exact ho
 obtain⟨g1,_⟩:=pu (o':=.box e' m (cs.set j (.dX true hd))) ho2 rfl;refine⟨?_,(hl.add _ hf).set ho2 _⟩;rw[g1,e1];have hcs:TV.has.go hd cs=false:=ud (fR ho) f3;have e3:(TO.box e' m (cs.set j (.dX true hd)):TO S).er (s.add hd (.deep 0 true true (.sm i) (.st n0) a0)).ln=(TO.box e' m cs:TO S).er s.ln:=by
  have e4:TV.er.go (s.add hd (.deep 0 true true (.sm i) (.st n0) a0)).ln (cs.set j (.dX true hd))=TV.er.go s.ln cs:=by
   rw[cP,nP,←cP,←pJ hag cs hcs];apply du;intro q;rw[dN];split
   ·rename_i hq;subst hq;rw[cP,ak,hj];split
    ·rfl
    ·rename_i hlt;have:=(ai.1 hj).1;rw[aN] at hlt;exact absurd this hlt
   ·rfl
  show av.mk _ _ _ _ _ _ _=av.mk _ _ _ _ _ _ _;rw[e4]
 rw[e3];have hs:ay ((hd,(TO.deep 0 true true (.sm i) (.st n0) a0:TO S).er s.ln)::s.er.st) h=some ((TO.box e' m cs:TO S).er s.ln):=by
  rw[aB _ _ hne];exact ga (fR ho)
 show Gh s.er ⟨_,dF ((hd,(TO.deep 0 true true (.sm i) (.st n0) a0:TO S).er s.ln)::s.er.st) h _,_⟩;rw[BL hs];refine Gh.aah hd _ (gu hf) fun O base w μ=>?_;show _∧_;refine⟨rfl,?_⟩;show(qK (S:=S) i (.st n0) a0=[])∧true=true;exact⟨by rw[zu ha];rfl,rfl⟩
def IX (aQ:List (Nat×Oh)) (h j hd:Nat) (s:ae S):Option (ae S):=match aA s.st h with
 | some (.box e' m cs)=>match cs[j]? with
  | some (.val (.map none))=>match PG hd aQ with
   | some (i,n0)=>match aA (mG s hd).st h with
    | some (.box e' m cs)=>match cs[j]? with
     | some (.val (.map none))=>match (mG s hd).free hd with
      | true=>match S.cX n0 with
       | [.list (.st n)]=>match S.put n0 [⟨.list (.st n),[]⟩] with
        | some a0=>some (((mG s hd).add hd (.deep 0 true true (.sm i) (.st n0) a0)).set h (.box e' m (cs.set j (.dX true hd))))
        | none=>none
       | _=>none
      | false=>none
     | _=>none
    | _=>none
   | none=>none
  | _=>some s
 | _=>some s
theorem Rh {aQ:List (Nat×Oh)}{h j hd:Nat}{s t:ae S}(hl:aO s) (hh:IX aQ h j hd s=some t):Gh s.er t.er∧aO t∧bC s t:=by
 unfold IX at hh;split at hh
 ·split at hh
  ·split at hh
   ·rename_i i n0 _;obtain⟨z1,z2,z3⟩:=wj hd hl;split at hh
    ·rename_i ho2;split at hh
     ·rename_i hj2;split at hh
      ·rename_i hf;split at hh
       ·rename_i n hn;split at hh
        ·rename_i a0 ha;cases hh;obtain⟨a1,a2⟩:=TE (i:=i) z2 ho2 hj2 hf (S.gZ n0 _ a0 ha);exact⟨z1.trans a1,a2,z3.trans ⟨rfl,rfl,rfl⟩⟩
        ·cases hh
       ·cases hh
      ·cases hh
     ·cases hh
    ·cases hh
   ·cases hh
  ·cases hh;exact⟨Gh.refl _,hl,bC.refl s⟩
 ·cases hh;exact⟨Gh.refl _,hl,bC.refl s⟩
def nG (aQ:List (Nat×Oh)) (h:Nat):Nat→List Sh→ae S→Option (ae S)
 | _,[],s=>some s
 | j,.own hd τ::r,s=>match aA s.st h with
  | some (.box e' m cs)=>match cs[j]? with
   | some (.val (.slice none 0 0))=>match GN hd aQ with
    | some e=>match aA (mG s hd).st h with
     | some (.box e' m cs)=>match cs[j]? with
      | some (.val (.slice none 0 0))=>match (mG s hd).free hd with
       | true=>nG aQ h (j+1) r (((mG s hd).add hd (.arr e true true τ [])).set h (.box e' m (cs.set j (.aL hd τ))))
       | false=>none
      | _=>none
     | _=>none
    | none=>none
   | _=>nG aQ h (j+1) r s
  | _=>nG aQ h (j+1) r s
 | j,.sub hd _::r,s=>nG aQ h (j+1) r (Ld s h j hd)
 | j,.dX hd::r,s=>match IX aQ h j hd s with
  | some s'=>nG aQ h (j+1) r s'
  | none=>none
 | j,_::r,s=>nG aQ h (j+1) r s
theorem eX {aQ:List (Nat×Oh)}{h:Nat}:∀{l:List Sh}{j:Nat}{s t:ae S},aO s→nG aQ h j l s=some t→Gh s.er t.er∧aO t∧bC s t
 | [],_,s,t,hl,h=>by cases h;exact⟨Gh.refl _,hl,bC.refl s⟩
 | .aD _ _::r,_,s,t,hl,h=>eX (l:=r) hl h
 | .ptr _ _::r,_,s,t,hl,h=>eX (l:=r) hl h
 | .loc _ _::r,_,s,t,hl,h=>eX (l:=r) hl h
 | .ba _ _::r,_,s,t,hl,h=>eX (l:=r) hl h
 | .agg _::r,_,s,t,hl,h=>eX (l:=r) hl h
 | .cW _::r,_,s,t,hl,h=>eX (l:=r) hl h
 | .gw _ _::r,_,s,t,hl,h=>eX (l:=r) hl h
 | .dX hd::r,j,s,t,hl,hh=>by
  simp only[nG] at hh;split at hh
  ·rename_i s' hs;obtain⟨a1,a2,a3⟩:=Rh hl hs;obtain⟨b1,b2,b3⟩:=eX (l:=r) a2 hh;exact⟨a1.trans b1,b2,a3.trans b3⟩
  ·cases hh
 | .mp _::r,_,s,t,hl,h=>eX (l:=r) hl h
 | .any::r,_,s,t,hl,h=>eX (l:=r) hl h
 | .nD::r,_,s,t,hl,h=>eX (l:=r) hl h
 | .sub hd _::r,j,s,t,hl,hh=>by
  obtain⟨a1,a2,a3⟩:=WL h j hd hl;obtain⟨b1,b2,b3⟩:=eX (l:=r) a2 hh;exact⟨a1.trans b1,b2,a3.trans b3⟩
 | .iF _ _::r,_,s,t,hl,h=>eX (l:=r) hl h
 | .ks _ _::r,_,s,t,hl,h=>eX (l:=r) hl h
 | .own hd τ::r,j,s,t,hl,h=>by
  simp only[nG] at h;split at h
  ·rename_i e' m cs ho;split at h
   ·rename_i hj;split at h
    ·rename_i e _;obtain⟨z1,z2,z3⟩:=wj hd hl;split at h
     ·rename_i ho2;split at h
      ·rename_i hj2;split at h
       ·rename_i hf;obtain⟨a1,a2⟩:=TG (e:=e) (τ:=τ) z2 ho2 hj2 hf;obtain⟨b1,b2,b3⟩:=eX (l:=r) a2 h;exact⟨z1.trans (Gh.trans a1 b1),b2,z3.trans ⟨b3.lo,b3.bN,b3.df⟩⟩
       ·cases h
      ·cases h
     ·cases h
    ·cases h
   ·exact eX (l:=r) hl h
  ·exact eX (l:=r) hl h
def zk (aQ:List (Nat×Oh)):List (Nat×Oh)→ae S→Option (ae S)
 | [],s=>some s
 | (h,.box _ _ cs)::r,s=>match nG aQ h 0 cs s with
  | some s'=>zk aQ r s'
  | none=>none
 | _::r,s=>zk aQ r s
theorem sP {aQ:List (Nat×Oh)}:∀{l:List (Nat×Oh)}{s t:ae S},aO s→zk aQ l s=some t→Gh s.er t.er∧aO t∧bC s t
 | [],s,t,hl,h=>by cases h;exact⟨Gh.refl _,hl,bC.refl s⟩
 | (_,.arr _ _ _ _)::r,s,t,hl,h=>sP (l:=r) hl h
 | (_,.deep _ _ _ _ _)::r,s,t,hl,h=>sP (l:=r) hl h
 | (_,.lp _ _ _)::r,s,t,hl,h=>sP (l:=r) hl h
 | (_,.box _ _ cs)::r,s,t,hl,h=>by
  simp only[zk] at h;split at h
  ·rename_i s' hs;obtain⟨a1,a2,a3⟩:=eX hl hs;obtain⟨b1,b2,b3⟩:=sP (l:=r) a2 h;exact⟨a1.trans b1,b2,a3.trans b3⟩
  ·cases h
def Hq (aw:List (Nat×Sh)) (aQ:List (Nat×Oh)) (s:ae S):Option (ae S):=match pU aQ aw s with
 | some s'=>zk aQ aQ s'
 | none=>none
theorem J5 {aw:List (Nat×Sh)}{aQ:List (Nat×Oh)}{s t:ae S}(hl:aO s) (h:Hq aw aQ s=some t):Gh s.er t.er∧aO t∧bC s t:=by
 unfold Hq at h;split at h
 ·rename_i s' hs;obtain⟨a1,a2,a3⟩:=eJ hl hs;obtain⟨b1,b2,b3⟩:=sP a2 h;exact⟨a1.trans b1,b2,a3.trans b3⟩
 ·cases h
def FX (s:ae S) (j:JH):Option (ae S):=match Hq j.aw j.aQ s with
 | some s'=>sv (P8 s'.ca j.aw++F8 s'.bl j.aQ) s'
 | none=>none
theorem Eu {s t:ae S}{j:JH}(hl:aO s) (h:FX s j=some t):Gh s.er t.er∧aO t∧bC s t:=by
 unfold FX at h;split at h
 ·rename_i s' hs;obtain⟨a1,a2,a3⟩:=J5 hl hs;obtain⟨b1,b2,b3⟩:=oc a2 h;exact⟨a1.trans b1,b2,a3.trans b3⟩
 ·cases h
def carry (t:ae S) (j:JH):Option (bB S.α j.cX):=
 match FX t j with
 | some t'=>match Nx t' with
  | true=>match zF t' j with
   | some ls=>nR j.cX ls
   | none=>none
  | false=>none
 | none=>none
theorem AB {s t:ae S}{c:Cut}{A H B:List Nat}{j:JH}{q:bB S.α j.cX}(hcc:c=eU s A H B) (hc:vF s c) (hj:DU c j=true) (h1:t.lo=cj c.D s.ca) (h2:t.bN=cj c.DO s.bl) (h3:t.df=s.df) (hl:aO t)
  (h:carry t j=some q):Gh t.er (mD s c j (leaves j.cX q)).er:=by
 unfold carry at h;split at h
 ·rename_i t' hp;obtain⟨a1,a2,a3⟩:=Eu hl hp;split at h
  ·rename_i ha;split at h
   ·rename_i ls hls;rw[hZ h];exact a1.trans (SP hcc hc hj (a3.lo.trans h1) (a3.bN.trans h2) (a3.df.trans h3) ha hls)
   ·cases h
  ·cases h
 ·cases h
theorem xE {s t:ae S}{c:Cut}{A H B:List Nat}{j:JH}{q:bB S.α j.cX}(hcc:c=eU s A H B) (hc:vF s c) (hj:DU c j=true) (h1:t.lo=cj c.D s.ca) (h2:t.bN=cj c.DO s.bl) (h3:t.df=s.df) (hl:aO t)
  (h:carry t j=some q):Gh t.er (s9 s c j (leaves j.cX q)).er:=
 (AB hcc hc hj h1 h2 h3 hl h).trans (HF (fun d=>by rw[W4 hc]) (fun d=>by rw[W3 hc]) rfl)
inductive Hint where
 | join (j:JH)
 | mC (j:JH)
 | loop (j:JH) (id:Nat) (x:JH)
 | dv (j:JH) (id:Nat) (x:JH)
 | gY (W:List Nat)
 | cO (W:List Nat) (j:JH)
 | fz (l:List Nat)
 | tr (d:Nat)
 | th (h kty:Nat)
 | RT (key hd:Nat)
def kO:List (Nat×Hint)→Nat→Option Hint
 | [],_=>none
 | (k,h)::r,p=>bif Nat.beq k p then some h else kO r p
def rj:List Oper→List Nat
 | []=>[]
 | o::r=>match o.dst with
  | some d=>d::rj r
  | none=>rj r
def nb:Code→List Nat
 | .region _ ops _=>rj ops.toList
 | .seq a b=>nb a++nb b
 | .cond _ a b=>nb a++nb b
 | .block _ c=>nb c
 | .loop c=>nb c
 | .scope c=>nb c
 | .rangeFunc _ ps a b=>ps.toList++(nb a++nb b)
 | _=>[]
def kC:Code→Nat
 | .seq x y=>kC x+kC y+1
 | .cond _ x y=>kC x+kC y+1
 | .block _ c=>kC c+1
 | .loop c=>kC c+1
 | .scope c=>kC c+1
 | _=>1
abbrev Ht (S:eI):=ae S→(B:Type)→(Exit→ae S→Option B)→Option B
def mi (s:ae S) (c:Cut) (j:JH):Bool:=Q3 s c&&DU c j
def Dh:Exit→Bool
 | .panic _=>true
 | _=>false
def zR (s:ae S) (c:Cut) (j:JH) (at_:Exit→Bool) (run:Ht S){A:Type}(K:Exit→ae S→Option A):Option A:=
 match mi s c j with
 | true=>Option.bind (run (Ax s c) (bB S.α j.cX) fun e t=>match at_ e with
   | true=>carry t j
   | false=>none) fun q=>K .normal (s9 s c j (leaves j.cX q))
 | false=>none
def De (s:ae S) (c:Cut) (j:JH) (at_:Exit→Bool) (run:Ht S){A:Type}(K:Exit→ae S→Option A):Option A:=
 match mi s c j with
 | true=>bd (fun r=>r) (run (Ax s c) (Ex (bB S.α j.cX) A) fun e t=>match at_ e with
   | true=>match carry t j with
    | some q=>some (.bJ q)
    | none=>none
   | false=>match K e (flat s c t) with
     | some r=>some (.ret r)
     | none=>none) fun q=>K .normal (s9 s c j (leaves j.cX q))
 | false=>none
def oa:Exit→Bool
 | .normal=>true
 | _=>false
def z7 (id:Nat):Exit→Bool
 | .normal=>true
 | .exit id'=>Nat.beq id' id
 | _=>false
def Qj (fu:Nat) (s:ae S) (c:Cut) (j:JH) (id:Nat) (x:JH) (run:Ht S){A:Type}(K:Exit→ae S→Option A):Option A:=
 match mi s c j&&DU c x with
 | true=>match zF s j with
   | some ls=>match nR j.cX ls with
    | some q0=>Option.bind (aP (fun q=>run (mD s c j (leaves j.cX q)) (bB S.α j.cX⊕bB S.α x.cX) fun e t=>match e with
      | .normal=>match carry t j with
       | some q=>some (.inl q)
       | none=>none
      | .exit id'=>match Nat.beq id' id with
       | true=>match carry t x with
        | some q=>some (.inr q)
        | none=>none
       | false=>none
      | _=>none) fu q0) fun q=>K (.exit id) (s9 s c x (leaves x.cX q))
    | none=>none
   | none=>none
 | false=>none
def dv (fu:Nat) (s:ae S) (c:Cut) (j:JH) (id:Nat) (x:JH) (run:Ht S){A:Type}(K:Exit→ae S→Option A):Option A:=
 match mi s c j&&DU c x with
 | true=>match zF s j with
   | some ls=>match nR j.cX ls with
    | some q0=>bd (fun r=>r) (aP (fun q=>run (mD s c j (leaves j.cX q)) (bB S.α j.cX⊕Ex (bB S.α x.cX) A) fun e t=>match e with
      | .normal=>match carry t j with
       | some q=>some (.inl q)
       | none=>none
      | .exit id'=>match Nat.beq id' id with
       | true=>match carry t x with
        | some q=>some (.inr (.bJ q))
        | none=>none
       | false=>match K (.exit id') (flat s c t) with
        | some r=>some (.inr (.ret r))
        | none=>none
      | e=>match K e (flat s c t) with
        | some r=>some (.inr (.ret r))
        | none=>none) fu q0) fun q=>K (.exit id) (s9 s c x (leaves x.cX q))
    | none=>none
   | none=>none
 | false=>none
def PW (h:Option Hint) (s:ae S){A:Type}(k:ae S→Option A):Option A:=
 match h with
 | some (.fz l)=>match sv l s with
  | some s'=>k s'
  | none=>none
 | some (.tr d)=>Bw s (.tmp d) k
 | some (.th h kty)=>Ku s h kty k
 | _=>k s
theorem Oj {h:Option Hint}{s:ae S}{A:Type}{k:ae S→Option A}{r:A}(hl:aO s) (e:PW h s k=some r):∃t,Gh s.er t.er∧aO t∧bC s t∧k t=some r:=by
 unfold PW at e;split at e
 ·split at e
  ·rename_i s' hz;obtain⟨a1,a2,a3⟩:=oc hl hz;exact⟨s',a1,a2,a3,e⟩
  ·cases e
 ·exact Bv hl e
 ·exact K4 hl e
 ·exact⟨s,Gh.refl _,hl,bC.refl s,e⟩
def mV:Code→Nat→List (Nat×Array Tmp×Code×Code)
 | .seq x y,p=>mV x (p+1)++mV y (p+1+kC x)
 | .cond _ x y,p=>mV x (p+1)++mV y (p+1+kC x)
 | .block _ c,p=>mV c (p+1)
 | .loop c,p=>mV c (p+1)
 | .rangeFunc _ ps a b,p=>[(p,ps,a,b)]
 | _,_=>[]
def qf (S:eI) (N:Nat) (H:List (Nat×Hint)):List (Nat×Array Tmp×Code×Code)→Prop
 | []=>True
 | (p,ps,a,b)::r=>(match kO H p with
  | some (.RT key _)=>(S.fJ key).N=N∧(S.fJ key).ps=ps∧(S.fJ key).nF=a∧(S.fJ key).body=b
  | _=>True)∧qf S N H r
theorem qf.J2 {N:Nat}{H:List (Nat×Hint)}:∀{a b:List (Nat×Array Tmp×Code×Code)},qf S N H (a++b)→qf S N H a∧qf S N H b
 | [],b,h=>⟨trivial,h⟩
 | x::r,b,h=>⟨⟨h.1,(qf.J2 h.2).1⟩,(qf.J2 h.2).2⟩
structure Cl (S:eI) where
 call:(Nat→Bool)→(A:Type)→(List PanicEntry→ae S→Option A)→ae S→Option Nat→Call→(ae S→Option A)→Option A
 rf:(key hd:Nat)→ae S→Operand→(A:Type)→(Exit→ae S→Option A)→Option A
def yK (ds:List Nat):List (Nat×TV S)→Bool
 | []=>true
 | (d,_)::r=>!(bA d ds)&&yK ds r
def forget (ds:List Nat) (s:ae S):ae S:={s with fr:=cj ds s.fr,last:=[]}
def DQ (ops:Array Oper){A:Type}(K:Exit→ae S→Option A) (ch:List PanicEntry) (t:ae S):Option A:=
 match yK (rj ops.toList) t.lo with
 | true=>K (.panic ch) (forget (rj ops.toList) t)
 | false=>none
noncomputable def iC (P:Program) (N fu:Nat) (H:List (Nat×Hint)) (cl:Cl S):Code→Nat→ae S→(A:Type)→(Exit→ae S→Option A)→Option A
 | .skip,_,s,_,K=>K .normal s
 | .region _ ops draw,p,s,A,K=>match kO H p with
  | some (.cO W j)=>zR s (eU s (rj ops.toList) (aE j.aQ) (aE j.aw)) j oa (fun s' B K'=>match draw with
   | true=>xC P N (fun h=>bA h W) W ops (cl.call (fun h=>bA h W) B (DQ ops K')) s' (K' .normal)
   | false=>rZ P N (fun h=>Nat.blt h 1100) ops.toList (cl.call (fun h=>Nat.blt h 1100) B fun ch=>K' (.panic ch)) ops.toList s' (K' .normal)) K
  | some (.gY W)=>match draw with
   | true=>xC P N (fun h=>bA h W) W ops (cl.call (fun h=>bA h W) A (DQ ops K)) s (K .normal)
   | false=>rZ P N (fun h=>Nat.blt h 1100) ops.toList (cl.call (fun h=>Nat.blt h 1100) A fun ch=>K (.panic ch)) ops.toList s (K .normal)
  | _=>PW (kO H p) s fun s=>match draw with
   | true=>xC P N (fun h=>Nat.blt h 1100) (List.range 1100) ops (cl.call (fun h=>Nat.blt h 1100) A (DQ ops K)) s (K .normal)
   | false=>rZ P N (fun h=>Nat.blt h 1100) ops.toList (cl.call (fun h=>Nat.blt h 1100) A fun ch=>K (.panic ch)) ops.toList s (K .normal)
 | .seq x y,p,s,A,K=>PW (kO H p) s fun s=>iC P N fu H cl x (p+1) s A fun e s'=>match e with
  | .normal=>iC P N fu H cl y (p+1+kC x) s' A K
  | e=>K e s'
 | .cond o x y,p,s,A,K=>match o with
  | .tmp t=>match bp s.ca t with
   | some (.aD _ .bool b)=>match kO H p with
    | some (.join j)=>zR s (eU s (nb x++nb y) (aE j.aQ) (aE j.aw)) j oa (fun s' B K'=>cond b (iC P N fu H cl x (p+1) s' B K') (iC P N fu H cl y (p+1+kC x) s' B K')) K
    | some (.mC j)=>De s (eU s (nb x++nb y) (aE j.aQ) (aE j.aw)) j oa (fun s' B K'=>cond b (iC P N fu H cl x (p+1) s' B K') (iC P N fu H cl y (p+1+kC x) s' B K')) K
    | _=>cond b (iC P N fu H cl x (p+1) s A K) (iC P N fu H cl y (p+1+kC x) s A K)
   | _=>none
  | _=>none
 | .block id c,p,s,A,K=>match kO H p with
  | some (.join j)=>zR s (eU s (nb c) (aE j.aQ) (aE j.aw)) j (z7 id) (fun s' B K'=>iC P N fu H cl c (p+1) s' B K') K
  | some (.mC j)=>De s (eU s (nb c) (aE j.aQ) (aE j.aw)) j (z7 id) (fun s' B K'=>iC P N fu H cl c (p+1) s' B K') K
  | _=>iC P N fu H cl c (p+1) s A fun e s'=>match e with
   | .exit id'=>match Nat.beq id' id with
    | true=>K .normal s'
    | false=>K (.exit id') s'
   | e=>K e s'
 | .loop c,p,s,A,K=>match kO H p with
  | some (.loop j id x)=>match FX s j with
   | some s'=>Qj fu s' (eU s' (nb c) (aE j.aQ) (aE j.aw)) j id x (fun s' B K'=>iC P N fu H cl c (p+1) s' B K') K
   | none=>none
  | some (.dv j id x)=>match FX s j with
   | some s'=>dv fu s' (eU s' (nb c) (aE j.aQ) (aE j.aw)) j id x (fun s' B K'=>iC P N fu H cl c (p+1) s' B K') K
   | none=>none
  | _=>none
 | .exit id,_,s,_,K=>K (.exit id) s
 | .ret,_,s,_,K=>K .ret s
 | .rangeFunc g _ _ _,p,s,A,K=>match kO H p with
  | some (.RT key hd)=>cl.rf key hd s g A K
  | _=>none
 | _,_,_,_,_=>none
section
variable {P:Program}{N:Nat}{cx:Cx}
def NE (P:Program) (N:Nat) (cx:Cx) (c:Code) (run:Ht S):Prop:=
 ∀(s:ae S) (B:Type) (K:Exit→ae S→Option B) (r:B),aO s→run s B K=some r→∀Q:Exit→St→Prop,(∀e t,aO t→bC s t→K e t=some r→Q e t.er)→GW P N cx c Q s.er
theorem GW.Wf {σ ρ:Type}{c:Code}{Q:Exit→St→Prop}(E:σ→St) (R:ρ→Exit→St→Prop){body:σ→Option (σ⊕ρ)}{n:Nat}{x0:σ}{e:ρ}(hl:AM.aP body n x0=some e)
  (hr:∀x o,body x=some o→GW P N cx c (fun ex s=>match o with | .inl x'=>ex=.normal∧Gh s (E x') | .inr r=>ex≠.normal∧R r ex s) (E x)) (hq:∀ex s,ex≠.normal→R e ex s→Q ex s):GW P N cx (.loop c) Q (E x0):=by
 intro μ a w hrel;refine FH (fun k a w=>∃x μ,AM.aP body k x=some e∧Rel N cx μ (E x) a w) n ⟨x0,μ,hl,hrel⟩ ?_;rintro k a w ⟨x,μ,hI,hrel⟩;cases k with
 | zero=>exact absurd hI (by simp[AM.aP])
 | succ k=>
  simp only[AM.aP] at hI;cases hb:body x with
  | none=>rw[hb] at hI;cases hI
  | some o=>
   rw[hb] at hI;refine wpIn_mono (hr x o hb μ a w hrel) fun ex a' w' hl=>?_;cases o with
   | inl x'=>
    cases ex with
    | normal=>
     obtain⟨μ',s',hr',_,hg⟩:=hl;obtain⟨μ2,h1,_⟩:=hg N cx μ' a' w' hr';exact⟨k,Nat.lt_succ_self k,x',μ2,hI,h1⟩
    | outgrown=>exact hl.elim
    | _=>obtain⟨μ',s',hr',hq',_⟩:=hl;cases hq'
   | inr r=>
    cases hI;cases ex with
    | normal=>obtain⟨μ',s',hr',hq',_⟩:=hl;exact absurd rfl hq'
    | outgrown=>exact hl.elim
    | _=>obtain⟨μ',s',hr',hn,hq'⟩:=hl;exact⟨μ',s',hr',hq _ _ hn hq'⟩
theorem xz {s:ae S}{c:Cut}{j:JH}(h:mi s c j=true):vF s c∧DU c j=true:=by
 unfold mi at h;simp only[af] at h;exact⟨Q2 h.1,h.2⟩
theorem GW.FV {c:Code}{Q Q':Exit→St→Prop}{s:St}(h:GW P N cx c Q' s) (hq:∀e s,Q' e s→∃t,Gh s t∧Q e t):GW P N cx c Q s:=fun μ a w hr=>
 wpIn_mono (h μ a w hr) fun e a' w' hl=>by
  cases e with
  | outgrown=>exact hl.elim
  | _=>
   obtain⟨μ',s',hr',h4⟩:=hl;obtain⟨t,h5,h6⟩:=hq _ _ h4;obtain⟨μ2,h7,_⟩:=h5 N cx μ' a' w' hr';exact⟨μ2,t,h7,h6⟩
theorem G1 {s t:ae S}{c:Cut}(h:bC (Ax s c) t):t.lo=cj c.D s.ca∧t.bN=cj c.DO s.bl∧t.df=s.df:=⟨h.lo,h.bN,h.df⟩
theorem EG {code:Code}{s:ae S}{A H B:List Nat}{j:JH}{at_:Exit→Bool}{run:Ht S}{X:Type}{K:Exit→ae S→Option X}{r:X}(hat:∀e,at_ e=true→Dh e=false) (hrun:NE P N cx code run) (hl:aO s)
  (h:zR s (eU s A H B) j at_ run K=some r){Q:Exit→St→Prop}(hQ:∀e t,aO t→bC s t→K e t=some r→Q e t.er):
  GW P N cx code (fun e s'=>at_ e=true∧∃t,Gh s' t∧Q .normal t) s.er:=by
 unfold zR at h;split at h
 ·rename_i hf;obtain⟨hc,hj⟩:=xz hf;obtain⟨q,h1,h2⟩:=bind_some h;obtain⟨g1,g2⟩:=M6 s (eU s A H B) hl;refine GW.gh g1 (hrun _ _ _ q g2 h1 _ fun e t hlt hk hK=>?_);split at hK
  ·rename_i he;obtain⟨k1,k2,k3⟩:=G1 hk;exact⟨he,_,xE rfl hc hj k1 k2 k3 hlt hK,hQ _ _ (iD rfl) ⟨rfl,rfl,rfl⟩ h2⟩
  ·cases hK
 ·cases h
theorem L8 {code:Code}{s:ae S}{A H B:List Nat}{j:JH}{at_:Exit→Bool}{run:Ht S}{X:Type}{K:Exit→ae S→Option X}{r:X}(hat:∀e,at_ e=true→Dh e=false) (hrun:NE P N cx code run) (hl:aO s)
  (h:De s (eU s A H B) j at_ run K=some r){Q:Exit→St→Prop}(hQ:∀e t,aO t→bC s t→K e t=some r→Q e t.er):
  GW P N cx code (fun e s'=>(at_ e=true∧∃t,Gh s' t∧Q .normal t)∨(at_ e=false∧∃t,Gh s' t∧Q e t)) s.er:=by
 unfold De at h;split at h
 ·rename_i hf;obtain⟨hc,hj⟩:=xz hf;obtain⟨ex,h1,h2,h3⟩:=Hl h;obtain⟨g1,g2⟩:=M6 s (eU s A H B) hl;refine GW.gh g1 (hrun _ _ _ ex g2 h1 _ fun e t hlt hk hK=>?_);obtain⟨k1,k2,k3⟩:=G1 hk;split at hK
  ·rename_i he;split at hK
   ·rename_i q hq;cases hK;exact .inl ⟨he,_,xE rfl hc hj k1 k2 k3 hlt hq,hQ _ _ (iD rfl) ⟨rfl,rfl,rfl⟩ (h2 q rfl)⟩
   ·cases hK
  ·rename_i he;split at hK
   ·rename_i r' hr';cases hK;obtain⟨f1,f2,f3⟩:=O1 hc k1 k2 k3 hlt;refine .inr ⟨he,_,f1,hQ e _ f2 f3 ?_⟩;rw[hr',←h3 r' rfl]
   ·cases hK
 ·cases h
theorem UF {body:Code}{fu:Nat}{s:ae S}{A H B:List Nat}{j x:JH}{id:Nat}{run:Ht S}{X:Type}{K:Exit→ae S→Option X}{r:X}(hrun:NE P N cx body run) (hl:aO s)
  (h:Qj fu s (eU s A H B) j id x run K=some r){Q:Exit→St→Prop}(hQ:∀e t,aO t→bC s t→K e t=some r→Q e t.er):
  GW P N cx (.loop body) Q s.er:=by
 unfold Qj at h;split at h
 ·rename_i hf;simp only[af] at hf;obtain⟨hc,hj⟩:=xz hf.1;have hx:=hf.2;split at h
  ·rename_i ls hls;split at h
   ·rename_i q0 hq0;obtain⟨q,h1,h2⟩:=bind_some h;refine GW.gh (OW rfl hc hj hls) ?_;rw[←hZ hq0];refine GW.FV (GW.Wf (fun q=>(mD s (eU s A H B) j (leaves j.cX q)).er) (fun (b:bB S.α x.cX) e s'=>e=.exit id∧∃t,Gh s' t∧t=(s9 s (eU s A H B) x (leaves x.cX b)).er) h1 (Q:=fun e s'=>e=.exit id∧∃t,Gh s' t∧t=(s9 s (eU s A H B) x (leaves x.cX q)).er) (fun q' o ho=>?_) (fun e s' hne hR=>hR)) (fun e s' hR=>?_)
    ·refine hrun _ _ _ o (iD rfl) ho _ fun e t hlt hk hK=>?_;have k1:t.lo=cj (eU s A H B).D s.ca:=hk.lo;have k2:t.bN=cj (eU s A H B).DO s.bl:=hk.bN;have k3:t.df=s.df:=hk.df;split at hK
     ·split at hK
      ·rename_i q2 hq2;cases hK;exact⟨rfl,AB rfl hc hj k1 k2 k3 hlt hq2⟩
      ·cases hK
     ·split at hK
      ·rename_i hid;split at hK
       ·rename_i q2 hq2;cases hK;have:=ab hid;subst this;exact⟨fun e=>(by cases e),rfl,_,xE rfl hc hx k1 k2 k3 hlt hq2,rfl⟩
       ·cases hK
      ·cases hK
     ·cases hK
    ·obtain⟨e1,t,e2,e3⟩:=hR;subst e1;subst e3;exact⟨_,e2,hQ _ _ (iD (t:=s9 s (eU s A H B) x (leaves x.cX q)) rfl) ⟨rfl,rfl,rfl⟩ h2⟩
   ·cases h
  ·cases h
 ·cases h
def LR {β X:Type}(s:ae S) (K:Exit→ae S→Option X) (id:Nat) (out:β→St) (b:Ex β X) (e:Exit) (s':St):Prop:=
 match b with
 | .bJ b=>e=.exit id∧∃t,Gh s' t∧t=out b
 | .ret r'=>∃t:ae S,Gh s' t.er∧aO t∧bC s t∧K e t=some r'
theorem UE {body:Code}{fu:Nat}{s:ae S}{A H B:List Nat}{j x:JH}{id:Nat}{run:Ht S}{X:Type}{K:Exit→ae S→Option X}{r:X}(hrun:NE P N cx body run) (hl:aO s)
  (h:dv fu s (eU s A H B) j id x run K=some r){Q:Exit→St→Prop}(hQ:∀e t,aO t→bC s t→K e t=some r→Q e t.er):
  GW P N cx (.loop body) Q s.er:=by
 unfold dv at h;split at h
 ·rename_i hf;simp only[af] at hf;obtain⟨hc,hj⟩:=xz hf.1;have hx:=hf.2;split at h
  ·rename_i ls hls;split at h
   ·rename_i q0 hq0;obtain⟨ex,h1,h2,h3⟩:=Hl h;refine GW.gh (OW rfl hc hj hls) ?_;rw[←hZ hq0];refine GW.FV (GW.Wf (fun q=>(mD s (eU s A H B) j (leaves j.cX q)).er)
     (LR s K id fun b=>(s9 s (eU s A H B) x (leaves x.cX b)).er) h1
     (Q:=LR s K id (fun b=>(s9 s (eU s A H B) x (leaves x.cX b)).er) ex) (fun q' o ho=>?_) (fun e s' hne hR=>hR)) (fun e s' hR=>?_)
    ·refine hrun _ _ _ o (iD rfl) ho _ fun e t hlt hk hK=>?_;have k1:t.lo=cj (eU s A H B).D s.ca:=hk.lo;have k2:t.bN=cj (eU s A H B).DO s.bl:=hk.bN;have k3:t.df=s.df:=hk.df;obtain⟨f1,f2,f3⟩:=O1 hc k1 k2 k3 hlt;split at hK
     ·split at hK
      ·rename_i q2 hq2;cases hK;exact⟨rfl,AB rfl hc hj k1 k2 k3 hlt hq2⟩
      ·cases hK
     ·split at hK
      ·rename_i hid;split at hK
       ·rename_i q2 hq2;cases hK;have:=ab hid;subst this;exact⟨fun e=>(by cases e),rfl,_,xE rfl hc hx k1 k2 k3 hlt hq2,rfl⟩
       ·cases hK
      ·split at hK
       ·rename_i r' hr';cases hK;exact⟨fun e=>(by cases e),_,f1,f2,f3,hr'⟩
       ·cases hK
     ·rename_i hn1 hn2;split at hK
      ·rename_i r' hr';cases hK;exact⟨fun e=>hn1 e,_,f1,f2,f3,hr'⟩
      ·cases hK
    ·cases ex with
     | bJ b=>
      obtain⟨e1,t,e2,e3⟩:=hR;subst e1;subst e3;exact⟨_,e2,hQ _ _ (iD (t:=s9 s (eU s A H B) x (leaves x.cX b)) rfl) ⟨rfl,rfl,rfl⟩ (h2 b rfl)⟩
     | ret r'=>
      obtain⟨t,e2,e3,e4,e5⟩:=hR;refine⟨_,e2,hQ _ _ e3 e4 ?_⟩;rw[e5,←h3 r' rfl]
   ·cases h
  ·cases h
 ·cases h
end
end
end Go.DN
/-
 DN,part S:what the code does is what 'denC' says.
-/
namespace Go.DN
open Go.AM
section
variable {S:eI}{P:Program}{N:Nat}{cx:Cx}{fu:Nat}{H:List (Nat×Hint)}{cl:Cl S}
structure A1 (P:Program) (N:Nat) (cl:Cl S):Prop where
 call:∀(ok:Nat→Bool) (W:List Nat),(∀h,ok h=true→W.contains h=true)→∀(A:Type) (kp:List PanicEntry→ae S→Option A) (r:A),CU P N W (cl.call ok A kp) kp r
 cW:∀(ok:Nat→Bool) (A:Type) (kp:List PanicEntry→ae S→Option A) (r:A),V2 P N (cl.call ok A kp) r
 rf:∀(cx:Cx),cx.ro=none→∀(key hd:Nat) (g:Operand),(S.fJ key).N=N→∀(s:ae S) (B:Type) (K:Exit→ae S→Option B) (r:B),aO s→cl.rf key hd s g B K=some r→∀Q:Exit→St→Prop,(∀e t,aO t→bC s t→K e t=some r→Q e t.er)→
  GW P N cx (.rangeFunc g (S.fJ key).ps (S.fJ key).nF (S.fJ key).body) Q s.er
theorem zB:∀h,Nat.blt h 1100=true→(List.range 1100).contains h=true:=fun h hh=>gH.2 (gx.2 (by simpa[gG] using hh))
theorem OB (W:List Nat):∀h,bA h W=true→W.contains h=true:=fun h hh=>gH.2 (bQ.1 hh)
theorem Gh.lift {c:Code}{Q:Exit→St→Prop}{s:St}(h:GW P N cx c (fun e s'=>∃t,Gh s' t∧Q e t) s):GW P N cx c Q s:=
 GW.FV h fun e s' hq=>hq
theorem FA:∀{l:List Oper}{d:Nat},d∈l.filterMap (·.dst)→d∈rj l
 | [],d,h=>by cases h
 | o::r,d,h=>by
  simp only[rj];cases ho:o.dst with
  | none=>
   rw[List.filterMap_cons_none ho] at h;exact FA h
  | some x=>
   rw[List.filterMap_cons_some ho] at h;rcases bf.1 h with e | h
   ·subst e;exact ar
   ·exact ap _ (FA h)
theorem F6 {ds:List Nat}:∀{l:List (Nat×TV S)}{d:Nat},yK ds l=true→d∈ds→bp l d=none
 | [],_,_,_=>rfl
 | (k,v)::r,d,h,hm=>by
  simp only[yK,af,aS] at h;simp only[bp];cases hb:Nat.beq k d with
  | true=>
   have:=ab hb;subst this;rw[bQ.2 hm] at h;cases h.1
  | false=>exact F6 h.2 hm
theorem Cd {ln:Nat→Nat}:∀{fr:List (Nat×TV S)}{t:Nat},bp fr t=none→get (il ln fr) t=none
 | [],_,_=>rfl
 | (k,g)::r,t,h=>by
  simp only[bp] at h;simp only[il,AM.get];cases hk:Nat.beq k t with
  | true=>rw[hk] at h;cases h
  | false=>rw[hk] at h;exact Cd h
theorem QF (ds:List Nat) (s:ae S) (hn:yK ds s.lo=true) (d:Nat):bp (forget ds s).ca d=if bA d ds=true then none else bp s.ca d:=by
 show bp (cj ds s.fr++s.lo) d=if bA d ds=true then none else bp (s.fr++s.lo) d;rw[qV,qV,kX];cases h:bA d ds with
 | true=>rw[F6 hn (bQ.1 h)];rfl
 | false=>rfl
theorem Gh.aaD {s t:St}(h1:∀d g,get t.fr d=some g→get s.fr d=some g) (h2:t.st=s.st) (h3:t.df=s.df):Gh s t:=by
 obtain⟨fr,st,df⟩:=s;obtain⟨fr',st',df'⟩:=t;dsimp only at h1 h2 h3;subst h2;subst h3;exact fun N cx μ a w hr=>⟨μ,{st:=hr.st,nd:=hr.nd,sz:=hr.sz,fr:=fun d g hg=>hr.fr d g (h1 d g hg)},Gh.same fun h k b m h4 h5=>⟨k,h4,h5⟩⟩
theorem DW {ln:Nat→Nat}(fr:List (Nat×TV S)) (t:Nat):get (il ln fr) t=(bp fr t).map (TV.er ln):=by
 cases h:bp fr t with
 | none=>exact Cd h
 | some v=>exact fU h
theorem SY {ops:Array Oper}{s:ae S}(hn:yK (rj ops.toList) s.lo=true):Gh s.er (forget (rj ops.toList) s).er∧∀d,d∈wx ops→get (forget (rj ops.toList) s).er.fr d=none:=by
 have key:∀d,get (forget (rj ops.toList) s).er.fr d=if bA d (rj ops.toList)=true then none else get s.er.fr d:=by
  intro d;show get (il s.ln (forget (rj ops.toList) s).ca) d=if bA d (rj ops.toList)=true then none else get (il s.ln s.ca) d;rw[DW,DW,QF _ _ hn];split <;> rfl
 refine⟨Gh.aaD (fun d g hg=>?_) rfl rfl,fun d hd=>?_⟩
 ·rw[key] at hg;split at hg
  ·cases hg
  ·exact hg
 ·rw[key,if_pos (bQ.2 (FA hd))]
theorem BT (hm:P.follows .mixedOrders=true) (hcl:A1 P N cl) (id:Nat) (ops:Array Oper) (draw:Bool) (W:Option (List Nat)):NE P N cx (.region id ops draw) (fun s B K=>match draw with
  | true=>match W with
   | some W=>xC P N (fun h=>bA h W) W ops (cl.call (fun h=>bA h W) B (DQ ops K)) s (K .normal)
   | none=>xC P N (fun h=>Nat.blt h 1100) (List.range 1100) ops (cl.call (fun h=>Nat.blt h 1100) B (DQ ops K)) s (K .normal)
  | false=>rZ P N (fun h=>Nat.blt h 1100) ops.toList (cl.call (fun h=>Nat.blt h 1100) B fun ch=>K (.panic ch)) ops.toList s (K .normal)):=by
 intro s B K r hl h Q hQ;have hp:∀ch (t:ae S),aO t→bC s t→DQ ops K ch t=some r→∃u,Gh t.er u∧Q (.panic ch) u∧∀d,d∈wx ops→get u.fr d=none:=by
  intro ch t a b c;unfold DQ at c;split at c
  ·rename_i hn;obtain⟨f1,f2⟩:=SY hn;exact⟨_,f1,hQ (.panic ch) _ (iD rfl) ⟨b.lo,b.bN,b.df⟩ c,f2⟩
  ·cases c
 cases draw with
 | true=>
  cases W with
  | some W=>exact MT hm (OB W) (hcl.call _ _ (OB W) B (DQ ops K) r) hl h (fun t a b c=>hQ .normal t a b c) hp
  | none=>exact MT hm zB (hcl.call _ _ zB B (DQ ops K) r) hl h (fun t a b c=>hQ .normal t a b c) hp
 | false=>
  have:ops=ops.toList.toArray:=by simp
  rw[this];exact GW.region (ry zB (hcl.call _ _ zB B _ r) (hcl.cW _ B _ r) hl h (fun t a b c=>hQ .normal t a b c) fun ch t a b c=>⟨_,Gh.refl _,hQ (.panic ch) t a b c⟩)
theorem z6:∀e,oa e=true→Dh e=false:=fun e h=>by cases e <;> first | rfl | cases h
theorem OU (id:Nat):∀e,z7 id e=true→Dh e=false:=fun e h=>by cases e <;> first | rfl | cases h
theorem DM {c:Code}{Q:Exit→St→Prop}{s:St}(h:GW P N cx c (fun e s'=>oa e=true∧∃t,Gh s' t∧Q .normal t) s):GW P N cx c Q s:=
 Gh.lift (h.mono fun e s' ⟨h1,t,h2,h3⟩=>by
  cases e with
  | normal=>exact⟨t,h2,h3⟩
  | _=>cases h1)
theorem L7 {c:Code}{Q:Exit→St→Prop}{s:St}(h:GW P N cx c (fun e s'=>(oa e=true∧∃t,Gh s' t∧Q .normal t)∨(oa e=false∧∃t,Gh s' t∧Q e t)) s):GW P N cx c Q s:=
 Gh.lift (h.mono fun e s' hq=>by
  rcases hq with ⟨h1,t,h2,h3⟩ | ⟨h0,t,h2,h3⟩
  ·cases e with
   | normal=>exact⟨t,h2,h3⟩
   | _=>cases h1
  ·exact⟨t,h2,h3⟩)
theorem UC {id:Nat}{c:Code}{Q:Exit→St→Prop}{s:St}(h:GW P N cx c (fun e s'=>z7 id e=true∧∃t,Gh s' t∧Q .normal t) s):GW P N cx (.block id c) Q s:=
 GW.block (Gh.lift (h.mono fun e s' ⟨h1,t,h2,h3⟩=>by
  refine⟨t,h2,?_⟩;cases e with
  | normal=>exact h3
  | exit id'=>
   have:=ab h1;subst this;simp only[zm,if_true];exact h3
  | _=>cases h1))
theorem Sr {id:Nat}{c:Code}{Q:Exit→St→Prop}{s:St}(h:GW P N cx c (fun e s'=>(z7 id e=true∧∃t,Gh s' t∧Q .normal t)∨(z7 id e=false∧∃t,Gh s' t∧Q e t)) s):GW P N cx (.block id c) Q s:=
 GW.block (Gh.lift (h.mono fun e s' hq=>by
  rcases hq with ⟨h1,t,h2,h3⟩ | ⟨h0,t,h2,h3⟩
  ·refine⟨t,h2,?_⟩;cases e with
   | normal=>exact h3
   | exit id'=>
    have:=ab h1;subst this;simp only[zm,if_true];exact h3
   | _=>cases h1
  ·refine⟨t,h2,?_⟩;cases e with
   | normal=>exact h3
   | exit id'=>
    simp only[z7] at h0;simp only[zm];rw[if_neg (fun e=>by subst e;rw[aW] at h0;cases h0)];exact h3
   | _=>exact h3))
theorem Yp {a b:List (Nat×Array Tmp×Code×Code)}(h:a++b=[]∨cx.ro=none):a=[]∨cx.ro=none:=h.imp (fun h=>(List.append_eq_nil_iff.1 h).1) id
theorem Yo {a b:List (Nat×Array Tmp×Code×Code)}(h:a++b=[]∨cx.ro=none):b=[]∨cx.ro=none:=h.imp (fun h=>(List.append_eq_nil_iff.1 h).2) id
theorem kB (hm:P.follows .mixedOrders=true) (hcl:A1 P N cl):∀(c:Code) (p:Nat),qf S N H (mV c p)→(mV c p=[]∨cx.ro=none)→NE P N cx c (fun s B K=>iC P N fu H cl c p s B K)
 | .skip,p,_,_=>fun s B K r hl h Q hQ=>GW.skip (hQ _ s hl (bC.refl s) h)
 | .region id ops draw,p,_,_=>fun s B K r hl h Q hQ=>by
  simp only[iC] at h;split at h
  ·rename_i W j _;refine DM (EG z6 (run:=fun s B K=>match draw with
    | true=>xC P N (fun h=>bA h W) W ops (cl.call (fun h=>bA h W) B (DQ ops K)) s (K .normal)
    | false=>rZ P N (fun h=>Nat.blt h 1100) ops.toList (cl.call (fun h=>Nat.blt h 1100) B fun ch=>K (.panic ch)) ops.toList s (K .normal)) ?_ hl h hQ)
   intro s B K r hl h Q hQ;refine BT hm hcl id ops draw (some W) s B K r hl ?_ Q hQ;cases draw <;> exact h
  ·rename_i W _;refine BT hm hcl id ops draw (some W) s B K r hl ?_ Q hQ;cases draw <;> exact h
  ·obtain⟨s1,g1,g2,g3,h⟩:=Oj hl h;refine GW.gh g1 (BT hm hcl id ops draw none s1 B K r g2 ?_ Q fun e t a b c=>hQ e t a (g3.trans b) c);cases draw <;> exact h
 | .seq x y,p,hr,ho=>fun s B K r hl h Q hQ=>by
  simp only[iC] at h;obtain⟨s1,g1,g2,g3,h⟩:=Oj hl h;refine GW.gh g1 (GW.seq (kB hm hcl x _ hr.J2.1 (Yp ho) s1 B _ r g2 h _ fun e t hlt hk hK=>?_));cases e with
  | normal=>exact kB hm hcl y _ hr.J2.2 (Yo ho) t B K r hlt hK Q fun e' t' a b c=>hQ e' t' a (g3.trans (hk.trans b)) c
  | _=>exact hQ _ t hlt (g3.trans hk) hK
 | .cond o x y,p,hr,ho=>fun s B K r hl h Q hQ=>by
  simp only[iC] at h;split at h
  ·rename_i t;split at h
   ·rename_i f b hb;have hg:get s.er.fr t=some (.val (.bool b)):=by rw[show get s.er.fr t=_ from fU hb];exact congrArg some (ic f b)
    have sub:∀(s:ae S),(∀d,bp s.ca d=bp s.ca d)→True:=fun _ _=>trivial;have hrun:NE P N cx (.cond (.tmp t) x y) (fun s' B' K'=>match bp s'.ca t with
     | some (.aD _ .bool b')=>cond b' (iC P N fu H cl x (p+1) s' B' K') (iC P N fu H cl y (p+1+kC x) s' B' K')
     | _=>none):=by
     intro s' B' K' r' hl' h' Q' hQ';dsimp only at h';split at h'
     ·rename_i f' b' hb';have hg':get s'.er.fr t=some (.val (.bool b')):=by rw[show get s'.er.fr t=_ from fU hb'];exact congrArg some (ic f' b')
      refine GW.cond hg' (fun e=>?_) (fun e=>?_)
      ·subst e;exact kB hm hcl x _ hr.J2.1 (Yp ho) s' B' K' r' hl' h' Q' hQ'
      ·subst e;exact kB hm hcl y _ hr.J2.2 (Yo ho) s' B' K' r' hl' h' Q' hQ'
     ·cases h'
    split at h
    ·rename_i j _;have h2:zR s (eU s (nb x++nb y) (aE j.aQ) (aE j.aw)) j oa (fun s' B' K'=>match bp s'.ca t with
      | some (.aD _ .bool b')=>cond b' (iC P N fu H cl x (p+1) s' B' K') (iC P N fu H cl y (p+1+kC x) s' B' K')
      | _=>none) K=some r:=by
      rw[←h];unfold zR;split
      ·congr 1;dsimp only;rw[Aw,hb]
      ·rfl
     exact DM (EG z6 hrun hl h2 hQ)
    ·rename_i j _;have h2:De s (eU s (nb x++nb y) (aE j.aQ) (aE j.aw)) j oa (fun s' B' K'=>match bp s'.ca t with
      | some (.aD _ .bool b')=>cond b' (iC P N fu H cl x (p+1) s' B' K') (iC P N fu H cl y (p+1+kC x) s' B' K')
      | _=>none) K=some r:=by
      rw[←h];unfold De;split
      ·congr 1;dsimp only;rw[Aw,hb]
      ·rfl
     exact L7 (L8 z6 hrun hl h2 hQ)
    ·refine GW.cond hg (fun e=>?_) (fun e=>?_)
     ·subst e;exact kB hm hcl x _ hr.J2.1 (Yp ho) s B K r hl h Q hQ
     ·subst e;exact kB hm hcl y _ hr.J2.2 (Yo ho) s B K r hl h Q hQ
   ·cases h
  ·cases h
 | .block id c,p,hr,ho=>fun s B K r hl h Q hQ=>by
  simp only[iC] at h;split at h
  ·exact UC (EG (OU id) (kB hm hcl c _ hr ho) hl h hQ)
  ·exact Sr (L8 (OU id) (kB hm hcl c _ hr ho) hl h hQ)
  ·refine GW.block (kB hm hcl c _ hr ho s B _ r hl h _ fun e t hlt hk hK=>?_);cases e with
   | exit id'=>
    dsimp only at hK;simp only[zm];split at hK
    ·rename_i he;rw[if_pos (ab he)];exact hQ _ t hlt hk hK
    ·rename_i he;rw[if_neg (fun e=>by subst e;rw[aW] at he;cases he)];exact hQ _ t hlt hk hK
   | _=>exact hQ _ t hlt hk hK
 | .loop c,p,hr,ho=>fun s B K r hl h Q hQ=>by
  simp only[iC] at h;split at h
  ·split at h
   ·rename_i s' hp;obtain⟨a1,a2,a3⟩:=Eu hl hp;exact GW.gh a1 (UF (kB hm hcl c _ hr ho) a2 h fun e t x y z=>hQ e t x (a3.trans y) z)
   ·cases h
  ·split at h
   ·rename_i s' hp;obtain⟨a1,a2,a3⟩:=Eu hl hp;exact GW.gh a1 (UE (kB hm hcl c _ hr ho) a2 h fun e t x y z=>hQ e t x (a3.trans y) z)
   ·cases h
  ·cases h
 | .exit id,p,_,_=>fun s B K r hl h Q hQ=>GW.exit (hQ _ s hl (bC.refl s) h)
 | .ret,p,_,_=>fun s B K r hl h Q hQ=>GW.ret (hQ _ s hl (bC.refl s) h)
 | .rangeFunc g ps a b,p,hr,ho=>fun s B K r hl h Q hQ=>by
  simp only[iC] at h;split at h
  ·rename_i key hd hh;have h1:=hr.1;rw[hh] at h1;obtain⟨e1,e2,e3,e4⟩:=h1;subst e2;subst e3;subst e4;exact hcl.rf cx (ho.resolve_left fun h=>by cases h) key hd g e1 s B K r hl h Q hQ
  ·cases h
 | .scope _,p,_,_=>fun s B K r hl h Q hQ=>by simp[iC] at h
 | .label _,p,_,_=>fun s B K r hl h Q hQ=>by simp[iC] at h
 | .goto _,p,_,_=>fun s B K r hl h Q hQ=>by simp[iC] at h
 | .refuse _,p,_,_=>fun s B K r hl h Q hQ=>by simp[iC] at h
end
end Go.DN
/-
 DN,part Sb:a lent slice under a number of the call's own.
-/
namespace Go.DN
open Go.AM
mutual
theorem So {h h':Nat}:∀g:G,g.cv h=false→px h h' g=g
 | .loc x off,e=>by
  show G.loc (mv h h' x) off=_;rw[jt fun e'=>by subst e';simp[G.cv,aW] at e]
 | .aL x sz off n,e=>by
  show G.aL (mv h h' x) sz off n=_;rw[jt fun e'=>by subst e';simp[G.cv,aW] at e]
 | .cW x,e=>by
  show G.cW (mv h h' x)=_;rw[jt fun e'=>by subst e';simp[G.cv,aW] at e]
 | .eN x,e=>by
  show G.eN (mv h h' x)=_;rw[jt fun e'=>by subst e';simp[G.cv,aW] at e]
 | .ks x i sz n,e=>by
  show G.ks (mv h h' x) i sz n=_;rw[jt fun e'=>by subst e';simp[G.cv,aW] at e]
 | .kp x i off,e=>by
  show G.kp (mv h h' x) i off=_;rw[jt fun e'=>by subst e';simp[G.cv,aW] at e]
 | .agg gs,e=>congrArg G.agg (Dc gs e)
 | .bB gs,e=>congrArg G.bB (Dc gs e)
 | .ba f gs,e=>congrArg (G.ba f) (Dc gs e)
 | .any,_=>rfl
 | .val _,_=>rfl
 | .dw _,_=>rfl
 | .sl _ _,_=>rfl
 | .ptr _,_=>rfl
 | .fr _,_=>rfl
theorem Dc {h h':Nat}:∀gs:List G,G.cv.go h gs=false→px.go h h' gs=gs
 | [],_=>rfl
 | x::r,e=>by
  simp only[G.cv.go,bi] at e;simp only[px.go,So x e.1,Dc r e.2]
end
section
variable {S:eI}
def B2 (h h':Nat):TV S→TV S
 | .loc x o=>.loc (mv h h' x) o
 | .iK x τ i j=>.iK (mv h h' x) τ i j
 | .aL x τ=>.aL (mv h h' x) τ
 | .sub x τ o n=>.sub (mv h h' x) τ o n
 | .cW x=>.cW (mv h h' x)
 | .mp x=>.mp (mv h h' x)
 | .ks x τ i n=>.ks (mv h h' x) τ i n
 | .kp x τ i j=>.kp (mv h h' x) τ i j
 | .iF b x τ i j=>.iF b (mv h h' x) τ i j
 | .gw b x o=>.gw b (mv h h' x) o
 | .dX b x=>.dX b (mv h h' x)
 | .agg l=>.agg (go l)
 | .bB l=>.bB (go l)
 | .ba f l=>.ba f (go l)
 | v=>v
where go:List (TV S)→List (TV S)
 | []=>[]
 | x::r=>B2 h h' x::go r
mutual
theorem Sn {h h':Nat}{ln ln':Nat→Nat}(hln:∀x,x≠h'→ln' (mv h h' x)=ln x):∀v:TV S,v.has h'=false→(B2 h h' v).er ln'=px h h' (v.er ln)
 | .aD f τ a,_=>(So _ (M3 h f τ a)).symm
 | .ptr f τ a,_=>by cases f <;> rfl
 | .loc _ _,_=>rfl
 | .iK _ _ _ _,_=>rfl
 | .aL x τ,e=>by
  show G.aL _ _ _ (ln' (mv h h' x))=G.aL _ _ _ (ln x);rw[hln x fun e'=>by subst e';simp[TV.has,aW] at e]
 | .sub _ _ _ _,_=>rfl
 | .cW _,_=>rfl
 | .mp _,_=>rfl
 | .ks _ _ _ _,_=>rfl
 | .kp _ _ _ _,_=>rfl
 | .iF b _ _ _ _,_=>by cases b <;> rfl
 | .gw b _ _,_=>by cases b <;> rfl
 | .dX b _,_=>by cases b <;> rfl
 | .val _,_=>rfl
 | .any,_=>rfl
 | .agg l,e=>congrArg G.agg (ti hln l e)
 | .bB l,e=>congrArg G.bB (ti hln l e)
 | .ba f l,e=>congrArg (G.ba f) (ti hln l e)
theorem ti {h h':Nat}{ln ln':Nat→Nat}(hln:∀x,x≠h'→ln' (mv h h' x)=ln x):∀l:List (TV S),TV.has.go h' l=false→TV.er.go ln' (B2.go h h' l)=px.go h h' (TV.er.go ln l)
 | [],_=>rfl
 | x::r,e=>by
  simp only[TV.has.go,bi] at e;simp only[B2.go,TV.er.go,px.go,Sn hln x e.1,ti hln r e.2]
end
def Yv (h h':Nat):TO S→TO S
 | .box e m cs=>.box e m (B2.go h h' cs)
 | .lp l n cs=>.lp l n (B2.go h h' cs)
 | o=>o
def Sp (h h':Nat):List (Nat×TV S)→List (Nat×TV S)
 | []=>[]
 | (t,v)::r=>(t,B2 h h' v)::Sp h h' r
def Jw (h h':Nat):List (Nat×TO S)→List (Nat×TO S)
 | []=>[]
 | (k,o)::r=>(mv h h' k,Yv h h' o)::Jw h h' r
def ae.move (s:ae S) (h h':Nat):ae S:={fr:=Sp h h' s.ca,lo:=[],st:=Jw h h' s.bl,bN:=[],df:=B2.go h h' s.df,nx:=s.nx,last:=[]}
theorem Yu {h h' x y:Nat}(hx:x≠h') (hy:y≠h'):Nat.beq (mv h h' x) (mv h h' y)=Nat.beq x y:=by
 cases hb:Nat.beq x y with
 | true=>have:=ab hb;subst this;exact aW _
 | false=>
  cases hc:Nat.beq (mv h h' x) (mv h h' y) with
  | false=>rfl
  | true=>
   have e:=ab hc;have hne:x≠y:=fun e=>by subst e;rw[aW] at hb;cases hb
   by_cases h1:x=h
   ·subst h1
    by_cases h2:y=x
    ·exact absurd h2.symm hne
    ·rw[vK,jt h2] at e;exact absurd e.symm hy
   ·by_cases h2:y=h
    ·subst h2;rw[vK,jt h1] at e;exact absurd e hx
    ·rw[jt h1,jt h2] at e;exact absurd e hne
theorem LY {h h':Nat}:∀{st:List (Nat×TO S)}{x:Nat},aA st h'=none→x≠h'→aA (Jw h h' st) (mv h h' x)=(aA st x).map (Yv h h')
 | [],_,_,_=>rfl
 | (k,o)::r,x,hn,hx=>by
  simp only[aA] at hn;cases hb:Nat.beq k h' with
  | true=>rw[hb] at hn;cases hn
  | false=>
   rw[hb] at hn;have hk:k≠h':=fun e=>by subst e;rw[aW] at hb;cases hb
   simp only[Jw,aA,Yu hk hx];cases Nat.beq k x with
   | true=>rfl
   | false=>exact LY hn hx
theorem Xf (h h':Nat) (o:TO S):(Yv h h' o).len=o.len:=by cases o <;> rfl
theorem HW {s:ae S}{h h':Nat}(hf:s.free h'=true):(s.move h h').er={fr:=B3 h h' s.er.fr,st:=wa h h' s.er.st,df:=px.go h h' s.er.df}:=by
 obtain⟨f1,f2,f3,f4,_⟩:=free_spec hf;have hln:∀x,x≠h'→(s.move h h').ln (mv h h' x)=s.ln x:=by
  intro x hx;show cp (Jw h h' s.bl++[]) (mv h h' x)=cp s.bl x;rw[bM];unfold cp;rw[LY f1 hx];cases aA s.bl x with
  | none=>rfl
  | some o=>exact Xf h h' o
 have e1:∀fr:List (Nat×TV S),gL h' fr=false→il (s.move h h').ln (Sp h h' fr)=B3 h h' (il s.ln fr):=by
  intro fr
  induction fr with
  | nil=>intro _;rfl
  | cons x r ih=>
   obtain⟨t,v⟩:=x;intro e;simp only[gL,bi] at e;simp only[Sp,il,B3,ih e.2,Sn hln v e.1]
 have e2:∀st:List (Nat×TO S),dE h' st=false→bT (s.move h h').ln (Jw h h' st)=wa h h' (bT s.ln st):=by
  intro st
  induction st with
  | nil=>intro _;rfl
  | cons x r ih=>
   obtain⟨t,o⟩:=x;intro e;simp only[dE,bi] at e;simp only[Jw,bT,wa,ih e.2];congr 2;cases o with
   | arr e m f τ l=>rfl
   | deep e m f dk τ a=>rfl
   | box e' m cs=>
    show av.mk _ _ _ _ _ (TV.er.go _ (B2.go h h' cs)) _=av.mk _ _ _ _ _ (px.go h h' (TV.er.go s.ln cs)) _;rw[ti hln cs e.1];rfl
   | lp l n cs=>
    show av.mk _ _ _ _ _ (TV.er.go _ (B2.go h h' cs)) _=av.mk _ _ _ _ _ (px.go h h' (TV.er.go s.ln cs)) _;rw[ti hln cs e.1];rfl
 show St.mk (il _ (Sp h h' s.ca++[])) (bT _ (Jw h h' s.bl++[])) (TV.er.go _ (B2.go h h' s.df))=_;rw[bM,bM,e1 _ f2,e2 _ f3,ti hln s.df f4];rfl
def Ga:List Nat→ae S→Option (ae S)
 | [],s=>some s
 | r::rs,s=>match s.free (r-520)&&!(Nat.beq (r-520) r) with
  | true=>Ga rs (s.move r (r-520))
  | false=>none
theorem ED {P:Program}{N:Nat}{cx:Cx}{c:Code}{Q:Exit→St→Prop}:∀{l:List Nat}{s t:ae S},aO s→Ga l s=some t→(aO t→GW P N cx c Q t.er)→GW P N cx c Q s.er
 | [],s,t,hl,h,hk=>by cases h;exact hk hl
 | r::rs,s,t,hl,h,hk=>by
  simp only[Ga] at h;split at h
  ·rename_i hc;simp only[af,aS] at hc;refine GW.move r (r-520) (gu hc.1) hc.2 ?_;rw[←HW hc.1];exact ED (iD rfl) h hk
  ·cases h
end
end Go.DN
/-
 DN,part T:functions:what they hand back;contracts;calls that lend nothing.
-/
namespace Go.DN
open Go.AM
section
variable {S:eI}
def isNil {α:Type}:List α→Bool
 | []=>true
 | _=>false
def Ky (P:Program) (t:ae S):ResultVar→Option (TV S)
 | .tmp d=>bp t.ca d
 | .cell c ty=>match bp t.ca c with
  | some (.loc h 0)=>match aA t.bl h with
   | some (.box _ _ vs)=>match IW P ty with
    | some true=>match decEq (ny P ty) (some vs.length) with
     | isTrue _=>some (.agg vs)
     | isFalse _=>none
    | some false=>match vs with
     | [v]=>some v
     | _=>none
    | none=>none
   | _=>none
  | _=>none
def Yl (D DO:List Nat) (t:ae S):ResultVar→Bool
 | .tmp d=>!(bA d D)
 | .cell c _=>!(bA c D)&&match bp t.ca c with
  | some (.loc h _)=>!(bA h DO)
  | _=>false
def Wd (P:Program) (t:ae S):List ResultVar→List (Nat×Sh)→List Nat
 | rv::r,(_,sh)::l=>(match Ky P t rv with | some v=>P7 sh v | none=>[])++Wd P t r l
 | _,_=>[]
def KA (P:Program) (D DO:List Nat) (t:ae S):List ResultVar→List (Nat×Sh)→Option (List (bn S.α))
 | [],[]=>some []
 | rv::r,(_,sh)::l=>match Yl D DO t rv with
  | true=>match Ky P t rv with
   | some v=>match k6 sh v with
    | some xs=>match KA P D DO t r l with
     | some ys=>some (xs++ys)
     | none=>none
    | none=>none
   | none=>none
  | false=>none
 | _,_=>none
def XJ:Sh→List Sh
 | .agg l=>l
 | x=>[x]
def vO (aQ:List (Nat×Oh)):List ResultVar→List (Nat×Sh)→ae S→Option (ae S)
 | .cell c _::r,(_,sh)::l,s=>match bp s.ca c with
  | some (.loc h 0)=>match nG aQ h 0 (XJ sh) s with
   | some s'=>vO aQ r l s'
   | none=>none
  | _=>vO aQ r l s
 | .tmp _::r,_::l,s=>vO aQ r l s
 | _,_,s=>some s
theorem vD {aQ:List (Nat×Oh)}:∀{rvs:List ResultVar}{l:List (Nat×Sh)}{s t:ae S},aO s→vO aQ rvs l s=some t→Gh s.er t.er∧aO t∧bC s t
 | .cell c _::r,(_,sh)::l,s,t,hl,h=>by
  simp only[vO] at h;split at h
  ·split at h
   ·rename_i s' hs;obtain⟨a1,a2,a3⟩:=eX hl hs;obtain⟨b1,b2,b3⟩:=vD (rvs:=r) a2 h;exact⟨a1.trans b1,b2,a3.trans b3⟩
   ·cases h
  ·exact vD (rvs:=r) hl h
 | .tmp _::r,_::l,s,t,hl,h=>vD (rvs:=r) (l:=l) hl h
 | [],_,s,t,hl,h=>by cases h;exact⟨Gh.refl _,hl,bC.refl s⟩
 | .cell _ _::_,[],s,t,hl,h=>by cases h;exact⟨Gh.refl _,hl,bC.refl s⟩
 | .tmp _::_,[],s,t,hl,h=>by cases h;exact⟨Gh.refl _,hl,bC.refl s⟩
def NA (rvs:List ResultVar) (aw:List (Nat×Sh)) (aQ:List (Nat×Oh)) (s:ae S):Option (ae S):=match vO aQ rvs aw s with
 | some s'=>Hq aw aQ s'
 | none=>none
theorem TF {rvs:List ResultVar}{aw:List (Nat×Sh)}{aQ:List (Nat×Oh)}{s t:ae S}(hl:aO s) (h:NA rvs aw aQ s=some t):Gh s.er t.er∧aO t∧bC s t:=by
 unfold NA at h;split at h
 ·rename_i s' hs;obtain⟨a1,a2,a3⟩:=vD hl hs;obtain⟨b1,b2,b3⟩:=J5 a2 h;exact⟨a1.trans b1,b2,a3.trans b3⟩
 ·cases h
def Ik (P:Program) (t:ae S) (rvs:List ResultVar) (aw:List (Nat×Sh)) (outs:List (Nat×Oh)):Option (bB S.α (JH.cX ⟨aw,outs⟩)):=
 match NA rvs aw outs t with
 | some t1=>match sv (Wd P t1 rvs aw++F8 t1.bl outs) t1 with
  | some t2=>match isNil t2.df&&within (pn aw++rA outs) (aE outs) with
   | true=>match KA P (tI (aE outs) t2.ca) (aE outs++na (aE outs) t2.bl) t2 rvs aw with
    | some xs=>match zE t2.bl outs with
     | some ys=>nR (JH.cX ⟨aw,outs⟩) (xs++ys)
     | none=>none
    | none=>none
   | false=>none
  | none=>none
 | none=>none
theorem uI.rw {P:Program}{s:St}{rv:ResultVar}{g g':G}(h:uI P s rv g) (hw:RW g g'):uI P s rv g':=fun N cx μ a w hr=>by
 obtain⟨v,h1,h2⟩:=h N cx μ a w hr;exact⟨v,hw _ _ _ _ _ h1,h2⟩
theorem HT {ks:List Nat}:∀{fr:List (Nat×TV S)}{d:Nat}{v:TV S},bp fr d=some v→bA d (tI ks fr)=false→v.bad ks=false
 | [],_,_,h,_=>by cases h
 | (t,w)::r,d,v,h,hm=>by
  simp only[bp] at h;simp only[tI] at hm;cases hb:Nat.beq t d with
  | true=>
   rw[hb] at h;cases h;have e:=ab hb;subst e;cases hv:w.bad ks with
   | false=>rfl
   | true=>rw[hv] at hm;rw[bQ.2 ar] at hm;cases hm
  | false=>
   rw[hb] at h;refine HT h ?_;cases hw:w.bad ks with
   | false=>rw[hw] at hm;exact hm
   | true=>
    rw[hw] at hm;cases hx:bA d (tI ks r) with
    | false=>rfl
    | true=>rw[bQ.2 (ap _ (bQ.1 hx))] at hm;cases hm
theorem HS {ks:List Nat}:∀{st:List (Nat×TO S)}{d:Nat}{o:TO S},aA st d=some o→bA d (na ks st)=false→o.bad ks=false
 | [],_,_,h,_=>by cases h
 | (t,w)::r,d,v,h,hm=>by
  simp only[aA] at h;simp only[na] at hm;cases hb:Nat.beq t d with
  | true=>
   rw[hb] at h;cases h;have e:=ab hb;subst e;cases hv:w.bad ks with
   | false=>rfl
   | true=>rw[hv] at hm;rw[bQ.2 ar] at hm;cases hm
  | false=>
   rw[hb] at h;refine HS h ?_;cases hw:w.bad ks with
   | false=>rw[hw] at hm;exact hm
   | true=>
    rw[hw] at hm;cases hx:bA d (na ks r) with
    | false=>rfl
    | true=>rw[bQ.2 (ap _ (bQ.1 hx))] at hm;cases hm
theorem L6 {x:Nat}{a b:List Nat}(h:bA x (a++b)=false):bA x a=false∧bA x b=false:=by
 constructor
 ·cases h1:bA x a with
  | false=>rfl
  | true=>rw[bQ.2 (bY _ (bQ.1 h1))] at h;cases h
 ·cases h1:bA x b with
  | false=>rfl
  | true=>rw[bQ.2 (ct _ (bQ.1 h1))] at h;cases h
theorem LN {P:Program}{D DO:List Nat}{t u:ae S}(hu:∀d v,bA d D=false→bp t.ca d=some v→AM.get u.er.fr d=some (v.er t.ln)) (ho:∀h e m cs,bA h DO=false→aA t.bl h=some (.box e m cs)→ay u.er.st h=some ((TO.box e m cs).er t.ln)):
  ∀{rvs:List ResultVar}{aw:List (Nat×Sh)}{xs:List (bn S.α)},KA P D DO t rvs aw=some xs→∀(r:List (bn S.α)),(cC aw (xs++r)).2=r∧CT P u.er rvs (((cC aw (xs++r)).1.map (·.2)).map (TV.er t.ln))
 | [],[],xs,h,r=>by cases h;exact⟨rfl,trivial⟩
 | rv::rvs,(d,sh)::l,xs,h,r=>by
  simp only[KA] at h;split at h
  ·rename_i hok;split at h
   ·rename_i v hv;split at h
    ·rename_i xs1 hx;split at h
     ·rename_i ys hy;cases h;obtain⟨i1,i2⟩:=LN hu ho hy r;obtain⟨p1,p2⟩:=Ey t.ln hx (ys++r);rw[aR];simp only[cC];rw[p1];refine⟨i1,uI.rw ?_ p2,i2⟩;cases rv with
      | tmp d'=>
       simp only[Yl,aS] at hok;exact uI.tmp (hu d' v hok hv)
      | cell c ty=>
       simp only[Yl,af,aS] at hok;simp only[Ky] at hv;split at hv
       ·rename_i h' hc;rw[hc] at hok;have hc':AM.get u.er.fr c=some (.loc h' 0):=hu c _ hok.1 hc;split at hv
        ·rename_i e m vs hb;have hb':=ho h' e m vs (by simpa using hok.2) hb;split at hv
         ·rename_i ha;split at hv
          ·rename_i hs _;cases hv;have hl:(TV.er.go t.ln vs).length=vs.length:=by rw[cP,aN]
           have:=uI.XK (P:=P) (t:=ty) hc' hb' rfl (gC ha) (dC hs) (by show 0+vs.length≤(TV.er.go t.ln vs).length;omega);have e3:(((TO.box e m vs:TO S).er t.ln).cells.drop 0).take vs.length=TV.er.go t.ln vs:=by
            show((TV.er.go t.ln vs).drop 0).take vs.length=_;rw[gW,dj (by omega)]
           rw[e3] at this;exact this
          ·cases hv
         ·rename_i ha;split at hv
          ·cases hv;exact uI.cell (P:=P) (t:=ty) hc' hb' rfl (gC ha) (by cases hq:v.er t.ln <;> simp[av.out,TO.er,hq])
          ·cases hv
         ·cases hv
        ·cases hv
       ·cases hv
     ·cases h
    ·cases h
   ·cases h
  ·cases h
 | [],_::_,_,h,_=>by cases h
 | _::_,[],_,h,_=>by cases h
theorem D3 (ks:List Nat):∀(l:List (Nat×Sh)) (ls:List (bn S.α)),(∀k,k∈pn l→k∈ks)→∀d v,(d,v)∈(cC l ls).1→v.bad ks=false
 | [],ls,_,d,v,h=>by cases h
 | (d0,sh)::r,ls,hk,d,v,h=>by
  simp only[cC] at h;rcases bf.1 h with e | h
  ·cases e;exact Ah ks sh ls fun k hk'=>hk k (bY _ hk')
  ·exact D3 ks r _ (fun k hk'=>hk k (ct _ hk')) d v h
theorem O7 {P:Program}{t:ae S}{rvs:List ResultVar}{aw:List (Nat×Sh)}{outs:List (Nat×Oh)}{q:bB S.α (JH.cX ⟨aw,outs⟩)}(hl:aO t) (h:Ik P t rvs aw outs=some q):
  ∃u:ae S,Gh t.er u.er∧u.er.df=[]∧CT P u.er rvs (((cC aw (leaves _ q)).1.map (·.2)).map (TV.er (cp (cg outs (cC aw (leaves _ q)).2).1)))∧
   ∃O',u.bl=(cg outs (cC aw (leaves _ q)).2).1++O'∧(∀k,k∈aE outs→u.ln k=cp (cg outs (cC aw (leaves _ q)).2).1 k)∧∀k,k∈rA outs→k∈aE outs:=by
 unfold Ik at h;split at h
 ·rename_i t1 hp1;obtain⟨a1,a2,a3⟩:=TF hl hp1;split at h
  ·rename_i t2 hp2;obtain⟨b1,b2,b3⟩:=oc a2 hp2;split at h
   ·rename_i hc;simp only[af] at hc;obtain⟨c1,c2⟩:=hc;have c2:=oG c2;split at h
    ·rename_i xs hx;split at h
     ·rename_i ys hy;have hq:=hZ h;have hdf:t2.df=[]:=by
       cases hd:t2.df with
       | nil=>rfl
       | cons x r=>rw[hd] at c1;cases c1
      let O':=cj (aE outs++na (aE outs) t2.bl) t2.bl
      let F':=cj (tI (aE outs) t2.ca) t2.ca
      let u:ae S:={fr:=F',lo:=[],st:=(cg outs ys).1++O',bN:=[],df:=[],nx:=0,last:=[]}
      have eu:u.bl=(cg outs ys).1++O':=bM _;have ef:u.ca=F':=bM _;have hks:∀k,k∈aE outs→t2.ln k=u.ln k∧u.ln k=cp (cg outs ys).1 k:=by
       intro k hk;obtain⟨o,o',e1,e2,e3⟩:=BX hy k hk;have e4:u.ln k=cp (cg outs ys).1 k:=by
        show cp u.bl k=_;rw[eu];unfold cp;rw[eC,e1]
       refine⟨?_,e4⟩;rw[e4];show cp t2.bl k=_;unfold cp;rw[e1,e2];exact e3.symm
      have hg:Gh t2.er u.er:=told (aw:=[]) (xs:=[]) (ks:=aE outs) (O':=O') (F':=F') rfl hy ef eu
       (fun d v hv=>by
        have hv:bp (cj (tI (aE outs) t2.ca) t2.ca) d=some v:=hv;rw[kX] at hv;split at hv
        ·cases hv
        ·rename_i hm;exact⟨hv,HT hv hm⟩)
       (fun d o ho=>by
        have ho:aA (cj (aE outs++na (aE outs) t2.bl) t2.bl) d=some o:=ho;rw[j4] at ho;split at ho
        ·cases ho
        ·rename_i hm;exact⟨ho,HS ho (L6 hm).2⟩)
       (fun k hk=>(hks k hk).1) (fun k hk=>by cases hk) (fun k hk=>c2 k (ct _ hk)) hdf.symm (by rw[hdf];rfl)
      obtain⟨r1,r2⟩:=LN (P:=P) (u:=u) (t:=t2) (fun d v hm hv=>by
        have e:bp u.ca d=some v:=by rw[ef];show bp (cj _ t2.ca) d=_;rw[kX,hm];exact hv
        rw[show AM.get u.er.fr d=_ from fU e];rw[nC (fun k hk=>(hks k hk).1) v (HT hv hm)])
       (fun k e m cs hm ho=>by
        obtain⟨m1,m2⟩:=L6 hm;have hout:aA (cg outs ys).1 k=none:=by
         cases hh:aA (cg outs ys).1 k with
         | none=>rfl
         | some o=>
          have:k∈aE (cg outs ys).1:=uq hh;rw[la] at this;rw[bQ.2 this] at m1;cases m1
        have e2:aA u.bl k=some (.box e m cs):=by
         rw[eu,eC,hout];show aA (cj _ t2.bl) k=_;rw[j4,hm];exact ho
        rw[show ay u.er.st k=_ from ga e2];exact congrArg some (TO.nC (fun k hk=>(hks k hk).1) _ (HS ho m2)).symm) hx ys
      refine⟨u,a1.trans (b1.trans hg),rfl,?_,O',?_,?_⟩
      ·rw[hq,r1];have:∀(l:List (Nat×TV S)),(∀d v,(d,v)∈l→v.bad (aE outs)=false)→(l.map (·.2)).map (TV.er (cp (cg outs ys).1))=(l.map (·.2)).map (TV.er t2.ln):=by
        intro l hl
        induction l with
        | nil=>rfl
        | cons x r ih=>
         simp only[bc];rw[ih fun d v hm=>hl d v (ap _ hm),nC (fun k hk=>((hks k hk).1.trans (hks k hk).2).symm) x.2 (hl x.1 x.2 ar)]
       rw[this _ (D3 (aE outs) aw _ fun k hk=>c2 k (bY _ hk))];exact r2
      ·rw[hq,r1];exact eu
      ·rw[hq,r1];exact⟨fun k hk=>(hks k hk).2,fun k hk=>c2 k (ct _ hk)⟩
     ·cases h
    ·cases h
   ·cases h
  ·cases h
 ·cases h
def oN {α:Type}:List α→Nat→List (Nat×α)
 | [],_=>[]
 | x::r,j=>(j,x)::oN r (j+1)
def fp (args:List Sh) (aQ:List Oh) (ls:List (bn S.α)):ae S:={fr:=oN (dh args ls).1 0,lo:=[],st:=(cg (oN aQ 1000) (dh args ls).2).1,bN:=[],df:=[],nx:=300,last:=[]}
def kU (args:List Sh) (aQ:List Oh):List Ty:=zw args++F5 (oN aQ 1000)
theorem GG (ln:Nat→Nat):∀(args:List (TV S)) (j:Nat),il ln (oN args j)=oI (TV.er.go ln args) j
 | [],_=>rfl
 | x::r,j=>by simp only[oN,il,TV.er.go,oI,GG ln r (j+1)]
def nT (aw:List (Nat×Sh)) (ls:List (bn S.α)):TV S:=match (cC aw ls).1 with
 | [(_,v)]=>v
 | l=>.bB (l.map (·.2))
def vU (P:Program):List ResultVar→List (Nat×Sh)→ae S→ae S
 | rv::r,(_,.own h _)::l,s=>match Ky P s rv with
  | some (.aL h' _)=>match Nat.beq h h' with
   | true=>vU P r l s
   | false=>match (mG s h).free h with
    | true=>vU P r l ((mG s h).move h' h)
    | false=>vU P r l s
  | _=>vU P r l s
 | _::r,_::l,s=>vU P r l s
 | _,_,s=>s
def Gw (s t:St):Prop:=∀(N:Nat) (cx:Cx) (μ:Mu) (a:Act) (w:World),Rel N cx μ s a w→∃μ',Rel N cx μ' t a w
theorem Gh.w {s t:St}(h:Gh s t):Gw s t:=fun N cx μ a w hr=>let ⟨μ',h1,_⟩:=h N cx μ a w hr;⟨μ',h1⟩
theorem Gw.trans {a b c:St}(h:Gw a b) (h':Gw b c):Gw a c:=fun N cx μ ac w hr=>let ⟨μ1,h1⟩:=h N cx μ ac w hr;h' N cx μ1 ac w h1
theorem iv {P:Program}:∀{rvs:List ResultVar}{l:List (Nat×Sh)}{s:ae S},aO s→Gw s.er (vU P rvs l s).er∧aO (vU P rvs l s)
 | rv::r,(_,.own h _)::l,s,hl=>by
  simp only[vU];split
  ·rename_i h' _ _;cases hb:Nat.beq h h' with
   | true=>exact iv hl
   | false=>
    dsimp only;split
    ·rename_i hf;obtain⟨a1,a2,_⟩:=wj h hl;obtain⟨b1,b2⟩:=iv (P:=P) (rvs:=r) (l:=l) (s:=(mG s h).move h' h) (iD rfl);refine⟨a1.w.trans (Gw.trans (fun N cx μ a w hr=>?_) b1),b2⟩;rw[HW hf];exact⟨_,hr.move h' h (gu hf) hb⟩
    ·exact iv hl
  ·exact iv hl
 | [],_,s,hl=>by simp only[vU];exact⟨(Gh.refl _).w,hl⟩
 | _::_,[],s,hl=>by simp only[vU];exact⟨(Gh.refl _).w,hl⟩
 | _::r,(_,.aD _ _)::l,s,hl=>iv (rvs:=r) (l:=l) hl
 | _::r,(_,.ptr _ _)::l,s,hl=>iv (rvs:=r) (l:=l) hl
 | _::r,(_,.loc _ _)::l,s,hl=>iv (rvs:=r) (l:=l) hl
 | _::r,(_,.ba _ _)::l,s,hl=>iv (rvs:=r) (l:=l) hl
 | _::r,(_,.agg _)::l,s,hl=>iv (rvs:=r) (l:=l) hl
 | _::r,(_,.cW _)::l,s,hl=>iv (rvs:=r) (l:=l) hl
 | _::r,(_,.gw _ _)::l,s,hl=>iv (rvs:=r) (l:=l) hl
 | _::r,(_,.dX _)::l,s,hl=>iv (rvs:=r) (l:=l) hl
 | _::r,(_,.mp _)::l,s,hl=>iv (rvs:=r) (l:=l) hl
 | _::r,(_,.iF _ _)::l,s,hl=>iv (rvs:=r) (l:=l) hl
 | _::r,(_,.ks _ _)::l,s,hl=>iv (rvs:=r) (l:=l) hl
 | _::r,(_,.any)::l,s,hl=>iv (rvs:=r) (l:=l) hl
 | _::r,(_,.nD)::l,s,hl=>iv (rvs:=r) (l:=l) hl
 | _::r,(_,.sub _ _)::l,s,hl=>iv (rvs:=r) (l:=l) hl
def rY (h:Nat):Nat→List Sh→ae S→ae S
 | j,.dX hd::r,s=>match aA s.st h with
  | some (.box _ _ cs)=>match cs[j]? with
   | some (.mp h')=>match Nat.beq hd h' with
    | true=>rY h (j+1) r s
    | false=>match (mG s hd).free hd with
     | true=>rY h (j+1) r ((mG s hd).move h' hd)
     | false=>rY h (j+1) r s
   | _=>rY h (j+1) r s
  | _=>rY h (j+1) r s
 | j,_::r,s=>rY h (j+1) r s
 | _,[],s=>s
def Ep:List (Nat×Oh)→ae S→ae S
 | (h,.box _ _ l)::r,s=>Ep r (rY h 0 l s)
 | _::r,s=>Ep r s
 | [],s=>s
theorem fS {h:Nat}:∀{l:List Sh}{j:Nat}{s:ae S},aO s→Gw s.er (rY h j l s).er∧aO (rY h j l s)
 | [],_,s,hl=>by simp only[rY];exact⟨(Gh.refl _).w,hl⟩
 | .dX hd::r,j,s,hl=>by
  simp only[rY];split
  ·split
   ·rename_i h' _;cases hb:Nat.beq hd h' with
    | true=>exact fS hl
    | false=>
     dsimp only;split
     ·rename_i hf;obtain⟨a1,a2,_⟩:=wj hd hl;obtain⟨b1,b2⟩:=fS (h:=h) (l:=r) (j:=j+1) (s:=(mG s hd).move h' hd) (iD rfl);refine⟨a1.w.trans (Gw.trans (fun N cx μ a w hr=>?_) b1),b2⟩;rw[HW hf];exact⟨_,hr.move h' hd (gu hf) hb⟩
     ·exact fS hl
   ·exact fS hl
  ·exact fS hl
 | .own _ _::r,j,s,hl=>fS (l:=r) (j:=j+1) hl
 | .aD _ _::r,j,s,hl=>fS (l:=r) (j:=j+1) hl
 | .ptr _ _::r,j,s,hl=>fS (l:=r) (j:=j+1) hl
 | .loc _ _::r,j,s,hl=>fS (l:=r) (j:=j+1) hl
 | .ba _ _::r,j,s,hl=>fS (l:=r) (j:=j+1) hl
 | .agg _::r,j,s,hl=>fS (l:=r) (j:=j+1) hl
 | .cW _::r,j,s,hl=>fS (l:=r) (j:=j+1) hl
 | .gw _ _::r,j,s,hl=>fS (l:=r) (j:=j+1) hl
 | .mp _::r,j,s,hl=>fS (l:=r) (j:=j+1) hl
 | .iF _ _::r,j,s,hl=>fS (l:=r) (j:=j+1) hl
 | .ks _ _::r,j,s,hl=>fS (l:=r) (j:=j+1) hl
 | .any::r,j,s,hl=>fS (l:=r) (j:=j+1) hl
 | .nD::r,j,s,hl=>fS (l:=r) (j:=j+1) hl
 | .sub _ _::r,j,s,hl=>fS (l:=r) (j:=j+1) hl
theorem yD:∀{l:List (Nat×Oh)}{s:ae S},aO s→Gw s.er (Ep l s).er∧aO (Ep l s)
 | [],s,hl=>by simp only[Ep];exact⟨(Gh.refl _).w,hl⟩
 | (h,.box _ _ l)::r,s,hl=>by
  simp only[Ep];obtain⟨a1,a2⟩:=fS (h:=h) (l:=l) (j:=0) hl;obtain⟨b1,b2⟩:=yD (l:=r) a2;exact⟨a1.trans b1,b2⟩
 | (_,.arr _ _ _ _)::r,s,hl=>yD (l:=r) hl
 | (_,.lp _ _ _)::r,s,hl=>yD (l:=r) hl
 | (_,.deep _ _ _ _ _)::r,s,hl=>yD (l:=r) hl
def PT (P:Program) (rvs:List ResultVar) (l:List (Nat×Sh)) (outs:List (Nat×Oh)) (s:ae S):ae S:=Ep outs (vU P rvs l s)
theorem Od {P:Program}{rvs:List ResultVar}{l:List (Nat×Sh)}{outs:List (Nat×Oh)}{s:ae S}(hl:aO s):Gw s.er (PT P rvs l outs s).er∧aO (PT P rvs l outs s):=
 let ⟨a1,a2⟩:=iv (P:=P) (rvs:=rvs) (l:=l) hl
 let ⟨b1,b2⟩:=yD (l:=outs) a2
 ⟨a1.trans b1,b2⟩
theorem GW.WW {P:Program}{N:Nat}{cx:Cx}{c:Code}{Q Q':Exit→St→Prop}{s:St}(h:GW P N cx c Q' s) (hq:∀e s,Q' e s→∃t,Gw s t∧Q e t):GW P N cx c Q s:=fun μ a w hr=>
 wpIn_mono (h μ a w hr) fun e a' w' hl=>by
  cases e with
  | outgrown=>exact hl.elim
  | _=>
   obtain⟨μ',s',hr',h4⟩:=hl;obtain⟨t,h5,h6⟩:=hq _ _ h4;obtain⟨μ2,h7⟩:=h5 N cx μ' a' w' hr';exact⟨μ2,t,h7,h6⟩
noncomputable def E7 (P:Program) (N fu:Nat) (H:List (Nat×Hint)) (cl:Cl S) (c:Code) (mvs:List Nat) (rvs:List ResultVar) (args:List Sh) (aQ:List Oh) (aw:List (Nat×Sh)) (outs:List (Nat×Oh)) (q:bB S.α (kU args aQ)):Option (bB S.α (JH.cX ⟨aw,outs⟩)):=
 match Ga mvs (fp args aQ (leaves _ q)) with
 | some s=>iC P N fu H cl c 0 s _ fun e t=>match e with
  | .ret=>Ik P (PT P rvs aw outs t) rvs aw outs
  | .normal=>Ik P (PT P rvs aw outs t) rvs aw outs
  | _=>none
 | none=>none
theorem OY (st st':List (Nat×av)) (f:Bool){τ:Ty}(h:τ.gm=false) (a:S.D τ):ja st st' (dY f (dI S τ a))=some (dY f (dI S τ a)):=by
 cases τ with
 | st n=>cases h
 | pt n=>cases a <;> cases f <;> rfl
 | _=>cases f <;> rfl
theorem YR (st st':List (Nat×av)) (f:Bool) (τ:Ty) (a:S.D τ):ja st st' (oP f τ a)=some (oP f τ a):=by
 cases τ with
 | st n=>
  show(ja.go st st' ((aX S (.st n) a).map (dY f))).map G.agg=_;have:ja.go st st' ((aX S (.st n) a).map (dY f))=some ((aX S (.st n) a).map (dY f)):=by
   rw[ib];have h:=lu n a;generalize S.cells n a=l at h
   induction l with
   | nil=>rfl
   | cons x r ih=>
    simp only[bc,ja.go];rw[OY st st' f (h x ar) x.a,ih fun y hy=>h y (ap _ hy)]
  rw[this];rfl
 | _=>exact OY st st' f rfl a
theorem Ef {ln:Nat→Nat}{st:List (Nat×av)}:∀{l:List (Nat×TO S)},(∀j o,(j,o)∈l→ay st j=some (o.er ln))→pe st (bT ln l)
 | [],_=>trivial
 | (j,o)::r,h=>⟨h j o ar,Ef fun j o hm=>h j o (ap _ hm)⟩
def TV.still (ks:List Nat):TV S→Bool
 | .aD _ _ _=>true
 | .ptr _ _ _=>true
 | .loc h _=>bA h ks
 | .aL h _=>bA h ks
 | .sub h _ _ _=>bA h ks
 | .agg l=>go ks l
 | .bB l=>go ks l
 | .ba _ l=>go ks l
 | .val (.slice none 0 0)=>false
 | .val _=>true
 | .any=>true
 | .iF _ h _ _ _=>bA h ks
 | .gw _ h _=>bA h ks
 | .dX _ h=>bA h ks
 | .ks h _ _ _=>bA h ks
 | .mp h=>bA h ks
 | _=>false
where go (ks:List Nat):List (TV S)→Bool
 | []=>true
 | x::r=>x.still ks&&go ks r
theorem xb {ln:Nat→Nat}{l:List (Nat×TO S)}{h:Nat}(hk:h∈aE l):∃k,ay (bT ln l) h=some k:=by
 obtain⟨o,ho⟩:=pw hk;exact⟨_,ga ho⟩
mutual
theorem Lf {ln lo:Nat→Nat}{st:List (Nat×av)}{l:List (Nat×TO S)}:∀v:TV S,v.still (aE l)=true→ja st (bT lo l) (v.er ln)=some (v.er ln)
 | .aD f τ a,_=>YR st _ f τ a
 | .ptr f τ a,_=>by cases f <;> rfl
 | .loc h o,e=>by
  obtain⟨k,hk⟩:=xb (ln:=lo) (bQ.1 e);simp only[TV.er,ja,hk]
 | .aL h τ,e=>by
  obtain⟨k,hk⟩:=xb (ln:=lo) (bQ.1 e);simp only[TV.er,ja,hk]
 | .agg vs,e=>by
  show(ja.go st (bT lo l) (TV.er.go ln vs)).map G.agg=_;rw[w9 vs e];rfl
 | .bB vs,e=>by
  show(ja.go st (bT lo l) (TV.er.go ln vs)).map G.bB=_;rw[w9 vs e];rfl
 | .ba f vs,e=>by
  show(ja.go st (bT lo l) (TV.er.go ln vs)).map (G.ba f)=_;rw[w9 vs e];rfl
 | .val u,e=>by
  have key:Db u=.val u:=by
   unfold TV.still at e;unfold Db;split
   ·cases e
   ·rfl
  show some (Db u)=some (.val u);rw[key]
 | .any,_=>rfl
 | .sub h τ o n,e=>by
  obtain⟨k,hk⟩:=xb (ln:=lo) (bQ.1 e);simp only[TV.er,ja,hk]
 | .iK _ _ _ _,e=>by cases e
 | .cW _,e=>by cases e
 | .mp _,_=>rfl
 | .ks _ _ _ _,_=>rfl
 | .kp _ _ _ _,e=>by cases e
 | .iF b _ _ _ _,e=>by cases b <;> rfl
 | .dX b _,_=>by cases b <;> rfl
 | .gw b h o,e=>by
  cases b with
  | true=>rfl
  | false=>
   obtain⟨k,hk⟩:=xb (ln:=lo) (bQ.1 e);show ja st (bT lo l) (.loc h o)=_;simp only[ja,hk];rfl
theorem w9 {ln lo:Nat→Nat}{st:List (Nat×av)}{l:List (Nat×TO S)}:∀vs:List (TV S),TV.still.go (aE l) vs=true→ja.go st (bT lo l) (TV.er.go ln vs)=some (TV.er.go ln vs)
 | [],_=>rfl
 | x::r,e=>by
  simp only[TV.still.go,af] at e;simp only[TV.er.go,ja.go,Lf x e.1,w9 r e.2]
end
mutual
def Sh.still (ks:List Nat):Sh→Bool
 | .aD _ _=>true
 | .ptr _ _=>true
 | .own h _=>bA h ks
 | .loc h _=>bA h ks
 | .ba _ l=>yB ks l
 | .agg l=>yB ks l
 | .cW _=>false
 | .mp h=>bA h ks
 | .iF h _=>bA h ks
 | .gw h _=>bA h ks
 | .dX h=>bA h ks
 | .ks h _=>bA h ks
 | .any=>true
 | .nD=>true
 | .sub h _=>bA h ks
def yB (ks:List Nat):List Sh→Bool
 | []=>true
 | x::r=>x.still ks&&yB ks r
end
def ue (ks:List Nat):List (Nat×Sh)→Bool
 | []=>true
 | (_,x)::r=>x.still ks&&ue ks r
mutual
theorem D1 (ks:List Nat):∀(sh:Sh) (ls:List (bn S.α)),sh.still ks=true→(gT sh ls).1.still ks=true
 | .aD f τ,ls,_=>by cases ls <;> rfl
 | .ptr f τ,ls,_=>by cases ls <;> rfl
 | .own k τ,ls,h=>h
 | .loc _ _,ls,h=>h
 | .ba f l,ls,h=>ya ks l ls h
 | .agg l,ls,h=>ya ks l ls h
 | .cW _,ls,h=>by cases h
 | .mp _,ls,h=>h
 | .ks _ _,ls,h=>by
  simp only[gT];split
  ·exact h
  ·rfl
 | .iF _ _,ls,h=>by
  simp only[gT];split
  ·exact h
  ·rfl
 | .gw _ _,ls,h=>by
  simp only[gT];split
  ·exact h
  ·rfl
 | .dX _,ls,h=>by
  simp only[gT];split
  ·exact h
  ·rfl
 | .any,ls,_=>rfl
 | .nD,ls,_=>by
  simp only[gT];split <;> rfl
 | .sub _ _,ls,h=>by
  simp only[gT];split
  ·exact h
  ·rfl
theorem ya (ks:List Nat):∀(l:List Sh) (ls:List (bn S.α)),yB ks l=true→TV.still.go ks (dh l ls).1=true
 | [],_,_=>rfl
 | sh::r,ls,h=>by
  simp only[yB,af] at h;simp only[dh,TV.still.go,D1 ks sh ls h.1,ya ks r _ h.2,ij]
end
theorem D2 (ks:List Nat):∀(l:List (Nat×Sh)) (ls:List (bn S.α)),ue ks l=true→TV.still.go ks ((cC l ls).1.map (·.2))=true
 | [],_,_=>rfl
 | (d,sh)::r,ls,h=>by
  simp only[ue,af] at h;simp only[cC,bc,TV.still.go,D1 ks sh ls h.1,D2 ks r _ h.2,ij]
theorem P1 {ks:List Nat}{aw:List (Nat×Sh)}(ls:List (bn S.α)) (h:ue ks aw=true):(nT aw ls).still ks=true:=by
 have:=D2 ks aw ls h;unfold nT;generalize (cC aw ls).1=l at this
 match l with
 | []=>rfl
 | [(_,v)]=>simpa[TV.still.go] using this
 | (_,v)::(_,v')::r=>exact this
def Sl:List Nat→Bool
 | []=>true
 | x::r=>!(bA x r)&&Sl r
theorem HU:∀{l:List (Nat×TO S)},Sl (aE l)=true→∀j o,(j,o)∈l→aA l j=some o
 | [],_,_,_,h=>by cases h
 | (k,x)::r,hn,j,o,hm=>by
  simp only[aE,Sl,af,aS] at hn;rcases bf.1 hm with e | hm
  ·cases e;simp only[aA,aW,cond_true]
  ·have ih:=HU hn.2 j o hm;rw[kx _ _ fun e=>?_]
   ·exact ih
   ·subst e;have:=bQ.2 (uq ih);rw[hn.1] at this;cases this
theorem Gj:∀(ts:List Ty) (q:bB S.α ts),(leaves ts q).length=ts.length
 | [],_=>rfl
 | [_],_=>rfl
 | _::u::r,q=>by simp only[leaves,bL,Gj (u::r) q.2]
theorem yG (ln:Nat→Nat) (aw:List (Nat×Sh)) (ls:List (bn S.α)):pack (((cC aw ls).1.map (·.2)).map (TV.er ln))=(nT aw ls).er ln:=by
 unfold nT;generalize (cC aw ls).1=l
 match l with
 | []=>rfl
 | [(_,v)]=>rfl
 | (_,v)::(_,v')::r=>
  simp only[bc,pack,TV.er,cP]
def pr (N:Nat) (args:List Sh) (aw:List (Nat×Sh)) (outs:List (Nat×Oh)):Bool:=
 Nat.ble args.length N&&(ue (aE outs) aw&&Sl (aE outs))
theorem Cj:∀(l:List Sh) (ls:List (bn S.α)),(dh l ls).1.length=l.length
 | [],_=>rfl
 | x::r,ls=>by simp only[dh,bL,Cj r]
def Zv (aw:List (Nat×Sh)) (outs:List (Nat×Oh)) (r:bB S.α (JH.cX ⟨aw,outs⟩)) (g:G) (st:List (Nat×av)):Prop:=
 g=(nT aw (leaves _ r)).er (cp (cg outs (cC aw (leaves _ r)).2).1)∧st=bT (cp (cg outs (cC aw (leaves _ r)).2).1) (cg outs (cC aw (leaves _ r)).2).1
theorem XG {P : Program} {N fu : Nat} {H : List (Nat × Hint)} {cl : Cl S} (hm : P.follows .mixedOrders = true) (hcl : A1 P N cl)
    {f : FuncId} {fn : Func} {c : Code} {args : List Sh} {aQ : List Oh} {aw : List (Nat × Sh)} {outs : List (Nat × Oh)} {q : bB S.α (kU args aQ)} {r : bB S.α (JH.cX ⟨aw, outs⟩)} (hf : P.funcs[f]? = some fn) (hb : fn.body = some c) (hN : fn.ntmps = N)
    (hr : pr N args aw outs = true) (hrg : qf S N H (mV c 0)) {mvs : List Nat} (h : E7 P N fu H cl c mvs fn.results.toList args aQ aw outs q = some r) {cx : Cx} (hro : cx.ro = none) :
    GW P N cx c (uW P fn (Zv aw outs r)) { fr := oI (TV.er.go (fp args aQ (leaves _ q)).ln (dh args (leaves _ q)).1) 0, st := (fp args aQ (leaves _ q)).er.st, df := [] } := by
  simp only [pr, af] at hr
  obtain ⟨hle, hr3, hr4⟩ := hr
  have e0 : (⟨oI (TV.er.go (fp args aQ (leaves _ q)).ln (dh args (leaves _ q)).1) 0, (fp args aQ (leaves _ q)).er.st, []⟩ : St) = (fp args aQ (leaves _ q)).er := by
    rw [← GG]
    show St.mk _ _ _ = St.mk (il _ (oN (dh args (leaves _ q)).1 0 ++ [])) _ _
    rw [bM]; rfl
  rw [e0]
  unfold E7 at h
  split at h
  rotate_left
  · cases h
  rename_i s0 hmv
  refine ED (iD rfl) hmv fun hl0 => ?_
  refine GW.WW (Q' := fun e s' => (e = .ret ∨ e = .normal) ∧ ∃ t : ae S, Gw s' t.er ∧ aO t ∧ Ik P t fn.results.toList aw outs = some r) (kB hm hcl c 0 hrg (.inr hro) _ _ _ r hl0 h _ fun e t hlt hk hK => ?_) fun e s' hq => ?_
  · split at hK
    · obtain ⟨g1, g2⟩ := Od (P := P) (rvs := fn.results.toList) (l := aw) (outs := outs) hlt
      exact ⟨.inl rfl, _, g1, g2, hK⟩
    · obtain ⟨g1, g2⟩ := Od (P := P) (rvs := fn.results.toList) (l := aw) (outs := outs) hlt
      exact ⟨.inr rfl, _, g1, g2, hK⟩
    · cases hK
  · obtain ⟨he, t, hg0, hlt, hE⟩ := hq
    obtain ⟨u, hg, hdf, r1, O', eu, hln, hown⟩ := O7 hlt hE
    refine ⟨_, hg0.trans hg.w, ?_⟩
    have hk : aE (cg outs (cC aw (leaves (JH.cX ⟨aw, outs⟩) r)).2).1 = aE outs := la _ _
    refine uW.mk he _ ((nT aw (leaves _ r)).er (cp (cg outs (cC aw (leaves _ r)).2).1)) _ r1 (Ef (ln := cp (cg outs (cC aw (leaves _ r)).2).1) (l := (cg outs (cC aw (leaves _ r)).2).1) fun j o hm => ?_) ?_ ⟨rfl, rfl⟩ hdf
    · have e1 : aA (cg outs (cC aw (leaves _ r)).2).1 j = some o := HU (by rw [hk]; exact hr4) j o hm
      have e2 : aA u.bl j = some o := by rw [eu, eC, e1]
      rw [show ay u.er.st j = _ from ga e2]
      have hj : o.er u.ln = o.er (cp (cg outs (cC aw (leaves _ r)).2).1) := TO.nC hln o (vr (aE outs) outs _ hown j o e1)
      rw [hj]
    · rw [yG]
      refine Lf _ ?_
      rw [hk]
      exact P1 _ hr3
theorem XF {P : Program} {N fu : Nat} {H : List (Nat × Hint)} {cl : Cl S} (hm : P.follows .mixedOrders = true) (hcl : A1 P N cl)
  {f : FuncId} {fn : Func} {c : Code} {args : List Sh} {aQ : List Oh} {aw : List (Nat × Sh)} {outs : List (Nat × Oh)} {q : bB S.α (kU args aQ)} {r : bB S.α (JH.cX ⟨aw, outs⟩)} (hf : P.funcs[f]? = some fn) (hb : fn.body = some c) (hN : fn.ntmps = N)
  (hr : pr N args aw outs = true) (hrg : qf S N H (mV c 0)) {mvs : List Nat} (h : E7 P N fu H cl c mvs fn.results.toList args aQ aw outs q = some r) :
  GM P f (TV.er.go (fp args aQ (leaves _ q)).ln (dh args (leaves _ q)).1) (fp args aQ (leaves _ q)).er.st (Zv aw outs r) := by
 have hr0 := hr
 simp only [pr, af] at hr0
 exact GM.of hf hb hN (by rw [cP, aN, Cj]; exact hr0.1) fun cx hro => XG hm hcl hf hb hN hr hrg h hro
end
end Go.DN
/-
 DN,part U:calls that lend nothing.
-/
namespace Go.DN
open Go.AM
section
variable {S:eI}
def zq (s:ae S) (τ:Ty):TV S→Option (S.D τ)
 | .aD _ τ' a=>match τ'.gm with
  | true=>none
  | false=>jv τ' τ a
 | .val (.slice none 0 0)=>match τ with
  | .list _=>some []
  | _=>none
 | .aL h τ2=>match aA s.bl h with
  | some (.arr _ _ _ τ' l)=>match decEq τ' τ2 with
   | isTrue _=>jv (.list τ') τ l
   | isFalse _=>none
  | _=>none
 | _=>none
def FI (s:ae S):List Ty→List (TV S)→Option (List (bn S.α))
 | [],[]=>some []
 | τ::ts,v::vs=>match zq s τ v with
  | some a=>match FI s ts vs with
   | some l=>some (⟨τ,a⟩::l)
   | none=>none
  | none=>none
 | _,_=>none
def Po (s:ae S) (τ:Ty) (v:TV S):Option (S.D τ):=
 match v with
 | .aD _ τ' a=>jv τ' τ a
 | .agg vs=>match τ with
  | .st n=>match FI s (S.cX n) vs with
   | some l=>S.put n l
   | none=>none
  | _=>none
 | v=>zq s τ v
def Pm (s:ae S) (τ:Ty) (v:TV S):Option (S.D τ):=
 match v with
 | .ptr _ τ' a=>jv τ' τ a
 | .loc h 0=>match aA s.bl h with
  | some (.box _ _ vs)=>match τ with
   | .st n=>match FI s (S.cX n) vs with
    | some l=>S.put n l
    | none=>none
   | τ=>match vs with
    | [v]=>zq s τ v
    | _=>none
  | _=>none
 | _=>none
mutual
def fH (s:ae S):Sh→TV S→Option (List (bn S.α))
 | .aD false τ,v=>match Po s τ v with
  | some a=>some [⟨τ,a⟩]
  | none=>none
 | .ptr false τ,v=>match Pm s τ v with
  | some a=>some [⟨τ,a⟩]
  | none=>none
 | .ba f l,v=>match v with
  | .ba f' vs=>match Nat.beq f' f with
   | true=>lE s l vs
   | false=>none
  | _=>none
 | _,_=>none
def lE (s:ae S):List Sh→List (TV S)→Option (List (bn S.α))
 | [],[]=>some []
 | x::r,v::vs=>match fH s x v with
  | some a=>match lE s r vs with
   | some l=>some (a++l)
   | none=>none
  | none=>none
 | _,_=>none
end
theorem I5 (n:Nat) (st:List (Nat×av)) (f:Bool){τ:Ty}(h:τ.gm=false) (a:S.D τ):view (n+1) st (dY f (dI S τ a))=some (dI S τ a):=by
 cases τ with
 | st n=>cases h
 | pt n=>cases a <;> cases f <;> rfl
 | _=>cases f <;> rfl
theorem Eb {s:ae S}{τ:Ty}{v:TV S}{a:S.D τ}(n:Nat) (h:zq s τ v=some a):view (n+1) s.er.st (v.er s.ln)=some (dI S τ a)∧τ.gm=false:=by
 unfold zq at h;split at h
 ·split at h
  ·cases h
  ·rename_i hs;have:=eW h;cases this;refine⟨?_,hs⟩;rw[qb hs];exact I5 n _ _ hs _
 ·split at h
  ·cases h;exact⟨rfl,rfl⟩
  ·cases h
 ·rename_i hh τ2;split at h
  ·rename_i e m f τ' l ho;split at h
   ·rename_i e1 _;subst e1;have:=eW h;cases this;refine⟨?_,rfl⟩;show view (n+1) s.er.st (.aL hh (S.sz τ') 0 (s.ln hh))=_;simp only[view,eB ho,TO.er];rw[pA ho,gW,dj (by rw[kh];exact aG _)];rfl
   ·cases h
  ·cases h
 ·cases h
theorem Ea {s:ae S}(n:Nat):∀{ts:List Ty}{vs:List (TV S)}{l:List (bn S.α)},FI s ts vs=some l→eS (view (n+1) s.er.st) (TV.er.go s.ln vs)=some (l.map fun x=>dI S x.τ x.a)
 | [],[],_,h=>by cases h;rfl
 | τ::ts,v::vs,l,h=>by
  simp only[FI] at h;split at h
  ·rename_i a ha;split at h
   ·rename_i l' hl;cases h;simp only[TV.er.go,eS,(Eb n ha).1,Ea n hl,bc]
   ·cases h
  ·cases h
 | [],_::_,_,h=>by cases h
 | _::_,[],_,h=>by cases h
theorem KX {n:Nat}{st:List (Nat×av)}{gs gs':List G}(h:eS (view n st) gs=some gs'):view (n+1) st (.agg gs)=some (.agg gs'):=by
 show(match eS (view n st) gs with | some gs'=>some (G.agg gs') | none=>none)=_;rw[h]
theorem KW {n:Nat}{st:List (Nat×av)}{h:Nat}{k:av}{gs':List G}(hk:ay st h=some k) (hlp:k.lp=none) (hp:k.pure=false) (hm:eS (view n st) k.cells=some gs'):view (n+1) st (.loc h 0)=some (.ptr gs'):=by
 show(match ay st h with
  | some k=>match k.lp with
   | some _=>none
   | none=>match k.pure with
    | true=>some (G.ptr (k.cells.drop 0))
    | false=>match eS (view n st) (k.cells.drop 0) with
     | some cs=>some (.ptr cs)
     | none=>none
  | none=>none)=_
 rw[hk];dsimp only;rw[hlp];dsimp only;rw[hp,gW];dsimp only;rw[hm]
theorem KZ {s:ae S}{τ:Ty}{v:TV S}{a:S.D τ}(n:Nat) (h:Po s τ v=some a) (ln:Nat→Nat):view (n+2) s.er.st (v.er s.ln)=some ((TV.aD false τ a:TV S).er ln):=by
 have one:zq s τ v=some a→view (n+2) s.er.st (v.er s.ln)=some ((TV.aD false τ a:TV S).er ln):=by
  intro h;obtain⟨h1,h2⟩:=Eb (n+1) h;rw[h1,qb h2];rfl
 unfold Po at h;split at h
 ·rename_i f τ' a';have:=eW h;cases this;cases τ with
  | st k=>
   show view (n+2) s.er.st (.agg ((aX S (.st k) a).map (dY f)))=some (.agg ((aX S (.st k) a).map (dY false)));have key:eS (view (n+1) s.er.st) ((aX S (.st k) a).map (dY f))=some ((aX S (.st k) a).map (dY false)):=by
    rw[ib];have h:=lu k a;generalize S.cells k a=l at h
    induction l with
    | nil=>rfl
    | cons x r ih=>
     simp only[bc,eS];rw[I5 n _ f (h x ar) x.a,ih fun y hy=>h y (ap _ hy)];rfl
   exact KX key
  | _=>exact one (by unfold zq;exact h)
 ·rename_i vs;split at h
  ·rename_i k;split at h
   ·rename_i l hl;have hp:=S.gZ _ _ _ h;show view (n+2) s.er.st (.agg (TV.er.go s.ln vs))=some (.agg ((aX S (.st k) a).map (dY false)));have e:(dY false)=(id:G→G):=rfl;rw[e,List.map_id,ib,hp];exact KX (Ea n hl)
   ·cases h
  ·cases h
 ·exact one h
theorem KY {s:ae S}{τ:Ty}{v:TV S}{a:S.D τ}(n:Nat) (h:Pm s τ v=some a) (ln:Nat→Nat):view (n+2) s.er.st (v.er s.ln)=some ((TV.ptr false τ a:TV S).er ln):=by
 unfold Pm at h;split at h
 ·rename_i f τ' a';have:=eW h;cases this;cases f <;> rfl
 ·rename_i hh;split at h
  ·rename_i e m vs ho;split at h
   ·rename_i k;split at h
    ·rename_i l hl;have hp:=S.gZ _ _ _ h;show view (n+2) s.er.st (.loc hh 0)=some (.ptr (aX S (.st k) a));rw[ib,hp];exact KW (eB ho) rfl rfl (Ea n hl)
    ·cases h
   ·split at h
    ·obtain⟨h1,h2⟩:=Eb n h;show view (n+2) s.er.st (.loc hh 0)=some (.ptr (aX S τ a));rw[jV S h2];refine KW (eB ho) rfl rfl ?_;simp only[TO.er,TV.er.go,eS,h1]
    ·cases h
  ·cases h
 ·cases h
theorem K0 {n:Nat}{st:List (Nat×av)}{g g':G}(h:view (n+2) st g=some g'):tT (n+2) st g=some g':=by
 cases g with
 | ba f l=>simp[view] at h
 | _=>exact h
def Sh.flat:Sh→Bool
 | .ba _ _=>false
 | _=>true
def KJ:List Sh→Bool
 | []=>true
 | x::r=>x.flat&&KJ r
def aae:Sh→Bool
 | .ba _ l=>KJ l
 | _=>true
def F4:List Sh→Bool
 | []=>true
 | x::r=>aae x&&F4 r
theorem I6 {s:ae S}(n:Nat) (ln:Nat→Nat):∀{l:List Sh}{vs:List (TV S)}{xs:List (bn S.α)},KJ l=true→lE s l vs=some xs→∀r,(dh l (xs++r)).2=r∧eS (view (n+2) s.er.st) (TV.er.go s.ln vs)=some (TV.er.go ln (dh l (xs++r)).1)
 | [],[],_,_,h,r=>by simp[lE] at h;subst h;exact⟨rfl,rfl⟩
 | x::l,v::vs,xs,hf,h,r=>by
  simp only[KJ,af] at hf;simp only[lE] at h;split at h
  ·rename_i a ha;split at h
   ·rename_i l' hl;cases h;rw[aR];obtain⟨i1,i2⟩:=I6 n ln hf.2 hl r;cases x with
    | ba f l0=>cases hf.1
    | own _ _=>simp[fH] at ha
    | loc _ _=>simp[fH] at ha
    | agg _=>simp[fH] at ha
    | cW _=>simp[fH] at ha
    | mp _=>simp[fH] at ha
    | iF _ _=>simp[fH] at ha
    | gw _ _=>simp[fH] at ha
    | dX _=>simp[fH] at ha
    | ks _ _=>simp[fH] at ha
    | nD=>simp[fH] at ha
    | sub _ _=>simp[fH] at ha
    | any=>simp[fH] at ha
    | aD f τ=>
     cases f with
     | true=>simp[fH] at ha
     | false=>
     simp only[fH] at ha;split at ha
     ·rename_i b hb;cases ha;refine⟨i1,?_⟩;simp only[TV.er.go,eS,KZ n hb ln,i2];rfl
     ·cases ha
    | ptr f τ=>
     cases f with
     | true=>simp[fH] at ha
     | false=>
     simp only[fH] at ha;split at ha
     ·rename_i b hb;cases ha;refine⟨i1,?_⟩;simp only[TV.er.go,eS,KY n hb ln,i2];rfl
     ·cases ha
   ·cases h
  ·cases h
 | [],_::_,_,_,h,_=>by simp[lE] at h
 | _::_,[],_,_,h,_=>by simp[lE] at h
theorem w8 {s:ae S}(n:Nat) (ln:Nat→Nat):∀{l:List Sh}{vs:List (TV S)}{xs:List (bn S.α)},F4 l=true→lE s l vs=some xs→∀r,(dh l (xs++r)).2=r∧eS (tT (n+2) s.er.st) (TV.er.go s.ln vs)=some (TV.er.go ln (dh l (xs++r)).1)
 | [],[],_,_,h,r=>by simp[lE] at h;subst h;exact⟨rfl,rfl⟩
 | x::l,v::vs,xs,hf,h,r=>by
  simp only[F4,af] at hf;simp only[lE] at h;split at h
  ·rename_i a ha;split at h
   ·rename_i l' hl;cases h;rw[aR];obtain⟨i1,i2⟩:=w8 n ln hf.2 hl r;cases x with
    | own _ _=>simp[fH] at ha
    | loc _ _=>simp[fH] at ha
    | agg _=>simp[fH] at ha
    | cW _=>simp[fH] at ha
    | mp _=>simp[fH] at ha
    | iF _ _=>simp[fH] at ha
    | gw _ _=>simp[fH] at ha
    | dX _=>simp[fH] at ha
    | ks _ _=>simp[fH] at ha
    | nD=>simp[fH] at ha
    | sub _ _=>simp[fH] at ha
    | any=>simp[fH] at ha
    | ba f l0=>
     simp only[fH] at ha;split at ha
     ·rename_i f' vs';split at ha
      ·rename_i hb;have e:=ab hb;subst e;obtain⟨j1,j2⟩:=I6 n ln hf.1 ha (l'++r);simp only[dh,gT];rw[j1];refine⟨i1,?_⟩;simp only[TV.er.go,eS,i2];have hv:tT (n+2) s.er.st ((TV.ba f' vs':TV S).er s.ln)=some (.ba f' (TV.er.go ln (dh l0 (a++(l'++r))).1)):=by
        show(match eS (view (n+2) s.er.st) (TV.er.go s.ln vs') with | some c=>some (G.ba f' c) | none=>none)=_;rw[j2]
       rw[hv];rfl
      ·cases ha
     ·cases ha
    | aD f τ=>
     cases f with
     | true=>simp[fH] at ha
     | false=>
     simp only[fH] at ha;split at ha
     ·rename_i b hb;cases ha;refine⟨i1,?_⟩;simp only[TV.er.go,eS,K0 (KZ n hb ln),i2];rfl
     ·cases ha
    | ptr f τ=>
     cases f with
     | true=>simp[fH] at ha
     | false=>
     simp only[fH] at ha;split at ha
     ·rename_i b hb;cases ha;refine⟨i1,?_⟩;simp only[TV.er.go,eS,K0 (KY n hb ln),i2];rfl
     ·cases ha
   ·cases h
  ·cases h
 | [],_::_,_,_,h,_=>by simp[lE] at h
 | _::_,[],_,_,h,_=>by simp[lE] at h
end
end Go.DN
/-
 DN,part V:contracts;calls by eV.
-/
namespace Go.DN
open Go.AM
structure bz (S:eI) where
 f:FuncId
 args:List Sh
 aQ:List Oh
 vw:Bool
 aw:List (Nat×Sh)
 outs:List (Nat×Oh)
 F:bB S.α (kU args aQ)→Option (bB S.α (JH.cX ⟨aw,outs⟩))
section
variable {S:eI}
structure aM (P:Program) (con:bz S):Prop where
 call:∀args w,(callFunc con.f args).run P w=.ok (.enter con.f args) w
 ok:∀q r,con.F q=some r→GM P con.f (TV.er.go (fp con.args con.aQ (leaves _ q)).ln (dh con.args (leaves _ q)).1) (fp con.args con.aQ (leaves _ q)).er.st (Zv con.aw con.outs r)
def og:List (Nat×Sh)→Bool
 | []=>true
 | (_,.aD _ _)::r=>og r
 | _=>false
def sw:List (Nat×Sh)→Bool
 | []=>true
 | (_,.aD f _)::r=>f&&sw r
 | _=>false
theorem GB {g:G}(h:Pl g):kT (dY true g)=true:=by
 rcases h with ⟨u,rfl⟩ | ⟨n,cs,rfl⟩ | ⟨b,rfl⟩ | ⟨cs,rfl⟩ <;> rfl
theorem QD (τ:Ty) (a:S.D τ):kT (oP true τ a)=true:=by
 cases τ with
 | st n=>
  show kT.go ((aX S (.st n) a).map (dY true))=true;have h:=uA (S:=S) (.st n) a;generalize aX S (.st n) a=l at h
  induction l with
  | nil=>rfl
  | cons x r ih=>
   simp only[bc,kT.go,GB (h x ar),ih fun y hy=>h y (ap _ hy),ij]
 | _=>exact GB (yW rfl a)
theorem GA (ln:Nat→Nat):∀(aw:List (Nat×Sh)) (ls:List (bn S.α)),sw aw=true→ls.length=(jC aw).length→kT.go (((cC aw ls).1.map (·.2)).map (TV.er ln))=true
 | [],_,_,_=>rfl
 | (d,.aD f τ)::r,ls,h,hl=>by
  simp only[sw,af] at h;cases ls with
  | nil=>simp[jC,Sh.cX] at hl
  | cons x xs=>
   simp only[cC,gT,bc,kT.go];rw[h.1,GA ln r xs h.2 (by simpa[jC,Sh.cX] using hl),jZ];exact QD x.τ x.a
 | (d,.own h τ)::r,ls,h',_=>by cases h'
 | (d,.ptr _ _)::r,ls,h',_=>by cases h'
 | (d,.loc _ _)::r,ls,h',_=>by cases h'
 | (d,.ba _ _)::r,ls,h',_=>by cases h'
 | (d,.agg _)::r,ls,h',_=>by cases h'
 | (d,.cW _)::r,ls,h',_=>by cases h'
 | (d,.mp _)::r,ls,h',_=>by cases h'
 | (d,.iF _ _)::r,ls,h',_=>by cases h'
 | (d,.gw _ _)::r,ls,h',_=>by cases h'
 | (d,.dX _)::r,ls,h',_=>by cases h'
 | (d,.ks _ _)::r,ls,h',_=>by cases h'
 | (d,.any)::r,ls,h',_=>by cases h'
 | (d,.nD)::r,ls,h',_=>by cases h'
 | (d,.sub _ _)::r,ls,h',_=>by cases h'
theorem JE {aw:List (Nat×Sh)}{ls:List (bn S.α)}(h:sw aw=true) (hl:ls.length=(jC aw).length) (ln:Nat→Nat):kT ((nT aw ls).er ln)=true:=by
 have:=GA (S:=S) ln aw ls h hl;rw[←yG]
 revert this
 generalize (((cC aw ls).1.map (·.2)).map (TV.er ln))=gs;intro hg
 match gs with
 | []=>rfl
 | [g]=>simpa[kT.go,pack] using hg
 | g::g'::r=>exact hg
theorem O2 (ln ln':Nat→Nat):∀(aw:List (Nat×Sh)) (ls:List (bn S.α)),og aw=true→((cC aw ls).1.map (·.2)).map (TV.er ln)=((cC aw ls).1.map (·.2)).map (TV.er ln')
 | [],_,_=>rfl
 | (d,.aD f τ)::r,ls,h=>by
  simp only[cC,bc];rw[O2 ln ln' r _ h];cases ls <;> rfl
 | (d,.own h τ)::r,ls,h'=>by cases h'
 | (d,.ptr _ _)::r,ls,h'=>by cases h'
 | (d,.loc _ _)::r,ls,h'=>by cases h'
 | (d,.ba _ _)::r,ls,h'=>by cases h'
 | (d,.agg _)::r,ls,h'=>by cases h'
 | (d,.cW _)::r,ls,h'=>by cases h'
 | (d,.mp _)::r,ls,h'=>by cases h'
 | (d,.iF _ _)::r,ls,h'=>by cases h'
 | (d,.gw _ _)::r,ls,h'=>by cases h'
 | (d,.dX _)::r,ls,h'=>by cases h'
 | (d,.ks _ _)::r,ls,h'=>by cases h'
 | (d,.any)::r,ls,h'=>by cases h'
 | (d,.nD)::r,ls,h'=>by cases h'
 | (d,.sub _ _)::r,ls,h'=>by cases h'
theorem Lw (ln ln':Nat→Nat){aw:List (Nat×Sh)}{ls:List (bn S.α)}(h:og aw=true):(nT aw ls).er ln=(nT aw ls).er ln':=by
 rw[←yG,←yG,O2 ln ln' aw ls h]
def TV.imp:TV S→Bool
 | .aD _ _ _=>true
 | .ptr _ _ _=>true
 | .val _=>true
 | .agg l=>go l
 | .ba _ l=>go l
 | _=>false
where go:List (TV S)→Bool
 | []=>true
 | x::r=>x.imp&&go r
def oU:G→Bool
 | .val _=>true
 | .dw _=>true
 | .sl _ _=>true
 | .ptr _=>true
 | .fr _=>true
 | .agg gs=>go gs
 | .ba _ gs=>go gs
 | _=>false
where go:List G→Bool
 | []=>true
 | g::r=>oU g&&go r
mutual
theorem SK (ln:Nat→Nat):∀v:TV S,v.imp=true→oU (v.er ln)=true
 | .aD f τ a,_=>by
  cases τ with
  | st n=>
   show oU.go ((aX S (.st n) a).map (dY f))=true;have h:=uA (S:=S) (.st n) a;generalize aX S (.st n) a=l at h
   induction l with
   | nil=>rfl
   | cons x r ih=>
    have h1:oU (dY f x)=true:=by
     rcases h x ar with ⟨u,rfl⟩ | ⟨n,cs,rfl⟩ | ⟨b,rfl⟩ | ⟨cs,rfl⟩ <;> cases f <;> rfl
    simp only[bc,oU.go,h1,ih fun y hy=>h y (ap _ hy),ij]
  | pt n=>cases a <;> cases f <;> rfl
  | _=>cases f <;> rfl
 | .ptr f τ a,_=>by cases f <;> rfl
 | .val _,_=>rfl
 | .agg l,h=>p9 ln l h
 | .ba _ l,h=>p9 ln l h
 | .bB _,h=>by cases h
 | .loc _ _,h=>by cases h
 | .iK _ _ _ _,h=>by cases h
 | .aL _ _,h=>by cases h
 | .sub _ _ _ _,h=>by cases h
 | .cW _,h=>by cases h
 | .mp _,h=>by cases h
 | .ks _ _ _ _,h=>by cases h
 | .kp _ _ _ _,h=>by cases h
 | .iF _ _ _ _ _,h=>by cases h
 | .gw _ _ _,h=>by cases h
 | .dX _ _,h=>by cases h
 | .any,h=>by cases h
theorem p9 (ln:Nat→Nat):∀l:List (TV S),TV.imp.go l=true→oU.go (TV.er.go ln l)=true
 | [],_=>rfl
 | x::r,h=>by
  simp only[TV.imp.go,af] at h;simp only[TV.er.go,oU.go,SK ln x h.1,p9 ln r h.2,ij]
end
theorem zS {f:G→Option G}:∀{gs gs':List G},(∀g g',g∈gs→f g=some g'→gK g=some g')→eS f gs=some gs'→gK.go gs=some gs'
 | [],_,_,h=>by cases h;rfl
 | g::r,gs',hf,h=>by
  simp only[eS] at h;split at h
  ·rename_i g1 r1 h1 h2;cases h;simp only[gK.go,hf g g1 ar h1,zS (fun x x' hx=>hf x x' (ap _ hx)) h2]
  ·cases h
theorem B1:∀{gs:List G}{g:G},oU.go gs=true→g∈gs→oU g=true
 | x::r,g,h,hm=>by
  simp only[oU.go,af] at h;rcases bf.1 hm with e | hm
  ·subst e;exact h.1
  ·exact B1 h.2 hm
theorem D9 {st:List (Nat×av)}:∀(n:Nat){g g':G},oU g=true→view n st g=some g'→gK g=some g'
 | 0,_,_,_,h=>by cases h
 | n+1,g,g',ho,h=>by
  cases g with
  | val v=>exact h
  | dw b=>exact h
  | sl m cs=>exact h
  | ptr cs=>exact h
  | fr g=>exact h
  | agg gs=>
   have h:(match eS (view n st) gs with | some gs'=>some (G.agg gs') | none=>none)=some g':=h;split at h
   ·rename_i gs' hm;cases h;show(gK.go gs).map G.agg=_;rw[zS (fun x x' hx hv=>D9 n (B1 ho hx) hv) hm];rfl
   ·cases h
  | ba f gs=>simp[view] at h
  | _=>cases ho
theorem Rq {n:Nat}{st:List (Nat×av)}{g g':G}(ho:oU g=true) (h:tT n st g=some g'):gK g=some g':=by
 cases g with
 | ba f gs=>
  have h:(match eS (view n st) gs with | some c=>some (G.ba f c) | none=>none)=some g':=h;split at h
  ·rename_i gs' hm;cases h;show(gK.go gs).map (G.ba f)=_;rw[zS (fun x x' hx hv=>D9 n (B1 ho hx) hv) hm];rfl
  ·cases h
 | _=>exact D9 n ho h
theorem zT {n:Nat}{st:List (Nat×av)}:∀{gs gs':List G},oU.go gs=true→eS (tT n st) gs=some gs'→eS gK gs=some gs'
 | [],_,_,h=>by cases h;rfl
 | g::r,gs',ho,h=>by
  simp only[oU.go,af] at ho;simp only[eS] at h;split at h
  ·rename_i g1 r1 h1 h2;cases h;simp only[eS,Rq ho.1 h1,zT ho.2 h2]
  ·cases h
theorem U3 (f:Bool) (τ:Ty) (a:S.D τ):nB (oP f τ a)=true:=by
 cases τ with
 | st n=>
  show nB.go ((aX S (.st n) a).map (dY f))=true;have h:=uA (S:=S) (.st n) a;generalize aX S (.st n) a=l at h
  induction l with
  | nil=>rfl
  | cons x r ih=>
   have h1:nB (dY f x)=true:=by
    rcases h x ar with ⟨u,rfl⟩ | ⟨n,cs,rfl⟩ | ⟨b,rfl⟩ | ⟨cs,rfl⟩ <;> cases f <;> rfl
   simp only[bc,nB.go,h1,ih fun y hy=>h y (ap _ hy),ij]
 | pt n=>cases a <;> cases f <;> rfl
 | _=>cases f <;> rfl
theorem MA (ln:Nat→Nat):∀(aw:List (Nat×Sh)) (ls:List (bn S.α)),og aw=true→ls.length=(jC aw).length→nB.go (((cC aw ls).1.map (·.2)).map (TV.er ln))=true
 | [],_,_,_=>rfl
 | (d,.aD f τ)::r,ls,h,hl=>by
  cases ls with
  | nil=>simp[jC,Sh.cX] at hl
  | cons x xs=>
   simp only[cC,gT,bc,nB.go];rw[MA ln r xs h (by simpa[jC,Sh.cX] using hl),jZ];exact U3 f x.τ x.a
 | (d,.own h τ)::r,ls,h',_=>by cases h'
 | (d,.ptr _ _)::r,ls,h',_=>by cases h'
 | (d,.loc _ _)::r,ls,h',_=>by cases h'
 | (d,.ba _ _)::r,ls,h',_=>by cases h'
 | (d,.agg _)::r,ls,h',_=>by cases h'
 | (d,.cW _)::r,ls,h',_=>by cases h'
 | (d,.mp _)::r,ls,h',_=>by cases h'
 | (d,.iF _ _)::r,ls,h',_=>by cases h'
 | (d,.gw _ _)::r,ls,h',_=>by cases h'
 | (d,.dX _)::r,ls,h',_=>by cases h'
 | (d,.ks _ _)::r,ls,h',_=>by cases h'
 | (d,.any)::r,ls,h',_=>by cases h'
 | (d,.nD)::r,ls,h',_=>by cases h'
 | (d,.sub _ _)::r,ls,h',_=>by cases h'
theorem H5 {aw:List (Nat×Sh)}{ls:List (bn S.α)}(h:og aw=true) (hl:ls.length=(jC aw).length) (ln:Nat→Nat):nB ((nT aw ls).er ln)=true:=by
 have:=MA (S:=S) ln aw ls h hl;rw[←yG]
 revert this
 generalize (((cC aw ls).1.map (·.2)).map (TV.er ln))=gs;intro hg
 match gs with
 | []=>rfl
 | [g]=>simpa[nB.go,pack] using hg
 | g::g'::r=>exact hg
def qB (con:bz S):Bool:=isNil con.aQ&&(isNil con.outs&&(F4 con.args&&og con.aw))
def AE (con:bz S) (s:ae S) (d:Nat) (vs:List (TV S)){A:Type}(k:ae S→Option A):Option A:=
 match qB con&&(sw con.aw||TV.imp.go vs) with
 | true=>match lE s con.args vs with
  | some ls=>match nR (kU con.args con.aQ) ls with
   | some q=>(con.F q).bind fun r=>k (s.put d (nT con.aw (leaves _ r)))
   | none=>none
  | none=>none
 | false=>none
theorem rD (ln:Nat→Nat):∀(l l':List (TV S)),TV.er.go ln (l++l')=TV.er.go ln l++TV.er.go ln l'
 | [],_=>rfl
 | x::r,l'=>by simp only[bU,TV.er.go,rD ln r l']
theorem EQ {α:Type}:∀{l:List α},isNil l=true→l=[]
 | [],_=>rfl
 | _::_,h=>by cases h
theorem zC {P:Program}{con:bz S}(C:aM P con) (h:qB con=true):F4 con.args=true∧og con.aw=true∧
  ∀q r,con.F q=some r→GM P con.f (TV.er.go (fun _=>0) (dh con.args (leaves _ q)).1) [] (fun g st=>g=(nT con.aw (leaves _ r)).er (fun _=>0)∧st=[]):=by
 simp only[qB,af] at h;obtain⟨h1,h2,h3,h4⟩:=h;refine⟨h3,h4,fun q r hr=>?_⟩;have:=C.ok q r hr;obtain⟨f,args,aQ,vw,aw,outs,F⟩:=con;have h1':aQ=[]:=EQ h1;have h2':outs=[]:=EQ h2;subst h1';subst h2';have e1:(fp args [] (leaves (kU args []) q)).ln=fun _=>0:=rfl;rw[e1] at this;exact this
theorem C5 {aw:List (Nat×Sh)}{outs:List (Nat×Oh)}(r:bB S.α (JH.cX ⟨aw,outs⟩)) (h:outs=[]):(leaves _ r).length=(jC aw).length:=by
 subst h;rw[Gj];simp[JH.cX,F5]
theorem ve {con:bz S}(h:qB con=true):con.outs=[]:=by
 simp only[qB,af] at h;exact EQ h.2.1
theorem VH {P:Program}{N:Nat}{W:List Nat}{con:bz S}(C:aM P con){s:ae S}{d:Nat}{vs:List (TV S)}{A:Type}{k:ae S→Option A}{r:A}(hl:aO s) (h:AE con s d vs k=some r)
  {xs:Array Operand}{ts:Array TypeId}{ty:TypeId}{pos:String}{after:Array Edge}{guard:Option (Nat×Bool)}(hv:uL s xs.toList=some vs):
  ∃T:St→Prop,cm P W s.er ⟨some d,.call ⟨.value (.func con.f),xs,ts⟩,ty,pos,after,guard⟩ T∧∀s',T s'→∃t:ae S,Gh s' t.er∧aO t∧bC s t∧k t=some r:=by
 unfold AE at h;split at h
 ·rename_i hc;rw[af] at hc;obtain⟨hp,hfr⟩:=hc;obtain⟨C1,C2,C3⟩:=zC C hp;split at h
  ·rename_i ls hls;split at h
   ·rename_i q hq;obtain⟨res,h1,h2⟩:=bind_some h;have hview:=(w8 1 (fun _=>0) C1 hls []).2;rw[bM,←hZ hq] at hview;have fin:∀s',(∃g st,(g=(nT con.aw (leaves _ res)).er (fun _=>0)∧st=([]:List (Nat×av)))∧s'=s.er.put d g)→∃t:ae S,Gh s' t.er∧aO t∧bC s t∧k t=some r:=by
     intro s' hs';obtain⟨g,st,⟨hg,_⟩,e⟩:=hs';subst e;subst hg;refine⟨_,?_,hl.put d _,⟨rfl,rfl,rfl⟩,h2⟩;rw[iJ,Lw s.ln (fun _=>0) C2];exact Gh.refl _
    have hlen:=C5 res (ve hp);cases hfs:sw con.aw with
    | true=>exact⟨_,EF.call (P:=P) (W:=W) 3 C.call (nw hv).2 hview (C3 q res h1) (fun g st hg=>by rw[hg.1];exact JE hfs hlen _),fin⟩
    | false=>
     rw[hfs] at hfr;have himp:=p9 s.ln vs hfr;exact⟨_,EF.ZX (P:=P) (W:=W) C.call (nw hv).2 (zT himp hview) (C3 q res h1) (fun g st hg=>⟨by rw[hg.1];exact H5 C2 hlen _,hg.2⟩),fin⟩
   ·cases h
  ·cases h
 ·cases h
theorem EF.Zk {P:Program}{W:List Nat}{s:St}{d:Nat}{ty:TypeId}{pos:String}{after:Array Edge}{guard:Option (Nat×Bool)}{f:FuncId}{x:Operand}{xs:Array Operand}{ts:Array TypeId}{gs caps gs':List G}{Q:G→List (Nat×av)→Prop}(hb:vu f xs.toList=true) (hc:∀args w,(callFunc f args).run P w=.ok (.enter f args) w)
  (hf:ev s x=some (.ba f caps)) (hx:wu s xs.toList=some gs) (hv:eS gK (gs++caps)=some gs') (hcon:GM P f gs' [] Q) (hres:∀r st',Q r st'→nB r=true∧st'=[]):
  cm P W s ⟨some d,.call ⟨.value x,xs,ts⟩,ty,pos,after,guard⟩ (fun s'=>∃r st',Q r st'∧s'=s.put d r):=by
 refine⟨(fun _ h=>by cases h),?_⟩;intro N cx μ a w hr hN K Q' hK;obtain⟨h1,h2⟩:=oJ hx;have hcl:=hr.ev hf;generalize hav:a.eval x=vf at hcl;cases hcl with
 | aF h=>cases h
 | ba _ _ us hl hrc=>
  have hcall:=G4 (vs:=xs.toList.map a.eval++us) (W:=W) hr hv (by simp[h1,hl]) (fun j g v hg hv=>by
   rw[bS] at hg hv;rw[aN,←h1] at hv;split at hg
   ·rename_i hj;rw[if_pos hj] at hv;obtain⟨x,hxj,he⟩:=h2 j g hg;rw[ak,hxj] at hv;cases hv;exact hr.ev he
   ·rename_i hj;rw[if_neg hj] at hv;exact hrc _ g v hg hv) hcon hres
  unfold Oper.wp;have:=BN (P:=P) (w:=w) (d:=d) (ty:=ty) (pos:=pos) (after:=after) (guard:=guard) (ts:=ts) hb hc hav;rw[this];refine hcall.mono ?_;rintro e w' ⟨v,r,st',rfl,hq,hr',hrv,hst⟩;exact hK μ _ _ w' (hr'.put (hN d rfl) hrv) ⟨r,st',hq,rfl⟩ hst
theorem Nd {P:Program}{N:Nat}{W:List Nat}{con:bz S}(C:aM P con){s:ae S}{d:Nat}{vs caps:List (TV S)}{A:Type}{k:ae S→Option A}{r:A}(hl:aO s) (h:AE con s d (vs++caps) k=some r)
  {x:Operand}{xs:Array Operand}{ts:Array TypeId}{ty:TypeId}{pos:String}{after:Array Edge}{guard:Option (Nat×Bool)}(hx:cu s x=some (.ba con.f caps)) (hb:vu con.f xs.toList=true) (hv:uL s xs.toList=some vs):
  ∃T:St→Prop,cm P W s.er ⟨some d,.call ⟨.value x,xs,ts⟩,ty,pos,after,guard⟩ T∧∀s',T s'→∃t:ae S,Gh s' t.er∧aO t∧bC s t∧k t=some r:=by
 unfold AE at h;split at h
 ·rename_i hc;rw[af] at hc;obtain⟨hp,hfr⟩:=hc;obtain⟨C1,C2,C3⟩:=zC C hp;split at h
  ·rename_i ls hls;split at h
   ·rename_i q hq;obtain⟨res,h1,h2⟩:=bind_some h;have hview:=(w8 1 (fun _=>0) C1 hls []).2;rw[bM,←hZ hq,rD] at hview;have fin:∀s',(∃g st,(g=(nT con.aw (leaves _ res)).er (fun _=>0)∧st=([]:List (Nat×av)))∧s'=s.er.put d g)→∃t:ae S,Gh s' t.er∧aO t∧bC s t∧k t=some r:=by
     intro s' hs';obtain⟨g,st,⟨hg,_⟩,e⟩:=hs';subst e;subst hg;refine⟨_,?_,hl.put d _,⟨rfl,rfl,rfl⟩,h2⟩;rw[iJ,Lw s.ln (fun _=>0) C2];exact Gh.refl _
    cases hfs:sw con.aw with
    | true=>exact⟨_,EF.ZW (P:=P) (W:=W) 3 hb C.call (bh hx) (nw hv).2 hview (C3 q res h1) (fun g st hg=>by rw[hg.1];exact JE hfs (C5 res (ve hp)) _),fin⟩
    | false=>
     rw[hfs] at hfr;have himp:=p9 s.ln (vs++caps) hfr;rw[rD] at himp;exact⟨_,EF.Zk (P:=P) (W:=W) hb C.call (bh hx) (nw hv).2 (zT himp hview) (C3 q res h1) (fun g st hg=>⟨by rw[hg.1];exact H5 C2 (C5 res (ve hp)) _,hg.2⟩),fin⟩
   ·cases h
  ·cases h
 ·cases h
theorem aM.Z2 {P:Program}{N fu:Nat}{H:List (Nat×Hint)}{cl:Cl S}{con:bz S}{fn:Func}{c:Code}(hm:P.follows .mixedOrders=true) (hcl:A1 P N cl)
  (hf:P.funcs[con.f]?=some fn) (hcall:∀args w,(callFunc con.f args).run P w=.ok (.enter con.f args) w) (hb:fn.body=some c) (hN:fn.ntmps=N)
  (hle:pr N con.args con.aw con.outs=true) (hrg:qf S N H (mV c 0))
  {mvs:List Nat}(h:∀q,E7 P N fu H cl c mvs fn.results.toList con.args con.aQ con.aw con.outs q=con.F q):aM P con:=
 ⟨hcall,fun q r hr=>XF hm hcl hf hb hN hle hrg ((h q).trans hr)⟩
end
end Go.DN
