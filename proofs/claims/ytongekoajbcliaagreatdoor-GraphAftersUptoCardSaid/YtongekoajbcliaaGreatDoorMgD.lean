/-
  DN, second half.
-/
import Derived.Test.YtongekoajbcliaaGreatDoorMgG
set_option linter.all false
/-
 DN,part O:what a loop or a join carries.
-/
namespace Go.DN
open Go.AM
inductive Sh where
 | aE (f:Bool) (τ:Ty)
 | ptr (f:Bool) (τ:Ty)
 | own (h:Nat) (τ:Ty)
 | loc (h off:Nat)
 | bf (f:FuncId) (l:List Sh)
 | agg (l:List Sh)
 | da (h:Nat)
 | mp (h:Nat)
 | any
 | nT
 | sub (h:Nat) (τ:Ty)
 | iQ (h:Nat) (τ:Ty)
 | ks (h:Nat) (τ:Ty)
 | gG (h off:Nat)
 | ee (h:Nat)
inductive Oh where
 | arr (e:TypeId) (m f:Bool) (τ:Ty)
 | box (e:TypeId) (m:Bool) (cs:List Sh)
 | lp (key:Nat) (lv:Bool) (cs:List Sh)
 | deep (e:TypeId) (m f:Bool) (dk:Dk) (τ:Ty)
structure JH where
 ay:List (Nat×Sh)
 aR:List (Nat×Oh)
mutual
def Sh.dd:Sh→List Ty
 | .aE _ τ=>[τ]
 | .ptr _ τ=>[τ]
 | .own _ _=>[]
 | .loc _ _=>[]
 | .bf _ l=>zV l
 | .agg l=>zV l
 | .da _=>[]
 | .mp _=>[]
 | .any=>[]
 | .nT=>[.int .i64]
 | .sub _ _=>[.int .i64,.int .i64]
 | .iQ _ _=>[.bool,.int .i64,.int .i64]
 | .ks _ _=>[.int .i64,.int .i64]
 | .gG _ _=>[.bool]
 | .ee _=>[.bool]
def zV:List Sh→List Ty
 | []=>[]
 | x::r=>x.dd++zV r
end
def Oh.dd:Oh->List Ty|.arr _ _ _ b=>[.list b]|.box _ _ a=>zV a|.lp _ c a=>(match c with|true=>.int .i64::zV a|false=>zV a)|.deep _ _ _ _ b=>[b]
def jM:List (Nat×Sh)->List Ty|[]=>[]|(_,x)::r=>x.dd++jM r
def GB:List (Nat×Oh)->List Ty|[]=>[]|(_,x)::r=>x.dd++GB r
def JH.dd(j:JH):List Ty:=jM j.ay++GB j.aR
@[reducible] def bE(α:Nat->Type):List Ty->Type|[]=>Unit|[t]=>t.den α|t::r=>t.den α×bE α r
section
variable {S:eN}
def oi:(ts:List Ty)->List (bp S.α)->Option (bE S.α ts)|[],[]=>some ()|[t],[x]=>jF x.τ t x.a|t::u::r,x::c=>(match jF x.τ t x.a with|some a=>(match oi (u::r) c with|some b=>some (a,b)|none=>none)|none=>none)|_,_=>none
def leaves:(ts:List Ty)->bE S.α ts->List (bp S.α)|[],_=>[]|[t],q=>[⟨t,q⟩]|t::u::r,q=>⟨t,q.1⟩::leaves (u::r) q.2
def il:∀{ts:List Ty}{xs:List (bp S.α)}{q:bE S.α ts},oi ts xs=some q->leaves ts q=xs|[],[],_,_=>rfl|[t],[x],q,h=>by obtain⟨d,a⟩:=x;have:=e9 h;show[(⟨t,q⟩:bp S.α)]=_;rw[this]|t::u::r,x::xs,q,h=>by simp only[oi] at h;split at h;rename_i a c;split at h;rename_i b e;cases h;show(⟨t,a⟩:bp S.α)::leaves (u::r) b=_;rw[il e];obtain⟨d,f⟩:=x;rw[e9 c];cases h;cases h|[],_::_,_,h=>by cases h|[_],[],_,h=>by cases h|[_],_::_::_,_,h=>by simp[oi] at h|_::_::_,[],_,h=>by cases h
mutual
def lf:Sh→TV S→Option (List (bp S.α))
 | .aE f τ,v=>match Ge τ v with
  | some (f',a)=>match !f||f' with
   | true=>some [⟨τ,a⟩]
   | false=>none
  | none=>none
 | .ptr f τ,v=>match v with
  | .ptr f' τ' a=>match !f||f' with
   | true=>match jF τ' τ a with
    | some b=>some [⟨τ,b⟩]
    | none=>none
   | false=>none
  | _=>none
 | .own h τ,v=>match v with
  | .aN h' τ'=>match Nat.beq h' h with
   | true=>match decEq τ' τ with
    | isTrue _=>some []
    | isFalse _=>none
   | false=>none
  | _=>none
 | .loc h o,v=>match v with
  | .loc h' o'=>match Nat.beq h' h&&Nat.beq o' o with
   | true=>some []
   | false=>none
  | _=>none
 | .bf f l,v=>match v with
  | .bf f' vs=>match Nat.beq f' f with
   | true=>sB l vs
   | false=>none
  | _=>none
 | .agg l,v=>match v with
  | .agg vs=>sB l vs
  | _=>none
 | .da h,v=>match v with
  | .da h'=>match Nat.beq h' h with
   | true=>some []
   | false=>none
  | _=>none
 | .mp h,v=>match v with
  | .mp h'=>match Nat.beq h' h with
   | true=>some []
   | false=>none
  | _=>none
 | .any,_=>some []
 | .nT,v=>match v with
  | .bf f []=>some [⟨.int .i64,(f:Int)⟩]
  | _=>none
 | .sub h τ,v=>match v with
  | .sub h' τ' o n=>match Nat.beq h' h with
   | true=>match decEq τ' τ with
    | isTrue _=>some [⟨.int .i64,(o:Int)⟩,⟨.int .i64,(n:Int)⟩]
    | isFalse _=>none
   | false=>none
  | _=>none
 | .ks h τ,v=>match v with
  | .ks h' τ' z n=>match Nat.beq h' h with
   | true=>match decEq τ' τ with
    | isTrue _=>some [⟨.int .i64,(z:Int)⟩,⟨.int .i64,(n:Int)⟩]
    | isFalse _=>none
   | false=>none
  | _=>none
 | .gG h o,v=>match v with
  | .val (.pointer none)=>some [⟨.bool,true⟩]
  | .loc h' o'=>match Nat.beq h' h&&Nat.beq o' o with
   | true=>some [⟨.bool,false⟩]
   | false=>none
  | .gG b h' o'=>match Nat.beq h' h&&Nat.beq o' o with
   | true=>some [⟨.bool,b⟩]
   | false=>none
  | _=>none
 | .ee h,v=>match v with
  | .mp h'=>match Nat.beq h' h with
   | true=>some [⟨.bool,false⟩]
   | false=>none
  | .ee b h'=>match Nat.beq h' h with
   | true=>some [⟨.bool,b⟩]
   | false=>none
  | _=>none
 | .iQ h τ,v=>match v with
  | .val (.pointer none)=>some [⟨.bool,true⟩,⟨.int .i64,(0:Int)⟩,⟨.int .i64,(0:Int)⟩]
  | .kp h' τ' i j=>match Nat.beq h' h with
   | true=>match decEq τ' τ with
    | isTrue _=>some [⟨.bool,false⟩,⟨.int .i64,(i:Int)⟩,⟨.int .i64,(j:Int)⟩]
    | isFalse _=>none
   | false=>none
  | .iQ b h' τ' i j=>match Nat.beq h' h with
   | true=>match decEq τ' τ with
    | isTrue _=>some [⟨.bool,b⟩,⟨.int .i64,(i:Int)⟩,⟨.int .i64,(j:Int)⟩]
    | isFalse _=>none
   | false=>none
  | _=>none
def sB:List Sh→List (TV S)→Option (List (bp S.α))
 | [],[]=>some []
 | sh::r,v::vs=>match lf sh v with
  | some xs=>match sB r vs with
   | some ys=>some (xs++ys)
   | none=>none
  | none=>none
 | _,_=>none
end
mutual
def hJ:Sh→List (bp S.α)→TV S×List (bp S.α)
 | .aE f _,ls=>match ls with
  | x::r=>(.aE f x.τ x.a,r)
  | []=>(.any,[])
 | .ptr f _,ls=>match ls with
  | x::r=>(.ptr f x.τ x.a,r)
  | []=>(.any,[])
 | .own h τ,ls=>(.aN h τ,ls)
 | .loc h o,ls=>(.loc h o,ls)
 | .bf f l,ls=>(.bf f (dv l ls).1,(dv l ls).2)
 | .agg l,ls=>(.agg (dv l ls).1,(dv l ls).2)
 | .da h,ls=>(.da h,ls)
 | .mp h,ls=>(.mp h,ls)
 | .any,ls=>(.any,ls)
 | .nT,ls=>match ls with
  | ⟨.int _,a⟩::r=>(.bf (Int.toNat a) [],r)
  | r=>(.any,r)
 | .sub h τ,ls=>match ls with
  | ⟨.int _,a⟩::⟨.int _,b⟩::r=>(.sub h τ (Int.toNat a) (Int.toNat b),r)
  | r=>(.any,r)
 | .ks h τ,ls=>match ls with
  | ⟨.int _,a⟩::⟨.int _,b⟩::r=>(.ks h τ (Int.toNat a) (Int.toNat b),r)
  | r=>(.any,r)
 | .gG h o,ls=>match ls with
  | ⟨.bool,b⟩::r=>(.gG b h o,r)
  | r=>(.any,r)
 | .ee h,ls=>match ls with
  | ⟨.bool,b⟩::r=>(.ee b h,r)
  | r=>(.any,r)
 | .iQ h τ,ls=>match ls with
  | ⟨.bool,b⟩::⟨.int _,i⟩::⟨.int _,j⟩::r=>(.iQ b h τ (Int.toNat i) (Int.toNat j),r)
  | r=>(.any,r)
def dv:List Sh→List (bp S.α)→List (TV S)×List (bp S.α)
 | [],ls=>([],ls)
 | sh::r,ls=>((hJ sh ls).1::(dv r (hJ sh ls).2).1,(dv r (hJ sh ls).2).2)
end
def RW.any(g:G):RW g .any:=fun _ _ _ _ _ _=>.aG (.any _)
def RW.bf{f:FuncId}{gs a:List G}(i:a.length=gs.length)(h:∀(j:Nat) (g':G),a[j]?=some g'->∃g,gs[j]?=some g/\RW g g'):RW (.bf f gs) (.bf f a):=by intro O d w o v b;cases b with|aG b=>cases b|bf _ _ k l m=>exact .bf f _ k (l.trans i.symm) fun j g' v c b=>(by obtain⟨g,n,e⟩:=h j g' c;exact e _ _ _ _ _ (m j g v n b))
def RW.aE(f f':Bool)(τ:Ty)(a:S.D τ)(d:(!f||f')=true):RW (pe f' τ a) (pe f τ a):=by cases f with|true=>(have:f'=true:=by simpa using d);subst this;exact RW.refl _|false=>unfold pe;split;rename_i n a;refine RW.agg (by simp) fun j h b=>?_;rw[ao] at b|-;obtain⟨g,c,rfl⟩:=aA.1 b;exact⟨_,by rw[c];rfl,RW.ei _ _ _ (fun e=>by cases e)⟩;exact RW.ei _ _ _ (fun e=>by cases e)
def RW.aaO(f f':Bool)(τ:Ty)(a:S.D τ)(b:(!f||f')=true):RW (U1 f' τ a) (U1 f τ a):=by cases f with|true=>(have:f'=true:=by simpa using b);subst this;exact RW.refl _|false=>cases f' with|false=>exact RW.refl _|true=>exact RW.YH (.ptr (aX S τ a))
def W4{ln:Nat->Nat}{vs a:List (TV S)}(d:a.length=vs.length)(h:∀(j:Nat) (c:TV S),a[j]?=some c->∃v,vs[j]?=some v/\RW (v.er ln) (c.er ln)):(TV.er.go ln a).length=(TV.er.go ln vs).length/\∀(j:Nat) (g':G),(TV.er.go ln a)[j]?=some g'->∃g,(TV.er.go ln vs)[j]?=some g/\RW g g':=by rw[cW,cW];refine⟨by simp[d],fun j g' b=>?_⟩;rw[ao] at b;obtain⟨c,f,rfl⟩:=aA.1 b;obtain⟨v,i,e⟩:=h j c f;exact⟨v.er ln,by rw[ao,i];rfl,e⟩
mutual
theorem E2 (ln:Nat→Nat):∀{sh:Sh}{v:TV S}{xs:List (bp S.α)},lf sh v=some xs→∀(r:List (bp S.α)),(hJ sh (xs++r)).2=r∧RW (v.er ln) ((hJ sh (xs++r)).1.er ln)
 | .aE f τ,v,xs,h,r=>by
  simp only[lf] at h;split at h
  ·rename_i f' a ha;split at h
   ·rename_i hc;cases h;exact⟨rfl,(YI ha ln).trans (RW.aE _ _ _ _ hc)⟩
   ·cases h
  ·cases h
 | .ptr f τ,v,xs,h,r=>by
  simp only[lf] at h;split at h
  ·rename_i f' τ' a;split at h
   ·rename_i hc;split at h
    ·rename_i b hb;cases h;have:=e9 hb;cases this;exact⟨rfl,RW.aaO _ _ _ _ hc⟩
    ·cases h
   ·cases h
  ·cases h
 | .own h0 τ,v,xs,h,r=>by
  simp only[lf] at h;split at h
  ·split at h
   ·rename_i hb;split at h
    ·rename_i e _;cases h;subst e;have:=ab hb;subst this;exact⟨rfl,RW.refl _⟩
    ·cases h
   ·cases h
  ·cases h
 | .loc h0 o,v,xs,h,r=>by
  simp only[lf] at h;split at h
  ·split at h
   ·rename_i hb;simp only[ag] at hb;cases h;have e1:=ab hb.1;have e2:=ab hb.2;subst e1;subst e2;exact⟨rfl,RW.refl _⟩
   ·cases h
  ·cases h
 | .bf f l,v,xs,h,r=>by
  simp only[lf] at h;split at h
  ·rename_i f' vs;split at h
   ·rename_i hb;have e:=ab hb;subst e;obtain⟨i1,i2,i3⟩:=tD ln h r;obtain⟨j1,j2⟩:=W4 i2 i3;exact⟨i1,RW.bf j1 j2⟩
   ·cases h
  ·cases h
 | .agg l,v,xs,h,r=>by
  simp only[lf] at h;split at h
  ·rename_i vs;obtain⟨i1,i2,i3⟩:=tD ln h r;obtain⟨j1,j2⟩:=W4 i2 i3;exact⟨i1,RW.agg j1 j2⟩
  ·cases h
 | .da h0,v,xs,h,r=>by
  simp only[lf] at h;split at h
  ·split at h
   ·rename_i hb;cases h;have:=ab hb;subst this;exact⟨rfl,RW.refl _⟩
   ·cases h
  ·cases h
 | .mp h0,v,xs,h,r=>by
  simp only[lf] at h;split at h
  ·split at h
   ·rename_i hb;cases h;have:=ab hb;subst this;exact⟨rfl,RW.refl _⟩
   ·cases h
  ·cases h
 | .any,v,xs,h,r=>by
  simp only[lf] at h;cases h;exact⟨rfl,RW.any _⟩
 | .nT,v,xs,h,r=>by
  simp only[lf] at h;split at h
  ·cases h;exact⟨rfl,RW.refl _⟩
  ·cases h
 | .sub h0 τ,v,xs,h,r=>by
  simp only[lf] at h;split at h
  ·split at h
   ·rename_i hb;split at h
    ·rename_i e _;cases h;subst e;have:=ab hb;subst this;exact⟨rfl,RW.refl _⟩
    ·cases h
   ·cases h
  ·cases h
 | .ks h0 τ,v,xs,h,r=>by
  simp only[lf] at h;split at h
  ·split at h
   ·rename_i hb;split at h
    ·rename_i e _;cases h;subst e;have:=ab hb;subst this;exact⟨rfl,RW.refl _⟩
    ·cases h
   ·cases h
  ·cases h
 | .gG h0 o,v,xs,h,r=>by
  simp only[lf] at h;split at h
  ·cases h;exact⟨rfl,RW.refl _⟩
  ·split at h
   ·rename_i hb;rw[ag] at hb;cases h;have e1:=ab hb.1;have e2:=ab hb.2;subst e1;subst e2;exact⟨rfl,RW.refl _⟩
   ·cases h
  ·split at h
   ·rename_i hb;rw[ag] at hb;cases h;have e1:=ab hb.1;have e2:=ab hb.2;subst e1;subst e2;exact⟨rfl,RW.refl _⟩
   ·cases h
  ·cases h
 | .ee h0,v,xs,h,r=>by
  simp only[lf] at h;split at h
  ·split at h
   ·rename_i hb;cases h;have e1:=ab hb;subst e1;exact⟨rfl,RW.refl _⟩
   ·cases h
  ·split at h
   ·rename_i hb;cases h;have e1:=ab hb;subst e1;exact⟨rfl,RW.refl _⟩
   ·cases h
  ·cases h
 | .iQ h0 τ,v,xs,h,r=>by
  simp only[lf] at h;split at h
  ·cases h;exact⟨rfl,RW.refl _⟩
  ·split at h
   ·rename_i hb;split at h
    ·rename_i e _;cases h;subst e;have:=ab hb;subst this;exact⟨rfl,RW.refl _⟩
    ·cases h
   ·cases h
  ·split at h
   ·rename_i hb;split at h
    ·rename_i e _;cases h;subst e;have:=ab hb;subst this;exact⟨rfl,RW.refl _⟩
    ·cases h
   ·cases h
  ·cases h
theorem tD (ln:Nat→Nat):∀{l:List Sh}{vs:List (TV S)}{xs:List (bp S.α)},sB l vs=some xs→∀(r:List (bp S.α)),(dv l (xs++r)).2=r∧(dv l (xs++r)).1.length=vs.length∧
  ∀(j:Nat) (v':TV S),(dv l (xs++r)).1[j]?=some v'→∃v,vs[j]?=some v∧RW (v.er ln) (v'.er ln)
 | [],[],xs,h,r=>by simp only[sB] at h;cases h;exact⟨rfl,rfl,fun j v' h=>by cases h⟩
 | sh::l,v::vs,xs,h,r=>by
  simp only[sB] at h;split at h
  ·rename_i x1 h1;split at h
   ·rename_i ys h2;cases h;rw[aS];obtain⟨e1,e2⟩:=E2 ln h1 (ys++r);obtain⟨i1,i2,i3⟩:=tD ln h2 r;simp only[dv];rw[e1];refine⟨i1,by simp[i2],fun j v' hj=>?_⟩;cases j with
    | zero=>cases hj;exact⟨v,rfl,e2⟩
    | succ j=>exact i3 j v' hj
   ·cases h
  ·cases h
 | [],_::_,_,h,_=>by simp[sB] at h
 | _::_,[],_,h,_=>by simp[sB] at h
end
def Gt(fr:List (Nat×TV S)):List (Nat×Sh)->Option (List (bp S.α))|[]=>some []|(d,b)::r=>match bw fr d with|some v=>(match lf b v with|some c=>(match Gt fr r with|some a=>some (c++a)|none=>none)|none=>none)|none=>none
def cH:List (Nat×Sh)->List (bp S.α)->List (Nat×TV S)×List (bp S.α)|[],a=>([],a)|(d,b)::r,a=>((d,(hJ b a).1)::(cH r (hJ b a).2).1,(cH r (hJ b a).2).2)
def Ac{fr:List (Nat×TV S)}(ln:Nat->Nat):∀{l:List (Nat×Sh)}{xs:List (bp S.α)},Gt fr l=some xs->∀(r:List (bp S.α)),(cH l (xs++r)).2=r/\∀d b,bw (cH l (xs++r)).1 d=some b->∃v,bw fr d=some v/\RW (v.er ln) (b.er ln)|[],xs,h,r=>by cases h;exact⟨rfl,fun d b h=>by cases h⟩|(o,q)::l,xs,h,r=>by simp only[Gt] at h;split at h;rename_i v g;split at h;rename_i p i;split at h;rename_i j k;cases h;rw[aS];obtain⟨e,f⟩:=E2 ln i (j++r);obtain⟨n,m⟩:=Ac ln k r;simp only[cH];rw[e];refine⟨n,fun d b a=>?_⟩;simp only[bw] at a;(cases c:Nat.beq o d with|true=>rw[c] at a;cases a;have:=ab c;subst this;exact⟨v,g,f⟩|false=>rw[c] at a;exact m d b a);cases h;cases h;cases h
def PG:Ty->Bool|.list (.list t)=>t.jb|.map=>true|_=>false
def QI(s:Oh)(o:TO S):Option (List (bp S.α)):=match s with|.arr e m f d=>(match o with|.arr c g p b l=>(match Nat.beq c e&&((!m||g)&&(!f||(p||b.jb))) with|true=>(match jF (.list b) (.list d) l with|some l=>some [⟨.list d,l⟩]|none=>none)|false=>none)|_=>none)|.box e m i=>(match o with|.box c g j=>(match Nat.beq c e&&(!m||g) with|true=>sB i j|false=>none)|_=>none)|.lp q r i=>(match o with|.lp h n j=>(match Nat.beq h q with|true=>(match r with|true=>(match sB i j with|some t=>some (⟨.int .i64,n⟩::t)|none=>none)|false=>match decEq n 0 with|isTrue _=>sB i j|isFalse _=>none)|false=>none)|_=>none)|.deep e m f u d=>match o with|.deep c g p k b a=>(match Nat.beq c e&&((!m||g)&&(!f||(p||PG b))) with|true=>(match decEq k u with|isTrue _=>(match jF b d a with|some a=>some [⟨d,a⟩]|none=>none)|isFalse _=>none)|false=>none)|_=>none
def nB(g:Oh)(a:List (bp S.α)):TO S×List (bp S.α):=match g with|.arr e m f _=>(match a with|⟨.list h,l⟩::r=>(.arr e m f h l,r)|r=>(.box e m [],r))|.box e m b=>(.box e m (dv b a).1,(dv b a).2)|.lp c i b=>(match i with|true=>(match a with|⟨.int _,n⟩::r=>(.lp c n (dv b r).1,(dv b r).2)|r=>(.box 0 false [],r))|false=>(.lp c 0 (dv b a).1,(dv b a).2))|.deep e m f d _=>match a with|x::r=>(.deep e m f d x.τ x.a,r)|r=>(.box e m [],r)
def Rb{st st':List (Nat×aw)}{vs a:List (TV S)}(ln ln':Nat->Nat)(f:a.length=vs.length)(h:∀(j:Nat) (c:TV S),a[j]?=some c->∃v,vs[j]?=some v/\CV st st' (v.er ln) (c.er ln')):Us st st' (TV.er.go ln vs) (TV.er.go ln' a):=by rw[cW,cW];refine⟨by simp[f],fun j i b=>?_⟩;rw[ao] at b;obtain⟨c,e,rfl⟩:=aA.1 b;obtain⟨v,g,d⟩:=h j c e;exact⟨v.er ln,by rw[ao,g];rfl,d⟩
def Kq{τ:Ty}(c:τ.jb=true):∀(l:List (S.D τ)) (g:G),g∈List.flatMap (aX S τ) l->∃v,g=.val v|l,g,b=>by obtain⟨a,_,b⟩:=qf.1 b;cases τ with|int _=>exact⟨_,dj.1 b⟩|bool=>exact⟨_,dj.1 b⟩|str=>exact⟨_,dj.1 b⟩|list _=>cases c|st _=>cases c|map=>cases c|dC=>cases c|pt _=>cases c
def Ow(M:Dk)(e:TypeId){τ:Ty}(z:PG τ=true)(a:S.D τ)(O O':Nat->Prop)(w:World)(b:Nat)(m:Mm)(h:(M.dp e τ a).φ O w b m):(M.dp e τ a).φ O' w b m:=by cases M with|wN r=>(obtain⟨E,h⟩:=h;refine⟨E,{len:=h.len,root:=h.root,inj:=h.inj,heap:=h.heap,size:=h.size,le:=h.le,max:=h.max,row:=fun i n H f=>?_}⟩;obtain⟨u,x,A,B,F⟩:=h.row i n H f;refine⟨u,x,A,B,?_⟩;cases x with|none=>exact F|some ck=>obtain⟨s,C,R,W,X,Y,V,q6,N,P⟩:=F;refine⟨s,C,R,W,X,Y,V,q6,N,fun j g d=>?_⟩;obtain⟨v,I,y⟩:=P j g d;refine⟨v,I,?_⟩;cases τ with|list t=>(cases t with|list t=>have f:(List.map (fun l=>(List.length l,List.flatMap (aX S t) l)) a)[i]?=some (n,H):=f;rw[ao] at f;obtain⟨l,_,e⟩:=aA.1 f;cases e;obtain⟨u,rfl⟩:=Kq (τ:=t) z l g (ak d);cases y;exact .val _|_=>cases z)|map=>have f:([]:List (Nat×List G))[i]?=some (n,H):=f;simp at f|_=>cases z)|rows r ho=>obtain⟨E,h⟩:=h;(have D:(K4 τ a).2.2=[]:=by cases τ with|list t=>(cases t with|list t=>rfl|_=>cases z)|map=>rfl|_=>cases z);refine⟨E,{len:=h.len,root:=h.root,inj:=h.inj,heap:=h.heap,size:=h.size,le:=h.le,max:=h.max,row:=fun i n H f _=>?_,hole:=h.hole}⟩;rw[D] at f;cases f|sm i=>have h:Jv (xJ i) (qZ i τ a) O w b m:=h;show Jv (xJ i) (qZ i τ a) O' w b m;(have D:qZ i τ a=[]:=by cases τ with|list t=>(cases t with|list t=>rfl|_=>cases z)|map=>rfl|_=>cases z);rw[D] at h|-;obtain⟨ms,cl,A,B,_⟩:=h.heap;exact {vm:=h.vm,len:=h.len,nd:=h.nd,heap:=⟨ms,cl,A,B,fun i e x L=>by simp at L⟩}|map q r J=>have h:Lm q r J (mapOf τ a).n ((mapOf τ a).es.map (l3.me q)) (SN q (mapOf τ a).pd) O w b m:=h;show Lm q r J (mapOf τ a).n ((mapOf τ a).es.map (l3.me q)) (SN q (mapOf τ a).pd) O' w b m;(have K:∀(l:List Int) (j:Nat) (g:G) (v:Value),(pU q l)[j]?=some g->bN O w g v->bN O' w g v:=by intro l j g v d y;unfold pU at d;rw[ao] at d;obtain⟨x,_,rfl⟩:=aA.1 d;cases y;exact .val _);refine {len:=h.len,Pj:=h.Pj,vm:=h.vm,heap:=h.heap,root:=h.root,JE:=fun e L=>?_,inj:=h.inj,OZ:=fun sr x H o=>?_};obtain⟨c,E,A,B,F,Q⟩:=h.JE e L;refine⟨c,E,A,B,F,fun j p o=>?_⟩;obtain⟨u,U,T⟩:=Q j p o;refine⟨u,U,?_⟩;obtain⟨e0,_,rfl⟩:=eL.1 L;have o:(e0.f.map fun p=>(p.1,pU q p.2))[j]?=some p:=o;rw[ao] at o;obtain⟨p0,_,rfl⟩:=aA.1 o;refine T.imp id fun ⟨Z,c',k',r1,s,C,R,W,X,Y,V,q6,N,P⟩=>⟨Z,c',k',r1,s,C,R,W,X,Y,V,q6,N,fun j g d=>?_⟩;obtain⟨v,I,y⟩:=P j g d;exact⟨v,I,K _ _ _ _ d y⟩;obtain⟨Z,⟨c,k,E,A,B,F,Q,U,T⟩,h7⟩:=h.OZ sr x H o;refine⟨Z,⟨c,k,E,A,B,F,Q,U,fun i g d=>?_⟩,h7⟩;obtain⟨v,I,y⟩:=T i g d;refine⟨v,I,?_⟩;cases hd:(mapOf τ a).pd with|none=>rw[hd] at o;cases o|some p=>obtain⟨sr',x',l⟩:=p;rw[hd] at o;cases o;exact K _ _ _ _ d y
def N1{a b:Bool}(h:(!a||b)=true)(c:a=true):b=true:=by subst c;simpa using h
def U6{st st':List (Nat×aw)}{q:Oh}{o:TO S}{xs:List (bp S.α)}(h:QI q o=some xs)(ln:Nat->Nat)(r:List (bp S.α)):(nB q (xs++r)).2=r/\(nB q (xs++r)).1.len=o.len/\xi st st' (o.er ln) ((nB q (xs++r)).1.er ln):=by unfold QI at h;split at h;split at h;split at h;rename_i d;simp only[ag] at d;obtain⟨c,i,x⟩:=d;split at h;rename_i G u;cases h;obtain⟨e,u⟩:=sV u;subst e;cases u;have c:=ab c;subst c;refine⟨rfl,rfl,rfl,N1 i,rfl,rfl,rfl,rfl,.inl ⟨rfl,rfl,fun s=>?_⟩⟩;have g:=N1 x s;rw[eR] at g;exact g.imp id fun t=>.inl ⟨rfl,Kq t _⟩;cases h;cases h;cases h;split at h;split at h;rename_i d;simp only[ag] at d;have c:=ab d.1;have i:=d.2;subst c;obtain⟨l,f,n⟩:=tD ln h r;refine⟨l,rfl,rfl,N1 i,rfl,rfl,rfl,?_,.inr ⟨rfl,?_⟩⟩;show(TV.er.go ln _).length=(TV.er.go ln _).length;rw[cW,cW,aJ,aJ,f];exact(Rb ln ln f fun j k p=>let ⟨v,h1,h2⟩:=n j k p;⟨v,h1,CV.rw h2⟩).2;cases h;cases h;split at h;split at h;rename_i d;have c:=ab d;subst c;split at h;split at h;rename_i A y;cases h;obtain⟨l,f,n⟩:=tD ln y r;refine⟨l,rfl,rfl,id,rfl,rfl,rfl,?_,.inr ⟨rfl,?_⟩⟩;show(TV.er.go ln _).length=(TV.er.go ln _).length;rw[cW,cW,aJ,aJ];exact f;exact(Rb ln ln f fun j k p=>let ⟨v,h1,h2⟩:=n j k p;⟨v,h1,CV.rw h2⟩).2;cases h;split at h;rename_i C _;subst C;obtain⟨l,f,n⟩:=tD ln h r;refine⟨l,rfl,rfl,id,rfl,rfl,rfl,?_,.inr ⟨rfl,?_⟩⟩;show(TV.er.go ln _).length=(TV.er.go ln _).length;rw[cW,cW,aJ,aJ,f];exact(Rb ln ln f fun j k p=>let ⟨v,h1,h2⟩:=n j k p;⟨v,h1,CV.rw h2⟩).2;cases h;cases h;cases h;split at h;rename_i K H I D B a;split at h;rename_i d;simp only[ag] at d;obtain⟨c,i,x⟩:=d;split at h;rename_i E _;subst E;split at h;rename_i J F;cases h;cases e9 F;have c:=ab c;subst c;refine⟨rfl,rfl,rfl,N1 i,rfl,rfl,rfl,rfl,.inl ⟨rfl,rfl,fun s=>?_⟩⟩;have g:=N1 x s;rw[eR] at g;exact g.imp id fun t=>.inr ⟨_,rfl,fun O z w b m=>Ow _ _ t _ O z w b m⟩;cases h;cases h;cases h;cases h
def Aa(st:List (Nat×TO S)):List (Nat×Oh)->Option (List (bp S.α))|[]=>some []|(h,b)::r=>match aB st h with|some o=>(match QI b o with|some c=>(match Aa st r with|some a=>some (c++a)|none=>none)|none=>none)|none=>none
def cr:List (Nat×Oh)->List (bp S.α)->List (Nat×TO S)×List (bp S.α)|[],a=>([],a)|(h,b)::r,a=>((h,(nB b a).1)::(cr r (nB b a).2).1,(cr r (nB b a).2).2)
def E3{st:List (Nat×TO S)}(ln:Nat->Nat)(b a:List (Nat×aw)):∀{l:List (Nat×Oh)}{xs:List (bp S.α)},Aa st l=some xs->∀(r:List (bp S.α)),(cr l (xs++r)).2=r/\(∀h,(∃o',aB (cr l (xs++r)).1 h=some o')\/(aB (cr l (xs++r)).1 h=none/\h∉l.map (·.1)))/\∀h o',aB (cr l (xs++r)).1 h=some o'->∃o,aB st h=some o/\o'.len=o.len/\xi b a (o.er ln) (o'.er ln)|[],xs,h,r=>by cases h;refine⟨rfl,fun h=>.inr (And.intro rfl (fun e=>nomatch e)),fun d z h=>nomatch h⟩|(i,y)::l,xs,h,r=>by simp only[Aa] at h;split at h;rename_i o w;split at h;rename_i x m;split at h;rename_i n p;cases h;rw[aS];obtain⟨q,s,u⟩:=U6 (st:=b) (st':=a) m ln (n++r);obtain⟨k,v,t⟩:=E3 ln b a p r;simp only[cr];rw[q];refine⟨k,fun h=>?_,fun h o' f=>?_⟩;simp only[aB];(cases c:Nat.beq i h with|true=>exact .inl ⟨_,rfl⟩|false=>rcases v h with g|⟨g,j⟩;exact .inl g;refine .inr ⟨g,?_⟩;simp only[bg,bh,not_or];exact⟨fun e=>(by subst e;rw[aW] at c;cases c),j⟩);simp only[aB] at f;(cases c:Nat.beq i h with|true=>rw[c] at f;cases f;have:=ab c;subst this;exact⟨o,w,s,u⟩|false=>rw[c] at f;exact t h o' f);cases h;cases h;cases h
end
end Go.DN
/-
 DN,part P:into a loop or a join,and out of it.
-/
namespace Go.DN
open Go.AM
section
variable {S:eN}
def TV.bad (ks:List Nat):TV S→Bool
 | .aN h _=>!(bD h ks)
 | .agg l=>go ks l
 | .bE l=>go ks l
 | .bf _ l=>go ks l
 | _=>false
where go (ks:List Nat):List (TV S)→Bool
 | []=>false
 | x::r=>x.bad ks||go ks r
mutual
theorem nS {ln ln':Nat→Nat}{ks:List Nat}(h:∀k,k∈ks→ln k=ln' k):∀v:TV S,v.bad ks=false→v.er ln=v.er ln'
 | .aE f τ a,_=>rfl
 | .ptr f τ a,_=>rfl
 | .agg l,e=>congrArg G.agg (rB h l e)
 | .bE l,e=>congrArg G.bE (rB h l e)
 | .bf f l,e=>congrArg (G.bf f) (rB h l e)
 | .loc _ _,_=>rfl
 | .iU _ _ _ _,_=>rfl
 | .aN k τ,e=>congrArg (G.aN k (S.sz τ) 0) (h k (bV.1 (by simpa[TV.bad] using e)))
 | .sub _ _ _ _,_=>rfl
 | .da _,_=>rfl
 | .mp _,_=>rfl
 | .ks _ _ _ _,_=>rfl
 | .kp _ _ _ _,_=>rfl
 | .iQ _ _ _ _ _,_=>rfl
 | .gG _ _ _,_=>rfl
 | .ee _ _,_=>rfl
 | .val _,_=>rfl
 | .any,_=>rfl
theorem rB {ln ln':Nat→Nat}{ks:List Nat}(h:∀k,k∈ks→ln k=ln' k):∀l:List (TV S),TV.bad.go ks l=false→TV.er.go ln l=TV.er.go ln' l
 | [],_=>rfl
 | x::r,e=>by
  simp only[TV.bad.go,bj] at e;simp only[TV.er.go];rw[nS h x e.1,rB h r e.2]
end
def TO.bad(ks:List Nat):TO S->Bool|.box _ _ a=>TV.bad.go ks a|.arr ..=>false|.lp _ _ a=>TV.bad.go ks a|.deep ..=>false
def TO.nS{ln ln':Nat->Nat}{ks:List Nat}(h:∀k,k∈ks->ln k=ln' k)(o:TO S)(e:o.bad ks=false):o.er ln=o.er ln':=by cases o with|box b m a=>simp only[TO.er];rw[rB h a e]|arr b m f c l=>rfl|lp p n a=>simp only[TO.er];rw[rB h a e]|deep=>rfl
def ct{α:Type}(D:List Nat):List (Nat×α)->List (Nat×α)|[]=>[]|x::r=>match bD x.1 D with|true=>ct D r|false=>x::ct D r
theorem k8 {D:List Nat}:∀{fr:List (Nat×TV S)}{d:Nat},bw (ct D fr) d=match bD d D with | true=>none | false=>bw fr d
 | [],d=>by simp only[ct,bw];cases bD d D <;> rfl
 | (t,v)::r,d=>by
  simp only[ct];cases hb:Nat.beq t d with
  | true=>
   have:=ab hb;subst this;cases hm:bD t D with
   | true=>simp only;rw[k8,hm]
   | false=>simp only[bw,hb,cond_true]
  | false=>
   cases hm:bD t D with
   | true=>simp only;rw[k8];simp only[bw,hb,cond_false]
   | false=>simp only[bw,hb,cond_false];exact k8
theorem kh {D:List Nat}:∀{st:List (Nat×TO S)}{d:Nat},aB (ct D st) d=match bD d D with | true=>none | false=>aB st d
 | [],d=>by simp only[ct,aB];cases bD d D <;> rfl
 | (t,v)::r,d=>by
  simp only[ct];cases hb:Nat.beq t d with
  | true=>
   have:=ab hb;subst this;cases hm:bD t D with
   | true=>simp only;rw[kh,hm]
   | false=>simp only[aB,hb,cond_true]
  | false=>
   cases hm:bD t D with
   | true=>simp only;rw[kh];simp only[aB,hb,cond_false]
   | false=>simp only[aB,hb,cond_false];exact kh
mutual
def Sh.owns:Sh→List Nat
 | .aE _ _=>[]
 | .ptr _ _=>[]
 | .own h _=>[h]
 | .loc _ _=>[]
 | .bf _ l=>uA l
 | .agg l=>uA l
 | .da _=>[]
 | .mp _=>[]
 | .any=>[]
 | .nT=>[]
 | .sub _ _=>[]
 | .iQ _ _=>[]
 | .gG _ _=>[]
 | .ee _=>[]
 | .ks _ _=>[]
def uA:List Sh→List Nat
 | []=>[]
 | x::r=>x.owns++uA r
end
def pI:List (Nat×Sh)->List Nat|[]=>[]|(_,x)::r=>x.owns++pI r
def Oh.owns:Oh->List Nat|.arr ..=>[]|.box _ _ a=>uA a|.lp _ _ a=>uA a|.deep ..=>[]
def rO:List (Nat×Oh)->List Nat|[]=>[]|(_,x)::r=>x.owns++rO r
mutual
theorem AO (ks:List Nat):∀(sh:Sh) (ls:List (bp S.α)),(∀k,k∈sh.owns→k∈ks)→(hJ sh ls).1.bad ks=false
 | .aE f τ,ls,_=>by cases ls <;> rfl
 | .ptr f τ,ls,_=>by cases ls <;> rfl
 | .own k τ,ls,h=>by
  show(!(bD k ks))=false;rw[bV.2 (h k (by simp[Sh.owns]))];rfl
 | .loc _ _,ls,_=>rfl
 | .bf f l,ls,h=>qq ks l ls h
 | .agg l,ls,h=>qq ks l ls h
 | .da _,ls,_=>rfl
 | .mp _,ls,_=>rfl
 | .any,ls,_=>rfl
 | .gG _ _,ls,_=>by
  simp only[hJ];split <;> rfl
 | .ee _,ls,_=>by
  simp only[hJ];split <;> rfl
 | .nT,ls,_=>by
  simp only[hJ];split <;> rfl
 | .sub _ _,ls,_=>by
  simp only[hJ];split <;> rfl
 | .ks _ _,ls,_=>by
  simp only[hJ];split <;> rfl
 | .iQ _ _,ls,_=>by
  simp only[hJ];split <;> rfl
theorem qq (ks:List Nat):∀(l:List Sh) (ls:List (bp S.α)),(∀k,k∈uA l→k∈ks)→TV.bad.go ks (dv l ls).1=false
 | [],_,_=>rfl
 | sh::r,ls,hk=>by
  simp only[dv,TV.bad.go,AO ks sh ls fun k hk'=>hk k (by simp[uA,hk']),qq ks r _ fun k hk'=>hk k (by simp[uA,hk']),Bool.or_self]
end
def Hl(ks:List Nat):∀(l:List (Nat×Sh)) (b:List (bp S.α)),(∀k,k∈pI l->k∈ks)->∀d v,bw (cH l b).1 d=some v->v.bad ks=false|[],b,_,d,v,h=>by cases h|(f,g)::r,b,e,d,v,h=>by simp only[cH,bw] at h;cases c:Nat.beq f d with|true=>rw[c] at h;cases h;exact AO ks g b fun k a=>e k (by simp[pI,a])|false=>rw[c] at h;exact Hl ks r _ (fun k a=>e k (by simp[pI,a])) d v h
def Rj(ks:List Nat)(b:Oh)(c:List (bp S.α))(h:∀k,k∈b.owns->k∈ks):(nB b c).1.bad ks=false:=by cases b with|arr e m f d=>unfold nB;dsimp only;split <;> rfl|box e m a=>exact qq ks a c h|lp g j a=>unfold nB;dsimp only;split;split;exact qq ks a _ h;rfl;exact qq ks a c h|deep e m f i d=>unfold nB;dsimp only;split <;> rfl
def vN(ks:List Nat):∀(l:List (Nat×Oh)) (b:List (bp S.α)),(∀k,k∈rO l->k∈ks)->∀h o,aB (cr l b).1 h=some o->o.bad ks=false|[],b,_,d,v,h=>by cases h|(f,g)::r,b,e,d,v,h=>by simp only[cr,aB] at h;cases c:Nat.beq f d with|true=>rw[c] at h;cases h;exact Rj ks g b fun k a=>e k (by simp[rO,a])|false=>rw[c] at h;exact vN ks r _ (fun k a=>e k (by simp[rO,a])) d v h
def told{t u:ae S}{ay:List (Nat×Sh)}{i:List (Nat×Oh)}{xs ys:List (bp S.α)}{F':List (Nat×TV S)}{O':List (Nat×TO S)}{ks:List Nat}(s:Gt t.cm ay=some xs)(w:Aa t.bo i=some ys)(hf:u.cm=(cH ay (xs++ys)).1++F')(ho:u.bo=(cr i ys).1++O')(x:∀d v,bw F' d=some v->bw t.cm d=some v/\v.bad ks=false)(r:∀h o,aB O' h=some o->aB t.bo h=some o/\o.bad ks=false)(g:∀k,k∈ks->t.ln k=u.ln k)(h1:∀k,k∈pI ay->k∈ks)(h2:∀k,k∈rO i->k∈ks)(l:u.df=t.df)(n:TV.bad.go ks t.df=false):Gh t.er u.er:=by obtain⟨A,y⟩:=Ac t.ln s ys;obtain⟨B,_,p⟩:=E3 t.ln t.er.st u.er.st w [];rw[bR] at p;refine Gh.typed (fun d j a=>?_) (fun h m b=>?_) ?_;rw[hf,rp] at a;split at a;rename_i z e;cases a;obtain⟨v,c,f⟩:=y d _ e;refine⟨v,c,CV.rw ?_⟩;rw[<-nS g _ (Hl ks ay _ h1 d _ e)];exact f;obtain⟨c,f⟩:=x d j a;refine⟨j,c,?_⟩;rw[nS g j f];exact CV.refl _ _ _;rw[ho,eH] at b;split at b;rename_i z e;cases b;obtain⟨o,c,f,q⟩:=p h _ e;refine⟨o,c,?_⟩;rw[<-TO.nS g _ (vN ks i _ h2 h _ e)];exact q;obtain⟨c,f⟩:=r h m b;refine⟨m,c,?_⟩;rw[TO.nS g m f];exact xi.refl _ _ _;rw[l];exact rB g _ n
def ua(ks:List Nat):List (Nat×TV S)->List Nat|[]=>[]|(t,v)::r=>match v.bad ks with|true=>t::ua ks r|false=>ua ks r
def nr(ks:List Nat):List (Nat×TO S)->List Nat|[]=>[]|(t,o)::r=>match o.bad ks with|true=>t::nr ks r|false=>nr ks r
def stay(H:List Nat):List (Nat×TO S)->List Nat|[]=>[]|(t,o)::r=>match o with|.arr ..=>(match bD t H with|true=>stay H r|false=>t::stay H r)|.deep ..=>(match bD t H with|true=>stay H r|false=>t::stay H r)|_=>stay H r
def Bk{ks:List Nat}:∀{fr:List (Nat×TV S)}{d:Nat}{v:TV S},bw fr d=some v->bD d (ua ks fr)=false->v.bad ks=false|[],_,_,h,_=>by cases h|(t,e)::r,d,v,h,a=>by simp only[bw] at h;simp only[ua] at a;cases c:e.bad ks with|true=>(rw[c] at a;simp only[bD] at a;cases b:Nat.beq t d with|true=>rw[b] at a;cases a|false=>rw[b] at a h;exact Bk h a)|false=>rw[c] at a;cases b:Nat.beq t d with|true=>rw[b] at h;cases h;exact c|false=>rw[b] at h;exact Bk h a
def Bj{ks:List Nat}:∀{st:List (Nat×TO S)}{d:Nat}{o:TO S},aB st d=some o->bD d (nr ks st)=false->o.bad ks=false|[],_,_,h,_=>by cases h|(t,e)::r,d,v,h,a=>by simp only[aB] at h;simp only[nr] at a;cases c:e.bad ks with|true=>(rw[c] at a;simp only[bD] at a;cases b:Nat.beq t d with|true=>rw[b] at a;cases a|false=>rw[b] at a h;exact Bj h a)|false=>rw[c] at a;cases b:Nat.beq t d with|true=>rw[b] at h;cases h;exact c|false=>rw[b] at h;exact Bj h a
end
end Go.DN
/-
 DN,part Q:states taken apart and put together again.
-/
namespace Go.DN
open Go.AM
section
variable {S:eN}
def Dq{ks a:List Nat}(h:∀k,k∈ks->k∈a):∀v:TV S,v.bad ks=false->v.bad a=false:=by intro v;exact TV.rec (motive_1:=fun v=>v.bad ks=false->v.bad a=false) (motive_2:=fun l=>TV.bad.go ks l=false->TV.bad.go a l=false) (fun _ _ _ _=>rfl) (fun _ _ _ _=>rfl) (fun l b e=>b e) (fun l b e=>b e) (fun _ _ _=>rfl) (fun _ _ _ _ _=>rfl) (fun k f e=>by (have:bD k ks=true:=by simpa[TV.bad] using e);show(!(bD k a))=false;rw[bV.2 (h k (bV.1 this))];rfl) (fun _ _ _ _ _=>rfl) (fun _ l b e=>b e) (fun _ _=>rfl) (fun _ _=>rfl) (fun _ _ _ _ _=>rfl) (fun _ _ _ _ _=>rfl) (fun _ _ _ _ _ _=>rfl) (fun _ _ _ _=>rfl) (fun _ _ _=>rfl) (fun _ _=>rfl) (fun _=>rfl) (fun _=>rfl) (fun x r d c e=>by simp only[TV.bad.go,bj] at e|-;exact⟨d e.1,c e.2⟩) v
def uY{ks a:List Nat}(h:∀k,k∈ks->k∈a):∀l:List (TV S),TV.bad.go ks l=false->TV.bad.go a l=false|[],_=>rfl|x::r,e=>by simp only[TV.bad.go,bj] at e|-;exact⟨Dq h x e.1,uY h r e.2⟩
def KE{ks a:List Nat}(h:∀k,k∈ks->k∈a)(o:TO S)(e:o.bad ks=false):o.bad a=false:=by cases o with|box c m b=>exact uY h b e|arr=>rfl|lp p n b=>exact uY h b e|deep=>rfl
def aF{α:Type}:List (Nat×α)->List Nat|[]=>[]|x::r=>x.1::aF r
def apart(a b:List Nat):Bool:=match a with|[]=>true|x::r=>match bD x b with|true=>false|false=>apart r b
def apart_spec{b:List Nat}:∀{a:List Nat},apart a b=true->∀x,x∈a->x∉b|[],_,x,h=>by cases h|y::r,h,x,d=>by simp only[apart] at h;cases c:bD y b with|true=>rw[c] at h;cases h|false=>rw[c] at h;rcases bh.1 d with e|d;subst e;intro f;rw[bV.2 f] at c;cases c;exact apart_spec h x d
def within(a b:List Nat):Bool:=match a with|[]=>true|x::r=>match bD x b with|true=>within r b|false=>false
def oV{b:List Nat}:∀{a:List Nat},within a b=true->∀x,x∈a->x∈b|[],_,x,h=>by cases h|y::r,h,x,d=>by simp only[within] at h;cases c:bD y b with|false=>rw[c] at h;cases h|true=>rw[c] at h;rcases bh.1 d with e|d;subst e;exact bV.1 c;exact oV h x d
def B8:∀{fr:List (Nat×TV S)}{d:Nat}{v:TV S},bw fr d=some v->d∈aF fr|[],_,_,h=>by cases h|(t,b)::r,d,v,h=>by simp only[bw] at h;cases a:Nat.beq t d with|true=>have:=ab a;subst this;exact au|false=>rw[a] at h;exact ar _ (B8 h)
def uJ:∀{st:List (Nat×TO S)}{d:Nat}{o:TO S},aB st d=some o->d∈aF st|[],_,_,h=>by cases h|(t,b)::r,d,v,h=>by simp only[aB] at h;cases a:Nat.beq t d with|true=>have:=ab a;subst this;exact au|false=>rw[a] at h;exact ar _ (uJ h)
def LD{fr:List (Nat×TV S)}{d:Nat}(h:d∉aF fr):bw fr d=none:=by cases e:bw fr d with|none=>rfl|some v=>exact absurd (B8 e) h
def nM{st:List (Nat×TO S)}{d:Nat}(h:d∉aF st):aB st d=none:=by cases e:aB st d with|none=>rfl|some v=>exact absurd (uJ e) h
def pN:∀{st:List (Nat×TO S)}{k:Nat},k∈aF st->∃o,aB st k=some o|[],_,h=>by cases h|(y,g)::r,k,h=>by simp only[aB];cases a:Nat.beq y k with|true=>exact⟨g,rfl⟩|false=>rcases bh.1 h with c|b;subst c;rw[aW] at a;cases a;exact pN b
def li:∀(l:List (Nat×Oh)) (a:List (bp S.α)),aF (cr l a).1=aF l|[],_=>rfl|(d,b)::r,a=>by simp only[cr,aF,li r]
structure Cut where
 D:List Nat
 DO:List Nat
 ks:List Nat
def eZ(s:ae S)(A H B:List Nat):Cut:={D:=A++(B++ua (stay H s.bo) s.cm),DO:=H++nr (stay H s.bo) s.bo,ks:=stay H s.bo}
def RG(s:ae S)(c:Cut):Bool:=apart c.ks c.DO&&(!(TV.bad.go c.ks s.df)&&(apart (aF s.lo) c.D&&apart (aF s.bS) c.DO))
def LO{H:List Nat}:∀{st:List (Nat×TO S)}{k:Nat},k∈stay H st->k∉H/\k∈aF st|[],_,h=>by cases h|(t,o)::r,k,h=>by have a:k∈stay H r->k∉H/\k∈aF ((t,o)::r):=fun h=>let ⟨h1,h2⟩:=LO h;⟨h1,ar _ h2⟩;cases o with|arr e m f d l=>(simp only[stay] at h;cases b:bD t H with|true=>rw[b] at h;exact a h|false=>rw[b] at h;rcases bh.1 h with e|h;subst e;exact⟨fun c=>(by rw[bV.2 c] at b;cases b),au⟩;exact a h)|deep e m f g d l=>(simp only[stay] at h;cases b:bD t H with|true=>rw[b] at h;exact a h|false=>rw[b] at h;rcases bh.1 h with e|h;subst e;exact⟨fun c=>(by rw[bV.2 c] at b;cases b),au⟩;exact a h)|_=>exact a h
def rc{α:Type}(D:List Nat):List (Nat×α)->List (Nat×α)|[]=>[]|x::r=>match bD x.1 D with|true=>x::rc D r|false=>rc D r
theorem vz {D:List Nat}:∀{fr:List (Nat×TV S)}{d:Nat},bw (rc D fr) d=match bD d D with | true=>bw fr d | false=>none
 | [],d=>by simp only[rc,bw];cases bD d D <;> rfl
 | (t,v)::r,d=>by
  simp only[rc];cases hb:Nat.beq t d with
  | true=>
   have:=ab hb;subst this;cases hm:bD t D with
   | true=>simp only[bw,hb,cond_true]
   | false=>simp only;rw[vz,hm]
  | false=>
   cases hm:bD t D with
   | true=>simp only[bw,hb,cond_false];exact vz
   | false=>simp only;rw[vz];simp only[bw,hb,cond_false]
theorem vH {D:List Nat}:∀{fr:List (Nat×TO S)}{d:Nat},aB (rc D fr) d=match bD d D with | true=>aB fr d | false=>none
 | [],d=>by simp only[rc,aB];cases bD d D <;> rfl
 | (t,v)::r,d=>by
  simp only[rc];cases hb:Nat.beq t d with
  | true=>
   have:=ab hb;subst this;cases hm:bD t D with
   | true=>simp only[aB,hb,cond_true]
   | false=>simp only;rw[vH,hm]
  | false=>
   cases hm:bD t D with
   | true=>simp only[aB,hb,cond_false];exact vH
   | false=>simp only;rw[vH];simp only[aB,hb,cond_false]
def A0(s:ae S)(c:Cut):ae S:={fr:=rc c.D s.cm,lo:=ct c.D s.cm,st:=rc c.DO s.bo,bS:=ct c.DO s.bo,df:=s.df,nx:=s.nx,last:=s.last}
def Ic{s t:ae S}(h1:∀d,bw t.cm d=bw s.cm d)(h2:∀d,aB t.bo d=aB s.bo d)(e:t.df=s.df):Gh s.er t.er:=by
 have a:t.ln=s.ln:=by funext k;show cw t.bo k=cw s.bo k;unfold cw;rw[h2]
 refine Gh.typed (fun d f c=>⟨f,by rw[<-h1];exact c,?_⟩) (fun h g b=>⟨g,by rw[<-h2];exact b,?_⟩) (by rw[e,a]);rw[a];exact CV.refl _ _ _;rw[a];exact xi.refl _ _ _
def JO{s t:ae S}(h1:∀d,bw t.cm d=bw s.cm d)(h2:∀d,aB t.bo d=aB s.bo d)(g:t.last=s.last)(e:aQ s):aQ t:=by intro d h x b;rw[g] at b;obtain⟨i,j,m,f,k,l,a,n,o,c⟩:=e d h x b;exact⟨i,j,m,f,k,l,a,by rw[h1];exact n,by rw[h2];exact o,c⟩
def AZ(s:ae S)(c:Cut):∀d,bw (A0 s c).cm d=bw s.cm d:=by intro d;show bw (rc c.D s.cm++ct c.D s.cm) d=_;rw[rp,vz,k8];cases bD d c.D with|true=>dsimp only;cases bw s.cm d <;> rfl|false=>rfl
def NH(s:ae S)(c:Cut):∀d,aB (A0 s c).bo d=aB s.bo d:=by intro d;show aB (rc c.DO s.bo++ct c.DO s.bo) d=_;rw[eH,vH,kh];cases bD d c.DO with|true=>dsimp only;cases aB s.bo d <;> rfl|false=>rfl
def NI(s:ae S)(c:Cut)(a:aQ s):Gh s.er (A0 s c).er/\aQ (A0 s c):=⟨Ic (AZ s c) (NH s c) rfl,JO (AZ s c) (NH s c) rfl a⟩
def flat(s:ae S)(c:Cut)(t:ae S):ae S:={fr:=t.fr++ct c.D s.fr,lo:=s.lo,st:=t.st++ct c.DO s.st,bS:=s.bS,df:=s.df,nx:=t.nx,last:=t.last}
def Fw{α:Type}{D:List Nat}:∀{l:List (Nat×α)},apart (aF l) D=true->ct D l=l|[],_=>rfl|x::r,h=>by simp only[aF,apart] at h;simp only[ct];cases a:bD x.1 D with|true=>rw[a] at h;cases h|false=>rw[a] at h;dsimp only;rw[Fw h]
def CU{α:Type}{D:List Nat}:∀(l a:List (Nat×α)),ct D (l++a)=ct D l++ct D a|[],_=>rfl|x::r,a=>by simp only[b7,ct];cases bD x.1 D <;> simp[CU r a]
structure vX (s:ae S) (c:Cut):Prop where
 ks:∀k,k∈c.ks→k∉c.DO
 df:TV.bad.go c.ks s.df=false
 lo:ct c.D s.cm=ct c.D s.fr++s.lo
 bS:ct c.DO s.bo=ct c.DO s.st++s.bS
def RF{s:ae S}{c:Cut}(h:RG s c=true):vX s c:=by unfold RG at h;simp only[ag,aT] at h;obtain⟨b,d,e,a⟩:=h;exact⟨apart_spec b,d,by unfold ae.cm;rw[CU,Fw e],by unfold ae.bo;rw[CU,Fw a]⟩
def PE{s t:ae S}{c:Cut}(e:vX s c)(h1:t.lo=ct c.D s.cm)(h2:t.bS=ct c.DO s.bo)(f:t.df=s.df)(g:aQ t):Gh t.er (flat s c t).er/\aQ (flat s c t)/\bG s (flat s c t):=by
 have b:(flat s c t).cm=t.cm:=by show(t.fr++ct c.D s.fr)++s.lo=t.fr++t.lo;rw[h1,e.lo,aS]
 have a:(flat s c t).bo=t.bo:=by show(t.st++ct c.DO s.st)++s.bS=t.st++t.bS;rw[h2,e.bS,aS]
 exact⟨Ic (fun d=>by rw[b]) (fun d=>by rw[a]) f.symm,JO (s:=t) (t:=flat s c t) (fun d=>by rw[b]) (fun d=>by rw[a]) rfl g,⟨rfl,rfl,rfl⟩⟩
def Ab(s:ae S)(j:JH):Option (List (bp S.α)):=match Gt s.cm j.ay with|some b=>(match Aa s.bo j.aR with|some a=>some (b++a)|none=>none)|none=>none
def u5:List Nat->Nat->Nat|[],n=>n|x::r,n=>u5 r (bif Nat.ble n x&&Nat.blt x 500 then x+1 else n)
def mO(s:ae S)(c:Cut)(j:JH)(a:List (bp S.α)):ae S:={fr:=(cH j.ay a).1,lo:=ct c.D s.cm,st:=(cr j.aR (cH j.ay a).2).1,bS:=ct c.DO s.bo,df:=s.df,nx:=u5 (aF j.aR) s.nx,last:=[]}
def tE(s:ae S)(c:Cut)(j:JH)(a:List (bp S.α)):ae S:={fr:=(cH j.ay a).1++ct c.D s.fr,lo:=s.lo,st:=(cr j.aR (cH j.ay a).2).1++ct c.DO s.st,bS:=s.bS,df:=s.df,nx:=u5 (aF j.aR) s.nx,last:=[]}
def Em(c:Cut)(j:JH):Bool:=within (pI j.ay++rO j.aR) (c.ks++aF j.aR)&&apart c.ks (aF j.aR)
def N6(t:ae S):Bool:=apart (aF t.fr) (aF t.lo)&&apart (aF t.st) (aF t.bS)
def XH{s:ae S}{c:Cut}(b:vX s c)(j:JH)(a:List (bp S.α)):(tE s c j a).cm=(mO s c j a).cm:=by show((cH j.ay a).1++ct c.D s.fr)++s.lo=(cH j.ay a).1++ct c.D s.cm;rw[b.lo,aS]
def XG{s:ae S}{c:Cut}(b:vX s c)(j:JH)(a:List (bp S.α)):(tE s c j a).bo=(mO s c j a).bo:=by show((cr j.aR (cH j.ay a).2).1++ct c.DO s.st)++s.bS=(cr j.aR (cH j.ay a).2).1++ct c.DO s.bo;rw[b.bS,aS]
def Cp{st:List (Nat×TO S)}{l:List (Nat×Oh)}{ys:List (bp S.α)}(h:Aa st l=some ys)(k:Nat)(b:k∈aF l):∃o o',aB (cr l ys).1 k=some o'/\aB st k=some o/\o'.len=o.len:=by obtain⟨_,_,q⟩:=E3 (fun _=>0) [] [] h [];rw[bR] at q;obtain⟨o',e⟩:=pN (st:=(cr l ys).1) (k:=k) (by rw[li];exact b);obtain⟨o,c,a,_⟩:=q k o' e;exact⟨o,o',e,c,a⟩
def Pz{s:ae S}{c:Cut}{A H B:List Nat}{j:JH}{x:List (bp S.α)}(m:c=eZ s A H B)(y:vX s c)(u:Em c j=true)(i:Ab s j=some x):Gh s.er (mO s c j x).er:=by
 unfold Ab at i;split at i;rename_i f z;split at i;rename_i e C;cases i;obtain⟨w,_⟩:=Ac s.ln z e;unfold Em at u;simp only[ag] at u;obtain⟨n,r⟩:=u;have n:=oV n;have r:=apart_spec r;have t:∀k,k∈c.ks++aF j.aR->s.ln k=(mO s c j (f++e)).ln k:=by intro k a;show cw s.bo k=cw (mO s c j (f++e)).bo k;(have q:(mO s c j (f++e)).bo=(cr j.aR e).1++ct c.DO s.bo:=by show(cr j.aR (cH j.ay (f++e)).2).1++ct c.DO s.bo=_;rw[w]);rw[q];unfold cw;rw[eH];rcases dy.1 a with a|a;have:aB (cr j.aR e).1 k=none:=nM (by rw[li];exact r k a);rw[this];dsimp only;rw[kh];(have:bD k c.DO=false:=by cases b:bD k c.DO with|false=>rfl|true=>exact absurd (bV.1 b) (y.ks k a));rw[this];obtain⟨o,G,F,E,D⟩:=Cp C k a;rw[F,E];exact D.symm
 refine told (u:=mO s c j (f++e)) (F':=ct c.D s.cm) (O':=ct c.DO s.bo) z C rfl ?_ (fun d v g=>?_) (fun h o l=>?_) t (fun k a=>n k (ca _ a)) (fun k a=>n k (cA _ a)) rfl (uY (fun k a=>ca _ a) _ y.df);show(cr j.aR (cH j.ay (f++e)).2).1++ct c.DO s.bo=_;rw[w];rw[k8] at g;cases b:bD d c.D with|true=>rw[b] at g;cases g|false=>rw[b] at g;refine⟨g,Dq (fun k a=>ca _ a) v (Bk g ?_)⟩;subst m;cases p:bD d (ua (eZ s A H B).ks s.cm) with|false=>rfl|true=>rw[bV.2 (show d∈(eZ s A H B).D from cA _ (cA _ (bV.1 p)))] at b;cases b
 rw[kh] at l;cases b:bD h c.DO with|true=>rw[b] at l;cases l|false=>rw[b] at l;refine⟨l,KE (fun k a=>ca _ a) o (Bj l ?_)⟩;subst m;cases p:bD h (nr (eZ s A H B).ks s.bo) with|false=>rfl|true=>rw[bV.2 (show h∈(eZ s A H B).DO from cA _ (bV.1 p))] at b;cases b
 cases i;cases i
def Tx{s t:ae S}{c:Cut}{A H B:List Nat}{j:JH}{F:List (bp S.α)}(m:c=eZ s A H B)(M:vX s c)(z:Em c j=true)(h1:t.lo=ct c.D s.cm)(h2:t.bS=ct c.DO s.bo)(J:t.df=s.df)(u:N6 t=true)(n:Ab t j=some F):Gh t.er (mO s c j F).er:=by
 unfold Ab at n;split at n;rename_i p I;split at n;rename_i i G;cases n;obtain⟨L,_⟩:=Ac t.ln I i;unfold Em at z;simp only[ag] at z;obtain⟨r,w⟩:=z;have r:=oV r;have w:=apart_spec w;unfold N6 at u;simp only[ag] at u;have Q:=apart_spec u.1;have O:=apart_spec u.2;have P:∀{d v},bw t.lo d=some v->bw t.cm d=some v:=by intro d v b;show bw (t.fr++t.lo) d=_;rw[rp,LD fun x=>Q d x (B8 b)];exact b
 have K:∀{d o},aB t.bS d=some o->aB t.bo d=some o:=by intro d v b;show aB (t.st++t.bS) d=_;rw[eH,nM fun x=>O d x (uJ b)];exact b
 have l:∀{d v},bw (ct c.D s.cm) d=some v->v.bad c.ks=false:=by intro d v b;rw[k8] at b;cases f:bD d c.D with|true=>rw[f] at b;cases b|false=>rw[f] at b;refine Bk b ?_;subst m;cases C:bD d (ua (eZ s A H B).ks s.cm) with|false=>rfl|true=>rw[bV.2 (show d∈(eZ s A H B).D from cA _ (cA _ (bV.1 C)))] at f;cases f
 have g:∀{d o},aB (ct c.DO s.bo) d=some o->o.bad c.ks=false:=by intro h o e;rw[kh] at e;cases f:bD h c.DO with|true=>rw[f] at e;cases e|false=>rw[f] at e;refine Bj e ?_;subst m;cases C:bD h (nr (eZ s A H B).ks s.bo) with|false=>rfl|true=>rw[bV.2 (show h∈(eZ s A H B).DO from cA _ (bV.1 C))] at f;cases f
 have q:∀k,k∈c.ks->∃o,aB (ct c.DO s.bo) k=some o:=by intro k a;rw[kh];(have:bD k c.DO=false:=by cases f:bD k c.DO with|false=>rfl|true=>exact absurd (bV.1 f) (M.ks k a));rw[this];(have y:k∈aF s.bo:=by subst m;exact(LO a).2);exact pN y
 have D:∀k,k∈c.ks++aF j.aR->t.ln k=(mO s c j (p++i)).ln k:=by intro k a;show cw t.bo k=cw (mO s c j (p++i)).bo k;(have E:(mO s c j (p++i)).bo=(cr j.aR i).1++ct c.DO s.bo:=by show(cr j.aR (cH j.ay (p++i)).2).1++ct c.DO s.bo=_;rw[L]);rw[E];unfold cw;rw[eH];rcases dy.1 a with a|a;have:aB (cr j.aR i).1 k=none:=nM (by rw[li];exact w k a);rw[this];dsimp only;obtain⟨o,e⟩:=q k a;rw[e];rw[K (by rw[h2];exact e)];obtain⟨o,U,R,T,N⟩:=Cp G k a;rw[R,T];exact N.symm
 refine told (u:=mO s c j (p++i)) (F':=ct c.D s.cm) (O':=ct c.DO s.bo) I G rfl ?_ (fun d v b=>⟨P (by rw[h1];exact b),Dq (fun k a=>ca _ a) v (l b)⟩) (fun h o e=>⟨K (by rw[h2];exact e),KE (fun k a=>ca _ a) o (g e)⟩) D (fun k a=>r k (ca _ a)) (fun k a=>r k (cA _ a)) J.symm (by rw[J];exact uY (fun k a=>ca _ a) _ M.df);show(cr j.aR (cH j.ay (p++i)).2).1++ct c.DO s.bo=_;rw[L];cases n;cases n
end
end Go.DN
/-
 DN,part R:code.
-/
namespace Go.DN
open Go.AM
section
variable {S:eN}
def TV.aam(τ:Ty)(v:TV S):List Nat:=match τ with|.pt _=>(match v with|.loc h 0=>[h]|_=>[])|_=>v.QK
mutual
def QN:Sh→TV S→List Nat
 | .aE _ τ,v=>v.aam τ
 | .bf _ l,v=>match v with
  | .bf _ vs=>K9 l vs
  | _=>[]
 | .agg l,v=>match v with
  | .agg vs=>K9 l vs
  | _=>[]
 | _,_=>[]
def K9:List Sh→List (TV S)→List Nat
 | sh::r,v::vs=>QN sh v++K9 r vs
 | _,_=>[]
end
def QO(fr:List (Nat×TV S)):List (Nat×Sh)->List Nat|[]=>[]|(d,a)::r=>match bw fr d with|some v=>QN a v++QO fr r|none=>QO fr r
def GH(st:List (Nat×TO S)):List (Nat×Oh)->List Nat|[]=>[]|(h,.box _ _ b)::r=>(match aB st h with|some (.box _ _ a)=>K9 b a++GH st r|_=>GH st r)|_::r=>GH st r
def Hn(h:Nat):List (Nat×Oh)->Option TypeId|[]=>none|(k,.arr e _ _ _)::r=>bif Nat.beq k h then some e else Hn h r|(k,.deep e _ _ _ _)::r=>bif Nat.beq k h then some e else Hn h r|_::r=>Hn h r
def V1(h:Nat):List (Nat×Oh)->Option TypeId|[]=>none|(k,.deep _ _ _ (.wN a) _)::r=>bif Nat.beq k h then some a else V1 h r|_::r=>V1 h r
def xR(s:ae S)(h:Nat):ae S:=match s.free h with|true=>s|false=>match DR s h with|some a=>a|none=>s
def VP{s:ae S}{h:Nat}(a:aQ s):Gh s.er (xR s h).er/\aQ (xR s h)/\bG s (xR s h):=by unfold xR;split;exact⟨Gh.refl _,a,bG.refl s⟩;split;rename_i c b;exact He a b;exact⟨Gh.refl _,a,bG.refl s⟩
def LK(s:ae S)(d h:Nat):ae S:=match bw s.cm d with|some (.aN a c)=>(match Nat.beq a h with|true=>(match aB s.bo a with|some (.arr _ _ _ b l)=>s.put d (.sub a c 0 (List.length l))|_=>s)|false=>s)|_=>s
def Xp{s:ae S}(d h:Nat)(e:aQ s):Gh s.er (LK s d h).er/\aQ (LK s d h)/\bG s (LK s d h):=by
 unfold LK;split;rename_i b c n;split;split;rename_i g l i;refine⟨?_,e.put _ _,⟨rfl,rfl,rfl⟩⟩;rw[iT];have j:get s.er.fr d=some (.aN b (S.sz c) 0 (List.length l)):=by rw[show get s.er.fr d=_ from gd n];show some (G.aN _ _ 0 (s.ln b))=_;rw[pQ i]
 have k:(TV.sub b c 0 (List.length l):TV S).er s.ln=.aN b (S.sz c) 0 (List.length l):=by show G.aN _ _ (0*_) _=_;rw[gR]
 rw[k];refine Gh.gen (s:=s.er) (t:=s.er.put d (.aN b (S.sz c) 0 (List.length l))) (fun x m a=>?_) (fun x o p=>⟨o,p,xi.refl _ _ _⟩) rfl;simp only[St.put,jc] at a;cases f:Nat.beq d x with|true=>rw[f] at a;cases a;have:=ab f;subst this;exact⟨_,j,CV.refl _ _ _⟩|false=>rw[f] at a;exact⟨m,a,CV.refl _ _ _⟩
 exact⟨Gh.refl _,e,bG.refl s⟩;exact⟨Gh.refl _,e,bG.refl s⟩;exact⟨Gh.refl _,e,bG.refl s⟩
def qd(a:List (Nat×Oh)):List (Nat×Sh)->ae S->Option (ae S)|[],s=>some s|(d,.own h c)::r,s=>(match bw s.cm d with|some (.val (.slice none 0 0))=>(match Hn h a with|some e=>(match bw (xR s h).cm d with|some (.val (.slice none 0 0))=>(match (xR s h).free h with|true=>(match V1 h a with|none=>qd a r ((xR s h).pz h d e c)|some b=>K1 ((xR s h).pz h d e c) h b fun s=>qd a r s)|false=>none)|_=>none)|none=>none)|_=>qd a r s)|(d,.sub h _)::r,s=>qd a r (LK s d h)|_::r,s=>qd a r s
def eQ{p:List (Nat×Oh)}:∀{l:List (Nat×Sh)}{s t:ae S},aQ s->qd p l s=some t->Gh s.er t.er/\aQ t/\bG s t|[],s,t,a,h=>by cases h;exact⟨Gh.refl _,a,bG.refl s⟩|(d,.aE _ _)::r,s,t,a,h=>eQ (l:=r) a h|(d,.ptr _ _)::r,s,t,a,h=>eQ (l:=r) a h|(d,.loc _ _)::r,s,t,a,h=>eQ (l:=r) a h|(d,.bf _ _)::r,s,t,a,h=>eQ (l:=r) a h|(d,.agg _)::r,s,t,a,h=>eQ (l:=r) a h|(d,.da _)::r,s,t,a,h=>eQ (l:=r) a h|(d,.gG _ _)::r,s,t,a,h=>eQ (l:=r) a h|(d,.ee _)::r,s,t,a,h=>eQ (l:=r) a h|(d,.mp _)::r,s,t,a,h=>eQ (l:=r) a h|(d,.any)::r,s,t,a,h=>eQ (l:=r) a h|(d,.nT)::r,s,t,a,h=>eQ (l:=r) a h|(d,.sub m _)::r,s,t,a,h=>by obtain⟨i,g,q⟩:=Xp d m a;obtain⟨f,c,b⟩:=eQ (l:=r) g h;exact⟨i.trans f,c,q.trans b⟩|(d,.iQ _ _)::r,s,t,a,h=>eQ (l:=r) a h|(d,.ks _ _)::r,s,t,a,h=>eQ (l:=r) a h|(d,.own m v)::r,s,t,a,h=>by simp only[qd] at h;split at h;rename_i A;split at h;rename_i e _;split at h;rename_i k;split at h;rename_i u;obtain⟨n,w,o⟩:=VP (h:=m) a;obtain⟨i,g⟩:=F5 (e:=e) (τ:=v) w k u;split at h;obtain⟨f,c,b⟩:=eQ (l:=r) g h;exact⟨n.trans (Gh.trans i f),c,o.trans ⟨b.lo,b.bS,b.df⟩⟩;obtain⟨z,y,x,j,h⟩:=LB g h;obtain⟨f,c,b⟩:=eQ (l:=r) x h;exact⟨n.trans (Gh.trans i (Gh.trans y f)),c,o.trans ⟨b.lo.trans j.lo,b.bS.trans j.bS,b.df.trans j.df⟩⟩;cases h;cases h;cases h;exact eQ a h
def LL(s:ae S)(h j hd:Nat):ae S:=match aB s.st h with|some (.box e m b)=>(match b[j]? with|some (.aN a d)=>(match Nat.beq a hd with|true=>(match aB s.bo a with|some (.arr _ _ _ c l)=>s.set h (.box e m (b.set j (.sub a d 0 (List.length l))))|_=>s)|false=>s)|_=>s)|_=>s
def Xr{s:ae S}(h j hd:Nat)(c:aQ s):Gh s.er (LL s h j hd).er/\aQ (LL s h j hd)/\bG s (LL s h j hd):=by
 unfold LL;split;rename_i e m d g;split;rename_i a b k;split;split;rename_i u l i;refine⟨?_,c.set g _,⟨rfl,rfl,rfl⟩⟩;obtain⟨o,_⟩:=pM (o':=.box e m (d.set j (.sub a b 0 (List.length l)))) g rfl;rw[o];have p:(TV.sub a b 0 (List.length l):TV S).er s.ln=(TV.aN a b:TV S).er s.ln:=by show G.aN _ _ (0*_) _=G.aN _ _ 0 (s.ln a);rw[gR,pQ i]
 have r:TV.er.go s.ln (d.set j (.sub a b 0 (List.length l)))=TV.er.go s.ln d:=by rw[cW,oe,cW,p];apply dm;intro q;rw[dQ];split;rename_i t;subst t;rw[ao,k];split;rfl;rename_i f;have:=(ap.1 k).1;rw[aJ] at f;exact absurd this f;rfl
 have n:(TO.box e m (d.set j (.sub a b 0 (List.length l))):TO S).er s.ln=(TO.box e m d:TO S).er s.ln:=by show aw.mk _ _ _ _ _ _ _=aw.mk _ _ _ _ _ _ _;rw[r]
 rw[n,Cb (eG (fZ g))];exact Gh.refl _;exact⟨Gh.refl _,c,bG.refl s⟩;exact⟨Gh.refl _,c,bG.refl s⟩;exact⟨Gh.refl _,c,bG.refl s⟩;exact⟨Gh.refl _,c,bG.refl s⟩
def Qm(h:Nat):List (Nat×Oh)->Option (Bool×Nat)|[]=>none|(k,.deep _ _ _ (.sm i) (.st n))::r=>bif Nat.beq k h then some (i,n) else Qm h r|_::r=>Qm h r
def Gh.aaV{s:St}(hd:Nat)(k:aw)(hf:fresh s hd=true)(e:∀O base w μ,aV O base w μ k none):Gh s {fr:=s.fr,st:=(hd,k)::s.st,df:=s.df}:=fun N g μ a w h=>by refine⟨lD μ hd none,h.zj hd k hf e,Gh.same fun x f b m d c=>?_⟩;by_cases e1:x=hd;subst e1;rw[cf] at c;cases c;rw[bc e1] at c;rw[aD _ _ e1] at d;exact⟨f,d,c⟩
def Um{s:ae S}{h j hd a n:Nat}{c:TypeId}{m i:Bool}{cs:List (TV S)}{b:S.α a}(x:aQ s)(ho:aB s.st h=some (.box c m cs))(p:cs[j]?=some (.val (.map none)))(hf:s.free hd=true)(z:S.cells a b=[⟨.list (.st n),[]⟩]):Gh s.er ((s.add hd (.deep 0 true true (.sm i) (.st a) b)).set h (.box c m (cs.set j (.ee true hd)))).er/\aQ ((s.add hd (.deep 0 true true (.sm i) (.st a) b)).set h (.box c m (cs.set j (.ee true hd)))):=by
 obtain⟨D,l⟩:=qe hf (.deep 0 true true (.sm i) (.st a) b) rfl;obtain⟨t,G,u,H,I⟩:=free_spec hf;have f:h≠hd:=fun e=>by subst e;rw[fZ ho] at t;cases t
 have d:Nat.beq hd h=false:=by cases v:Nat.beq hd h with|false=>rfl|true=>exact absurd (ab v).symm f
 have k:aB (s.add hd (.deep 0 true true (.sm i) (.st a) b)).st h=some (.box c m cs):=by show aB ((hd,_)::s.st) h=_;simp only[aB,d,cond_false];exact ho
 obtain⟨y,_⟩:=pM (o':=.box c m (cs.set j (.ee true hd))) k rfl;refine⟨?_,(x.add _ hf).set k _⟩;rw[y,D];have o:TV.has.go hd cs=false:=uy (fZ ho) u;have A:(TO.box c m (cs.set j (.ee true hd)):TO S).er (s.add hd (.deep 0 true true (.sm i) (.st a) b)).ln=(TO.box c m cs:TO S).er s.ln:=by (have B:TV.er.go (s.add hd (.deep 0 true true (.sm i) (.st a) b)).ln (cs.set j (.ee true hd))=TV.er.go s.ln cs:=by rw[cW,oe,<-cW,<-pX l cs o];apply dm;intro q;rw[dQ];split;rename_i C;subst C;rw[cW,ao,p];split;rfl;rename_i g;have:=(ap.1 p).1;rw[aJ] at g;exact absurd this g;rfl);show aw.mk _ _ _ _ _ _ _=aw.mk _ _ _ _ _ _ _;rw[B]
 rw[A];have E:az ((hd,(TO.deep 0 true true (.sm i) (.st a) b:TO S).er s.ln)::s.er.st) h=some ((TO.box c m cs:TO S).er s.ln):=by rw[aD _ _ f];exact gv (fZ ho)
 show Gh s.er ⟨_,dJ ((hd,(TO.deep 0 true true (.sm i) (.st a) b:TO S).er s.ln)::s.er.st) h _,_⟩;rw[Cb E];refine Gh.aaV hd _ (gD hf) fun O r w F=>?_;show _/\_;refine⟨rfl,?_⟩;show(qZ (S:=S) i (.st a) b=[])/\true=true;exact⟨by rw[zU z];rfl,rfl⟩
def Ju(e:List (Nat×Oh))(h j hd:Nat)(s:ae S):Option (ae S):=match aB s.st h with|some (.box c m a)=>(match a[j]? with|some (.val (.map none))=>(match Qm hd e with|some (i,b)=>(match aB (mQ s hd).st h with|some (.box c m a)=>(match a[j]? with|some (.val (.map none))=>(match (mQ s hd).free hd with|true=>(match S.dd b with|[.list (.st n)]=>(match S.put b [⟨.list (.st n),[]⟩] with|some d=>some (((mQ s hd).add hd (.deep 0 true true (.sm i) (.st b) d)).set h (.box c m (a.set j (.ee true hd))))|none=>none)|_=>none)|false=>none)|_=>none)|_=>none)|none=>none)|_=>some s)|_=>some s
def RV{l:List (Nat×Oh)}{h j hd:Nat}{s t:ae S}(c:aQ s)(a:Ju l h j hd s=some t):Gh s.er t.er/\aQ t/\bG s t:=by unfold Ju at a;split at a;split at a;split at a;rename_i i m _;obtain⟨f,g,k⟩:=wJ hd c;split at a;rename_i b;split at a;rename_i d;split at a;rename_i o;split at a;rename_i n u;split at a;rename_i q p;cases a;obtain⟨r,e⟩:=Um (i:=i) g b d o (S.ig m _ q p);exact⟨f.trans r,e,k.trans ⟨rfl,rfl,rfl⟩⟩;cases a;cases a;cases a;cases a;cases a;cases a;cases a;exact⟨Gh.refl _,c,bG.refl s⟩;cases a;exact⟨Gh.refl _,c,bG.refl s⟩
def nW(b:List (Nat×Oh))(h:Nat):Nat->List Sh->ae S->Option (ae S)|_,[],s=>some s|j,.own a d::r,s=>(match aB s.st h with|some (.box f m c)=>(match c[j]? with|some (.val (.slice none 0 0))=>(match Hn a b with|some e=>(match aB (mQ s a).st h with|some (.box f m c)=>(match c[j]? with|some (.val (.slice none 0 0))=>(match (mQ s a).free a with|true=>nW b h (j+1) r (((mQ s a).add a (.arr e true true d [])).set h (.box f m (c.set j (.aN a d))))|false=>none)|_=>none)|_=>none)|none=>none)|_=>nW b h (j+1) r s)|_=>nW b h (j+1) r s)|j,.sub a _::r,s=>nW b h (j+1) r (LL s h j a)|j,.ee a::r,s=>(match Ju b h j a s with|some g=>nW b h (j+1) r g|none=>none)|j,_::r,s=>nW b h (j+1) r s
def fc{u:List (Nat×Oh)}{h:Nat}:∀{l:List Sh}{j:Nat}{s t:ae S},aQ s->nW u h j l s=some t->Gh s.er t.er/\aQ t/\bG s t|[],_,s,t,a,h=>by cases h;exact⟨Gh.refl _,a,bG.refl s⟩|.aE _ _::r,_,s,t,a,h=>fc (l:=r) a h|.ptr _ _::r,_,s,t,a,h=>fc (l:=r) a h|.loc _ _::r,_,s,t,a,h=>fc (l:=r) a h|.bf _ _::r,_,s,t,a,h=>fc (l:=r) a h|.agg _::r,_,s,t,a,h=>fc (l:=r) a h|.da _::r,_,s,t,a,h=>fc (l:=r) a h|.gG _ _::r,_,s,t,a,h=>fc (l:=r) a h|.ee k::r,j,s,t,a,c=>by simp only[nW] at c;split at c;rename_i E z;obtain⟨g,d,n⟩:=RV a z;obtain⟨f,i,b⟩:=fc (l:=r) d c;exact⟨g.trans f,i,n.trans b⟩;cases c|.mp _::r,_,s,t,a,h=>fc (l:=r) a h|.any::r,_,s,t,a,h=>fc (l:=r) a h|.nT::r,_,s,t,a,h=>fc (l:=r) a h|.sub k _::r,j,s,t,a,c=>by obtain⟨g,d,n⟩:=Xr h j k a;obtain⟨f,i,b⟩:=fc (l:=r) d c;exact⟨g.trans f,i,n.trans b⟩|.iQ _ _::r,_,s,t,a,h=>fc (l:=r) a h|.ks _ _::r,_,s,t,a,h=>fc (l:=r) a h|.own k v::r,j,s,t,a,h=>by simp only[nW] at h;split at h;rename_i D m B A;split at h;rename_i C;split at h;rename_i e _;obtain⟨w,y,x⟩:=wJ k a;split at h;rename_i p;split at h;rename_i o;split at h;rename_i q;obtain⟨g,d⟩:=Uo (e:=e) (τ:=v) y p o q;obtain⟨f,i,b⟩:=fc (l:=r) d h;exact⟨w.trans (Gh.trans g f),i,x.trans ⟨b.lo,b.bS,b.df⟩⟩;cases h;cases h;cases h;cases h;exact fc (l:=r) a h;exact fc (l:=r) a h
def zK(a:List (Nat×Oh)):List (Nat×Oh)->ae S->Option (ae S)|[],s=>some s|(h,.box _ _ c)::r,s=>(match nW a h 0 c s with|some b=>zK a r b|none=>none)|_::r,s=>zK a r s
def s9{c:List (Nat×Oh)}:∀{l:List (Nat×Oh)}{s t:ae S},aQ s->zK c l s=some t->Gh s.er t.er/\aQ t/\bG s t|[],s,t,a,h=>by cases h;exact⟨Gh.refl _,a,bG.refl s⟩|(_,.arr _ _ _ _)::r,s,t,a,h=>s9 (l:=r) a h|(_,.deep _ _ _ _ _)::r,s,t,a,h=>s9 (l:=r) a h|(_,.lp _ _ _)::r,s,t,a,h=>s9 (l:=r) a h|(_,.box _ _ m)::r,s,t,a,h=>by simp only[zK] at h;split at h;rename_i k f;obtain⟨g,e,d⟩:=fc a f;obtain⟨i,j,b⟩:=s9 (l:=r) e h;exact⟨g.trans i,j,d.trans b⟩;cases h
def HW(ay:List (Nat×Sh))(a:List (Nat×Oh))(s:ae S):Option (ae S):=match qd a ay s with|some b=>zK a a b|none=>none
def KJ{ay:List (Nat×Sh)}{b:List (Nat×Oh)}{s t:ae S}(c:aQ s)(h:HW ay b s=some t):Gh s.er t.er/\aQ t/\bG s t:=by unfold HW at h;split at h;rename_i k e;obtain⟨f,d,i⟩:=eQ c e;obtain⟨g,j,a⟩:=s9 d h;exact⟨f.trans g,j,i.trans a⟩;cases h
def Gs(s:ae S)(j:JH):Option (ae S):=match HW j.ay j.aR s with|some a=>sM (QO a.cm j.ay++GH a.bo j.aR) a|none=>none
def EZ{s t:ae S}{j:JH}(b:aQ s)(h:Gs s j=some t):Gh s.er t.er/\aQ t/\bG s t:=by unfold Gs at h;split at h;rename_i k d;obtain⟨e,c,g⟩:=KJ b d;obtain⟨f,i,a⟩:=oA c h;exact⟨e.trans f,i,g.trans a⟩;cases h
def carry(t:ae S)(j:JH):Option (bE S.α j.dd):=match Gs t j with|some a=>(match N6 a with|true=>(match Ab a j with|some b=>oi j.dd b|none=>none)|false=>none)|none=>none
def A4{s t:ae S}{c:Cut}{A H B:List Nat}{j:JH}{q:bE S.α j.dd}(d:c=eZ s A H B)(e:vX s c)(l:Em c j=true)(h1:t.lo=ct c.D s.cm)(h2:t.bS=ct c.DO s.bo)(f:t.df=s.df)(i:aQ t)(h:carry t j=some q):Gh t.er (mO s c j (leaves j.dd q)).er:=by unfold carry at h;split at h;rename_i n k;obtain⟨g,o,b⟩:=EZ i k;split at h;rename_i m;split at h;rename_i p a;rw[il h];exact g.trans (Tx d e l (b.lo.trans h1) (b.bS.trans h2) (b.df.trans f) m a);cases h;cases h;cases h
def ya{s t:ae S}{c:Cut}{A H B:List Nat}{j:JH}{q:bE S.α j.dd}(b:c=eZ s A H B)(a:vX s c)(f:Em c j=true)(h1:t.lo=ct c.D s.cm)(h2:t.bS=ct c.DO s.bo)(g:t.df=s.df)(e:aQ t)(h:carry t j=some q):Gh t.er (tE s c j (leaves j.dd q)).er:=(A4 b a f h1 h2 g e h).trans (Ic (fun d=>by rw[XH a]) (fun d=>by rw[XG a]) rfl)
inductive Hint where
 | join (j:JH)
 | mN (j:JH)
 | loop (j:JH) (id:Nat) (x:JH)
 | du (j:JH) (id:Nat) (x:JH)
 | gV (W:List Nat)
 | cP (W:List Nat) (j:JH)
 | fz (l:List Nat)
 | tr (d:Nat)
 | th (h kty:Nat)
 | SA (key hd:Nat)
def kW:List (Nat×Hint)->Nat->Option Hint|[],_=>none|(k,h)::r,p=>bif Nat.beq k p then some h else kW r p
def rE:List Oper->List Nat|[]=>[]|o::r=>match o.dst with|some d=>d::rE r|none=>rE r
def nt:Code->List Nat|.region _ d _=>rE d.toList|.seq a b=>nt a++nt b|.cond _ a b=>nt a++nt b|.block _ c=>nt c|.loop c=>nt c|.scope c=>nt c|.rangeFunc _ e a b=>e.toList++(nt a++nt b)|_=>[]
def kL:Code->Nat|.seq x y=>kL x+kL y+1|.cond _ x y=>kL x+kL y+1|.block _ c=>kL c+1|.loop c=>kL c+1|.scope c=>kL c+1|_=>1
abbrev HZ(S:eN):=ae S->(B:Type)->(Exit->ae S->Option B)->Option B
def mz(s:ae S)(c:Cut)(j:JH):Bool:=RG s c&&Em c j
def DP:Exit->Bool|.panic _=>true|_=>false
def Aq(s:ae S)(c:Cut)(j:JH)(a:Exit->Bool)(run:HZ S){A:Type}(K:Exit->ae S->Option A):Option A:=match mz s c j with|true=>Option.bind (run (A0 s c) (bE S.α j.dd) fun e t=>match a e with|true=>carry t j|false=>none) fun q=>K .normal (tE s c j (leaves j.dd q))|false=>none
def DK(s:ae S)(c:Cut)(j:JH)(a:Exit->Bool)(run:HZ S){A:Type}(K:Exit->ae S->Option A):Option A:=match mz s c j with|true=>aY (fun r=>r) (run (A0 s c) (Ex (bE S.α j.dd) A) fun e t=>match a e with|true=>(match carry t j with|some q=>some (.bL q)|none=>none)|false=>match K e (flat s c t) with|some r=>some (.ret r)|none=>none) fun q=>K .normal (tE s c j (leaves j.dd q))|false=>none
def oy:Exit->Bool|.normal=>true|_=>false
def AE(id:Nat):Exit->Bool|.normal=>true|.exit a=>Nat.beq a id|_=>false
def QY(fu:Nat)(s:ae S)(c:Cut)(j:JH)(id:Nat)(x:JH)(run:HZ S){A:Type}(K:Exit->ae S->Option A):Option A:=match mz s c j&&Em c x with|true=>(match Ab s j with|some b=>(match oi j.dd b with|some d=>Option.bind (aL (fun q=>run (mO s c j (leaves j.dd q)) (bE S.α j.dd⊕bE S.α x.dd) fun e t=>match e with|.normal=>(match carry t j with|some q=>some (.inl q)|none=>none)|.exit a=>(match Nat.beq a id with|true=>(match carry t x with|some q=>some (.inr q)|none=>none)|false=>none)|_=>none) fu d) fun q=>K (.exit id) (tE s c x (leaves x.dd q))|none=>none)|none=>none)|false=>none
def du(fu:Nat)(s:ae S)(c:Cut)(j:JH)(id:Nat)(x:JH)(run:HZ S){A:Type}(K:Exit->ae S->Option A):Option A:=match mz s c j&&Em c x with|true=>(match Ab s j with|some b=>(match oi j.dd b with|some d=>aY (fun r=>r) (aL (fun q=>run (mO s c j (leaves j.dd q)) (bE S.α j.dd⊕Ex (bE S.α x.dd) A) fun e t=>match e with|.normal=>(match carry t j with|some q=>some (.inl q)|none=>none)|.exit a=>(match Nat.beq a id with|true=>(match carry t x with|some q=>some (.inr (.bL q))|none=>none)|false=>match K (.exit a) (flat s c t) with|some r=>some (.inr (.ret r))|none=>none)|e=>match K e (flat s c t) with|some r=>some (.inr (.ret r))|none=>none) fu d) fun q=>K (.exit id) (tE s c x (leaves x.dd q))|none=>none)|none=>none)|false=>none
def QC(h:Option Hint)(s:ae S){A:Type}(k:ae S->Option A):Option A:=match h with|some (.fz l)=>(match sM l s with|some b=>k b|none=>none)|some (.tr d)=>B7 s (.tmp d) k|some (.th h a)=>K1 s h a k|_=>k s
def OY{h:Option Hint}{s:ae S}{A:Type}{k:ae S->Option A}{r:A}(a:aQ s)(e:QC h s k=some r):∃t,Gh s.er t.er/\aQ t/\bG s t/\k t=some r:=by unfold QC at e;split at e;split at e;rename_i c d;obtain⟨f,g,b⟩:=oA a d;exact⟨c,f,g,b,e⟩;cases e;exact B6 a e;exact LB a e;exact⟨s,Gh.refl _,a,bG.refl s,e⟩
def nk:Code->Nat->List (Nat×Array Tmp×Code×Code)|.seq x y,p=>nk x (p+1)++nk y (p+1+kL x)|.cond _ x y,p=>nk x (p+1)++nk y (p+1+kL x)|.block _ c,p=>nk c (p+1)|.loop c,p=>nk c (p+1)|.rangeFunc _ d a b,p=>[(p,d,a,b)]|_,_=>[]
def qw(S:eN)(N:Nat)(H:List (Nat×Hint)):List (Nat×Array Tmp×Code×Code)->Prop|[]=>True|(p,d,a,b)::r=>(match kW H p with|some (.SA c _)=>(S.fR c).N=N/\(S.fR c).ps=d/\(S.fR c).nV=a/\(S.fR c).body=b|_=>True)/\qw S N H r
def qw.KG{N:Nat}{H:List (Nat×Hint)}:∀{a b:List (Nat×Array Tmp×Code×Code)},qw S N H (a++b)->qw S N H a/\qw S N H b|[],b,h=>⟨trivial,h⟩|x::r,b,h=>⟨⟨h.1,(qw.KG h.2).1⟩,(qw.KG h.2).2⟩
structure Cl (S:eN) where
 call:(Nat→Bool)→(A:Type)→(List PanicEntry→ae S→Option A)→ae S→Option Nat→Call→(ae S→Option A)→Option A
 rf:(key hd:Nat)→ae S→Operand→(A:Type)→(Exit→ae S→Option A)→Option A
def zh(a:List Nat):List (Nat×TV S)->Bool|[]=>true|(d,_)::r=>!(bD d a)&&zh a r
def forget(a:List Nat)(s:ae S):ae S:={s with fr:=ct a s.fr,last:=[]}
def Ej(ops:Array Oper){A:Type}(K:Exit->ae S->Option A)(a:List PanicEntry)(t:ae S):Option A:=match zh (rE ops.toList) t.lo with|true=>K (.panic a) (forget (rE ops.toList) t)|false=>none
noncomputable def iM(P:Program)(N fu:Nat)(H:List (Nat×Hint))(cl:Cl S):Code->Nat->ae S->(A:Type)->(Exit->ae S->Option A)->Option A|.skip,_,s,_,K=>K .normal s|.region _ d i,p,s,A,K=>(match kW H p with|some (.cP W j)=>Aq s (eZ s (rE d.toList) (aF j.aR) (aF j.ay)) j oy (fun a B f=>match i with|true=>xY P N (fun h=>bD h W) W d (cl.call (fun h=>bD h W) B (Ej d f)) a (f .normal)|false=>sw P N (fun h=>Nat.blt h 1100) d.toList (cl.call (fun h=>Nat.blt h 1100) B fun l=>f (.panic l)) d.toList a (f .normal)) K|some (.gV W)=>(match i with|true=>xY P N (fun h=>bD h W) W d (cl.call (fun h=>bD h W) A (Ej d K)) s (K .normal)|false=>sw P N (fun h=>Nat.blt h 1100) d.toList (cl.call (fun h=>Nat.blt h 1100) A fun l=>K (.panic l)) d.toList s (K .normal))|_=>QC (kW H p) s fun s=>match i with|true=>xY P N (fun h=>Nat.blt h 1100) (List.range 1100) d (cl.call (fun h=>Nat.blt h 1100) A (Ej d K)) s (K .normal)|false=>sw P N (fun h=>Nat.blt h 1100) d.toList (cl.call (fun h=>Nat.blt h 1100) A fun l=>K (.panic l)) d.toList s (K .normal))|.seq x y,p,s,A,K=>(QC (kW H p) s fun s=>iM P N fu H cl x (p+1) s A fun e a=>match e with|.normal=>iM P N fu H cl y (p+1+kL x) a A K|e=>K e a)|.cond o x y,p,s,A,K=>(match o with|.tmp t=>(match bw s.cm t with|some (.aE _ .bool b)=>(match kW H p with|some (.join j)=>Aq s (eZ s (nt x++nt y) (aF j.aR) (aF j.ay)) j oy (fun a B f=>cond b (iM P N fu H cl x (p+1) a B f) (iM P N fu H cl y (p+1+kL x) a B f)) K|some (.mN j)=>DK s (eZ s (nt x++nt y) (aF j.aR) (aF j.ay)) j oy (fun a B f=>cond b (iM P N fu H cl x (p+1) a B f) (iM P N fu H cl y (p+1+kL x) a B f)) K|_=>cond b (iM P N fu H cl x (p+1) s A K) (iM P N fu H cl y (p+1+kL x) s A K))|_=>none)|_=>none)|.block id c,p,s,A,K=>(match kW H p with|some (.join j)=>Aq s (eZ s (nt c) (aF j.aR) (aF j.ay)) j (AE id) (fun a B f=>iM P N fu H cl c (p+1) a B f) K|some (.mN j)=>DK s (eZ s (nt c) (aF j.aR) (aF j.ay)) j (AE id) (fun a B f=>iM P N fu H cl c (p+1) a B f) K|_=>iM P N fu H cl c (p+1) s A fun e a=>match e with|.exit k=>(match Nat.beq k id with|true=>K .normal a|false=>K (.exit k) a)|e=>K e a)|.loop c,p,s,A,K=>(match kW H p with|some (.loop j id x)=>(match Gs s j with|some a=>QY fu a (eZ a (nt c) (aF j.aR) (aF j.ay)) j id x (fun a B f=>iM P N fu H cl c (p+1) a B f) K|none=>none)|some (.du j id x)=>(match Gs s j with|some a=>du fu a (eZ a (nt c) (aF j.aR) (aF j.ay)) j id x (fun a B f=>iM P N fu H cl c (p+1) a B f) K|none=>none)|_=>none)|.exit id,_,s,_,K=>K (.exit id) s|.ret,_,s,_,K=>K .ret s|.rangeFunc g _ _ _,p,s,A,K=>(match kW H p with|some (.SA m n)=>cl.rf m n s g A K|_=>none)|_,_,_,_,_=>none
section
variable {P:Program}{N:Nat}{cx:Cx}
def Od(P:Program)(N:Nat)(cx:Cx)(c:Code)(run:HZ S):Prop:=∀(s:ae S) (B:Type) (K:Exit->ae S->Option B) (r:B),aQ s->run s B K=some r->∀Q:Exit->St->Prop,(∀e t,aQ t->bG s t->K e t=some r->Q e t.er)->GW P N cx c Q s.er
def GW.WV{σ u:Type}{c:Code}{Q:Exit->St->Prop}(E:σ->St)(R:u->Exit->St->Prop){body:σ->Option (σ⊕u)}{n:Nat}{q:σ}{e:u}(i:AM.aL body n q=some e)(F:∀x o,body x=some o->GW P N cx c (fun h s=>match o with|.inl t=>h=.normal/\Gh s (E t)|.inr r=>h≠.normal/\R r h s) (E x))(z:∀h s,h≠.normal->R e h s->Q h s):GW P N cx (.loop c) Q (E q):=by intro l a w b;refine Ga (fun k a w=>∃x l,AM.aL body k x=some e/\Rel N cx l (E x) a w) n ⟨q,l,i,b⟩ ?_;rintro k a w ⟨x,l,j,b⟩;cases k with|zero=>exact absurd j (by simp[AM.aL])|succ k=>simp only[AM.aL] at j;cases p:body x with|none=>rw[p] at j;cases j|some o=>rw[p] at j;refine wpIn_mono (F x o p l a w b) fun h y C i=>?_;cases o with|inl t=>(cases h with|normal=>obtain⟨d,m,g,_,B⟩:=i;obtain⟨v,D,_⟩:=B N cx d y C g;exact⟨k,Nat.lt_succ_self k,t,v,j,D⟩|outgrown=>exact i.elim|_=>obtain⟨d,m,g,f,_⟩:=i;cases f)|inr r=>cases j;cases h with|normal=>obtain⟨d,m,g,f,_⟩:=i;exact absurd rfl f|outgrown=>exact i.elim|_=>obtain⟨d,m,g,A,f⟩:=i;exact⟨d,m,g,z _ _ A f⟩
def xV{s:ae S}{c:Cut}{j:JH}(h:mz s c j=true):vX s c/\Em c j=true:=by unfold mz at h;simp only[ag] at h;exact⟨RF h.1,h.2⟩
def GW.Gp{c:Code}{Q Q':Exit->St->Prop}{s:St}(h:GW P N cx c Q' s)(l:∀e s,Q' e s->∃t,Gh s t/\Q e t):GW P N cx c Q s:=fun k a w n=>wpIn_mono (h k a w n) fun e q j g=>by cases e with|outgrown=>exact g.elim|_=>obtain⟨f,r,b,o⟩:=g;obtain⟨t,m,p⟩:=l _ _ o;obtain⟨d,i,_⟩:=m N cx f q j b;exact⟨d,t,i,p⟩
def Hx{s t:ae S}{c:Cut}(h:bG (A0 s c) t):t.lo=ct c.D s.cm/\t.bS=ct c.DO s.bo/\t.df=s.df:=⟨h.lo,h.bS,h.df⟩
def E8{a:Code}{s:ae S}{A H B:List Nat}{j:JH}{b:Exit->Bool}{run:HZ S}{X:Type}{K:Exit->ae S->Option X}{r:X}(w:∀e,b e=true->DP e=false)(c:Od P N cx a run)(y:aQ s)(h:Aq s (eZ s A H B) j b run K=some r){Q:Exit->St->Prop}(i:∀e t,aQ t->bG s t->K e t=some r->Q e t.er):GW P N cx a (fun e k=>b e=true/\∃t,Gh k t/\Q .normal t) s.er:=by unfold Aq at h;split at h;rename_i l;obtain⟨m,n⟩:=xV l;obtain⟨q,o,p⟩:=bind_some h;obtain⟨u,v⟩:=NI s (eZ s A H B) y;refine GW.gh u (c _ _ _ q v o _ fun e t f x d=>?_);split at d;rename_i z;obtain⟨C,D,g⟩:=Hx x;exact⟨z,_,ya rfl m n C D g f d,i _ _ (iN rfl) ⟨rfl,rfl,rfl⟩ p⟩;cases d;cases h
def MG{b:Code}{s:ae S}{A H B:List Nat}{j:JH}{a:Exit->Bool}{run:HZ S}{X:Type}{K:Exit->ae S->Option X}{r:X}(D:∀e,a e=true->DP e=false)(f:Od P N cx b run)(y:aQ s)(h:DK s (eZ s A H B) j a run K=some r){Q:Exit->St->Prop}(k:∀e t,aQ t->bG s t->K e t=some r->Q e t.er):GW P N cx b (fun e l=>(a e=true/\∃t,Gh l t/\Q .normal t)\/(a e=false/\∃t,Gh l t/\Q e t)) s.er:=by unfold DK at h;split at h;rename_i C;obtain⟨p,E⟩:=xV C;obtain⟨F,G,L,v⟩:=HQ h;obtain⟨w,x⟩:=NI s (eZ s A H B) y;refine GW.gh w (f _ _ _ F x G _ fun e t d z c=>?_);obtain⟨m,n,o⟩:=Hx z;split at c;rename_i g;split at c;rename_i q I;cases c;exact .inl ⟨g,_,ya rfl p E m n o d I,k _ _ (iN rfl) ⟨rfl,rfl,rfl⟩ (L q rfl)⟩;cases c;rename_i g;split at c;rename_i J i;cases c;obtain⟨M,O,u⟩:=PE p m n o d;refine .inr ⟨g,_,M,k e _ O u ?_⟩;rw[i,<-v J rfl];cases c;cases h
def Vm{body:Code}{fu:Nat}{s:ae S}{A H B:List Nat}{j x:JH}{id:Nat}{run:HZ S}{X:Type}{K:Exit->ae S->Option X}{r:X}(f:Od P N cx body run)(R:aQ s)(h:QY fu s (eZ s A H B) j id x run K=some r){Q:Exit->St->Prop}(F:∀e t,aQ t->bG s t->K e t=some r->Q e t.er):GW P N cx (.loop body) Q s.er:=by unfold QY at h;split at h;rename_i m;simp only[ag] at m;obtain⟨i,w⟩:=xV m.1;have E:=m.2;split at h;rename_i T p;split at h;rename_i U k;obtain⟨q,J,L⟩:=bind_some h;refine GW.gh (Pz rfl i w p) ?_;rw[<-il k];refine GW.Gp (GW.WV (fun q=>(mO s (eZ s A H B) j (leaves j.dd q)).er) (fun (b:bE S.α x.dd) e g=>e=.exit id/\∃t,Gh g t/\t=(tE s (eZ s A H B) x (leaves x.dd b)).er) J (Q:=fun e g=>e=.exit id/\∃t,Gh g t/\t=(tE s (eZ s A H B) x (leaves x.dd q)).er) (fun V o G=>?_) (fun e g D n=>n)) (fun e g n=>?_);refine f _ _ _ o (iN rfl) G _ fun e t d l a=>?_;have z:t.lo=ct (eZ s A H B).D s.cm:=l.lo;have v:t.bS=ct (eZ s A H B).DO s.bo:=l.bS;have y:t.df=s.df:=l.df;split at a;split at a;rename_i I c;cases a;exact⟨rfl,A4 rfl i w z v y d c⟩;cases a;split at a;rename_i u;split at a;rename_i I c;cases a;have:=ab u;subst this;exact⟨fun e=>(by cases e),rfl,_,ya rfl i E z v y d c,rfl⟩;cases a;cases a;cases a;obtain⟨M,t,O,C⟩:=n;subst M;subst C;exact⟨_,O,F _ _ (iN (t:=tE s (eZ s A H B) x (leaves x.dd q)) rfl) ⟨rfl,rfl,rfl⟩ L⟩;cases h;cases h;cases h
def LR{c X:Type}(s:ae S)(K:Exit->ae S->Option X)(id:Nat)(a:c->St)(b:Ex c X)(e:Exit)(d:St):Prop:=match b with|.bL b=>e=.exit id/\∃t,Gh d t/\t=a b|.ret f=>∃t:ae S,Gh d t.er/\aQ t/\bG s t/\K e t=some f
def Vl{body:Code}{fu:Nat}{s:ae S}{A H B:List Nat}{j x:JH}{id:Nat}{run:HZ S}{X:Type}{K:Exit->ae S->Option X}{r:X}(g:Od P N cx body run)(hl:aQ s)(h:du fu s (eZ s A H B) j id x run K=some r){Q:Exit->St->Prop}(I:∀e t,aQ t->bG s t->K e t=some r->Q e t.er):GW P N cx (.loop body) Q s.er:=by
 unfold du at h;split at h;rename_i w;simp only[ag] at w;obtain⟨k,F⟩:=xV w.1;have O:=w.2;split at h;rename_i ls n;split at h;rename_i q0 m;obtain⟨J,T,W,Y⟩:=HQ h;refine GW.gh (Pz rfl k F n) ?_;rw[<-il m];refine GW.Gp (GW.WV (fun q=>(mO s (eZ s A H B) j (leaves j.dd q)).er) (LR s K id fun b=>(tE s (eZ s A H B) x (leaves x.dd b)).er) T (Q:=LR s K id (fun b=>(tE s (eZ s A H B) x (leaves x.dd b)).er) J) (fun q' o R=>?_) (fun e Z hne i=>i)) (fun e Z i=>?_);refine g _ _ _ o (iN rfl) R _ fun e t d p a=>?_;have u:t.lo=ct (eZ s A H B).D s.cm:=p.lo;have v:t.bS=ct (eZ s A H B).DO s.bo:=p.bS;have l:t.df=s.df:=p.df;obtain⟨G,L,M⟩:=PE k u v l d;split at a;split at a;rename_i U c;cases a;exact⟨rfl,A4 rfl k F u v l d c⟩;cases a;split at a;rename_i y;split at a;rename_i U c;cases a;have:=ab y;subst this;exact⟨fun e=>(by cases e),rfl,_,ya rfl k O u v l d c,rfl⟩;cases a;split at a;rename_i z f;cases a;exact⟨fun e=>(by cases e),_,G,L,M,f⟩;cases a;rename_i D hn2;split at a;rename_i z f;cases a;exact⟨fun e=>D e,_,G,L,M,f⟩;cases a;cases J with|bL b=>obtain⟨e1,t,C,E⟩:=i;subst e1;subst E;exact⟨_,C,I _ _ (iN (t:=tE s (eZ s A H B) x (leaves x.dd b)) rfl) ⟨rfl,rfl,rfl⟩ (W b rfl)⟩|ret z=>obtain⟨t,C,E,e4,V⟩:=i;refine⟨_,C,I _ _ E e4 ?_⟩;rw[V,<-Y z rfl]
 cases h;cases h;cases h
end
end
end Go.DN
/-
 DN,part S:what the code does is what 'denC' says.
-/
namespace Go.DN
open Go.AM
section
variable {S:eN}{P:Program}{N:Nat}{cx:Cx}{fu:Nat}{H:List (Nat×Hint)}{cl:Cl S}
structure Br (P:Program) (N:Nat) (cl:Cl S):Prop where
 call:∀(ok:Nat→Bool) (W:List Nat),(∀h,ok h=true→W.contains h=true)→∀(A:Type) (kp:List PanicEntry→ae S→Option A) (r:A),Dv P N W (cl.call ok A kp) kp r
 da:∀(ok:Nat→Bool) (A:Type) (kp:List PanicEntry→ae S→Option A) (r:A),WH P N (cl.call ok A kp) r
 rf:∀(cx:Cx),cx.ro=none→∀(key hd:Nat) (g:Operand),(S.fR key).N=N→∀(s:ae S) (B:Type) (K:Exit→ae S→Option B) (r:B),aQ s→cl.rf key hd s g B K=some r→∀Q:Exit→St→Prop,(∀e t,aQ t→bG s t→K e t=some r→Q e t.er)→
  GW P N cx (.rangeFunc g (S.fR key).ps (S.fR key).nV (S.fR key).body) Q s.er
def z6:∀h,Nat.blt h 1100=true->(List.range 1100).contains h=true:=fun h a=>gP.2 (gH.2 (by simpa[gO] using a))
def Pe(W:List Nat):∀h,bD h W=true->W.contains h=true:=fun h a=>gP.2 (bV.1 a)
def Gh.lift{c:Code}{Q:Exit->St->Prop}{s:St}(h:GW P N cx c (fun e a=>∃t,Gh a t/\Q e t) s):GW P N cx c Q s:=GW.Gp h fun e a b=>b
def F4:∀{l:List Oper}{d:Nat},d∈l.filterMap (·.dst)->d∈rE l|[],d,h=>by cases h|o::r,d,h=>by simp only[rE];cases a:o.dst with|none=>rw[List.filterMap_cons_none a] at h;exact F4 h|some x=>rw[List.filterMap_cons_some a] at h;rcases bh.1 h with e|h;subst e;exact au;exact ar _ (F4 h)
def GF{b:List Nat}:∀{l:List (Nat×TV S)}{d:Nat},zh b l=true->d∈b->bw l d=none|[],_,_,_=>rfl|(k,v)::r,d,h,a=>by simp only[zh,ag,aT] at h;simp only[bw];cases c:Nat.beq k d with|true=>have:=ab c;subst this;rw[bV.2 a] at h;cases h.1|false=>exact GF h.2 a
def CH{ln:Nat->Nat}:∀{fr:List (Nat×TV S)}{t:Nat},bw fr t=none->get (iC ln fr) t=none|[],_,_=>rfl|(k,g)::r,t,h=>by simp only[bw] at h;simp only[iC,AM.get];cases a:Nat.beq k t with|true=>rw[a] at h;cases h|false=>rw[a] at h;exact CH h
def Rh(a:List Nat)(s:ae S)(hn:zh a s.lo=true)(d:Nat):bw (forget a s).cm d=if bD d a=true then none else bw s.cm d:=by show bw (ct a s.fr++s.lo) d=if bD d a=true then none else bw (s.fr++s.lo) d;rw[rp,rp,k8];cases h:bD d a with|true=>rw[GF hn (bV.1 h)];rfl|false=>rfl
def Gh.abh{s t:St}(h1:∀d g,get t.fr d=some g->get s.fr d=some g)(h2:t.st=s.st)(e:t.df=s.df):Gh s t:=by obtain⟨r,q,v⟩:=s;obtain⟨j,l,n⟩:=t;dsimp only at h1 h2 e;subst h2;subst e;exact fun N u i a w c=>⟨i,{st:=c.st,nd:=c.nd,sz:=c.sz,fr:=fun d g o=>c.fr d g (h1 d g o)},Gh.same fun h k b m p f=>⟨k,p,f⟩⟩
def Eo{ln:Nat->Nat}(fr:List (Nat×TV S))(t:Nat):get (iC ln fr) t=(bw fr t).map (TV.er ln):=by cases h:bw fr t with|none=>exact CH h|some v=>exact gd h
def TG{ops:Array Oper}{s:ae S}(hn:zh (rE ops.toList) s.lo=true):Gh s.er (forget (rE ops.toList) s).er/\∀d,d∈wQ ops->get (forget (rE ops.toList) s).er.fr d=none:=by
 have a:∀d,get (forget (rE ops.toList) s).er.fr d=if bD d (rE ops.toList)=true then none else get s.er.fr d:=by intro d;show get (iC s.ln (forget (rE ops.toList) s).cm) d=if bD d (rE ops.toList)=true then none else get (iC s.ln s.cm) d;rw[Eo,Eo,Rh _ _ hn];split <;> rfl
 refine⟨Gh.abh (fun d g b=>?_) rfl rfl,fun d c=>?_⟩;rw[a] at b;split at b;cases b;exact b;rw[a,if_pos (bV.2 (F4 c))]
def Cj(k:P.follows .mixedOrders=true)(f:Br P N cl)(id:Nat)(ops:Array Oper)(e:Bool)(W:Option (List Nat)):Od P N cx (.region id ops e) (fun s B K=>match e with|true=>(match W with|some W=>xY P N (fun h=>bD h W) W ops (cl.call (fun h=>bD h W) B (Ej ops K)) s (K .normal)|none=>xY P N (fun h=>Nat.blt h 1100) (List.range 1100) ops (cl.call (fun h=>Nat.blt h 1100) B (Ej ops K)) s (K .normal))|false=>sw P N (fun h=>Nat.blt h 1100) ops.toList (cl.call (fun h=>Nat.blt h 1100) B fun g=>K (.panic g)) ops.toList s (K .normal)):=by
 intro s B K r j h Q i;have l:∀g (t:ae S),aQ t->bG s t->Ej ops K g t=some r->∃u,Gh t.er u/\Q (.panic g) u/\∀d,d∈wQ ops->get u.fr d=none:=by intro g t a b c;unfold Ej at c;split at c;rename_i n;obtain⟨o,m⟩:=TG n;exact⟨_,o,i (.panic g) _ (iN rfl) ⟨b.lo,b.bS,b.df⟩ c,m⟩;cases c
 cases e with|true=>(cases W with|some W=>exact Nu k (Pe W) (f.call _ _ (Pe W) B (Ej ops K) r) j h (fun t a b c=>i .normal t a b c) l|none=>exact Nu k z6 (f.call _ _ z6 B (Ej ops K) r) j h (fun t a b c=>i .normal t a b c) l)|false=>(have:ops=ops.toList.toArray:=by simp);rw[this];exact GW.region (rM z6 (f.call _ _ z6 B _ r) (f.da _ B _ r) j h (fun t a b c=>i .normal t a b c) fun g t a b c=>⟨_,Gh.refl _,i (.panic g) t a b c⟩)
def AD:∀e,oy e=true->DP e=false:=fun e h=>by cases e <;> first|rfl|cases h
def Px(id:Nat):∀e,AE id e=true->DP e=false:=fun e h=>by cases e <;> first|rfl|cases h
def Eh{c:Code}{Q:Exit->St->Prop}{s:St}(h:GW P N cx c (fun e a=>oy e=true/\∃t,Gh a t/\Q .normal t) s):GW P N cx c Q s:=Gh.lift (h.mono fun e a ⟨d,t,f,b⟩=>by cases e with|normal=>exact⟨t,f,b⟩|_=>cases d)
def MF{c:Code}{Q:Exit->St->Prop}{s:St}(h:GW P N cx c (fun e b=>(oy e=true/\∃t,Gh b t/\Q .normal t)\/(oy e=false/\∃t,Gh b t/\Q e t)) s):GW P N cx c Q s:=Gh.lift (h.mono fun e b g=>by rcases g with ⟨f,t,a,d⟩|⟨i,t,a,d⟩;(cases e with|normal=>exact⟨t,a,d⟩|_=>cases f);exact⟨t,a,d⟩)
def Vj{id:Nat}{c:Code}{Q:Exit->St->Prop}{s:St}(h:GW P N cx c (fun e b=>AE id e=true/\∃t,Gh b t/\Q .normal t) s):GW P N cx (.block id c) Q s:=GW.block (Gh.lift (h.mono fun e b ⟨a,t,g,d⟩=>by refine⟨t,g,?_⟩;cases e with|normal=>exact d|exit f=>have:=ab a;subst this;simp only[zM,if_true];exact d|_=>cases a))
def S8{id:Nat}{c:Code}{Q:Exit->St->Prop}{s:St}(h:GW P N cx c (fun e f=>(AE id e=true/\∃t,Gh f t/\Q .normal t)\/(AE id e=false/\∃t,Gh f t/\Q e t)) s):GW P N cx (.block id c) Q s:=GW.block (Gh.lift (h.mono fun e f j=>by rcases j with ⟨i,t,d,a⟩|⟨g,t,d,a⟩;refine⟨t,d,?_⟩;(cases e with|normal=>exact a|exit b=>have:=ab i;subst this;simp only[zM,if_true];exact a|_=>cases i);refine⟨t,d,?_⟩;cases e with|normal=>exact a|exit b=>simp only[AE] at g;simp only[zM];rw[if_neg (fun e=>by subst e;rw[aW] at g;cases g)];exact a|_=>exact a))
def Y4{a b:List (Nat×Array Tmp×Code×Code)}(h:a++b=[]\/cx.ro=none):a=[]\/cx.ro=none:=h.imp (fun h=>(List.append_eq_nil_iff.1 h).1) id
def Y3{a b:List (Nat×Array Tmp×Code×Code)}(h:a++b=[]\/cx.ro=none):b=[]\/cx.ro=none:=h.imp (fun h=>(List.append_eq_nil_iff.1 h).2) id
def kK(w:P.follows .mixedOrders=true)(k:Br P N cl):∀(c:Code) (p:Nat),qw S N H (nk c p)->(nk c p=[]\/cx.ro=none)->Od P N cx c (fun s B K=>iM P N fu H cl c p s B K)|.skip,p,_,_=>fun s B K r l h Q i=>GW.skip (i _ s l (bG.refl s) h)|.region id v m,p,_,_=>fun s B K r l h Q i=>by simp only[iM] at h;split at h;rename_i W j _;refine Eh (E8 AD (run:=fun s B K=>match m with|true=>xY P N (fun h=>bD h W) W v (cl.call (fun h=>bD h W) B (Ej v K)) s (K .normal)|false=>sw P N (fun h=>Nat.blt h 1100) v.toList (cl.call (fun h=>Nat.blt h 1100) B fun ch=>K (.panic ch)) v.toList s (K .normal)) ?_ l h i);intro s B K r l h Q i;refine Cj w k id v m (some W) s B K r l ?_ Q i;cases m <;> exact h;rename_i W _;refine Cj w k id v m (some W) s B K r l ?_ Q i;cases m <;> exact h;obtain⟨U,X,V,O,h⟩:=OY l h;refine GW.gh X (Cj w k id v m none U B K r V ?_ Q fun e t a b c=>i e t a (O.trans b) c);cases m <;> exact h|.seq x y,p,u,q=>(fun s B K r l h Q i=>by simp only[iM] at h;obtain⟨U,X,V,O,h⟩:=OY l h;refine GW.gh X (GW.seq (kK w k x _ u.KG.1 (Y4 q) U B _ r V h _ fun e t A I E=>?_));cases e with|normal=>exact kK w k y _ u.KG.2 (Y3 q) t B K r A E Q fun e' t' a b c=>i e' t' a (O.trans (I.trans b)) c|_=>exact i _ t A (O.trans I) E)|.cond o x y,p,u,q=>fun s B K r l h Q i=>by simp only[iM] at h;split at h;rename_i t;split at h;rename_i f b Z;(have hg:get s.er.fr t=some (.val (.bool b)):=by rw[show get s.er.fr t=_ from gd Z];exact congrArg some (iu f b));have sub:∀(s:ae S),(∀d,bw s.cm d=bw s.cm d)->True:=fun _ _=>trivial;(have G:Od P N cx (.cond (.tmp t) x y) (fun n D C=>match bw n.cm t with|some (.aE _ .bool F)=>cond F (iM P N fu H cl x (p+1) n D C) (iM P N fu H cl y (p+1+kL x) n D C)|_=>none):=by intro n D C r' M L Q' J;dsimp only at L;split at L;rename_i f' F hb';(have T:get n.er.fr t=some (.val (.bool F)):=by rw[show get n.er.fr t=_ from gd hb'];exact congrArg some (iu f' F));refine GW.cond T (fun e=>?_) (fun e=>?_);subst e;exact kK w k x _ u.KG.1 (Y4 q) n D C r' M L Q' J;subst e;exact kK w k y _ u.KG.2 (Y3 q) n D C r' M L Q' J;cases L);split at h;rename_i j _;(have h2:Aq s (eZ s (nt x++nt y) (aF j.aR) (aF j.ay)) j oy (fun n D C=>match bw n.cm t with|some (.aE _ .bool F)=>cond F (iM P N fu H cl x (p+1) n D C) (iM P N fu H cl y (p+1+kL x) n D C)|_=>none) K=some r:=by rw[<-h];unfold Aq;split;congr 1;dsimp only;rw[AZ,Z];rfl);exact Eh (E8 AD G l h2 i);rename_i j _;(have h2:DK s (eZ s (nt x++nt y) (aF j.aR) (aF j.ay)) j oy (fun n D C=>match bw n.cm t with|some (.aE _ .bool F)=>cond F (iM P N fu H cl x (p+1) n D C) (iM P N fu H cl y (p+1+kL x) n D C)|_=>none) K=some r:=by rw[<-h];unfold DK;split;congr 1;dsimp only;rw[AZ,Z];rfl);exact MF (MG AD G l h2 i);refine GW.cond hg (fun e=>?_) (fun e=>?_);subst e;exact kK w k x _ u.KG.1 (Y4 q) s B K r l h Q i;subst e;exact kK w k y _ u.KG.2 (Y3 q) s B K r l h Q i;cases h;cases h|.block id c,p,u,q=>(fun s B K r l h Q i=>by simp only[iM] at h;split at h;exact Vj (E8 (Px id) (kK w k c _ u q) l h i);exact S8 (MG (Px id) (kK w k c _ u q) l h i);refine GW.block (kK w k c _ u q s B _ r l h _ fun e t A I E=>?_);cases e with|exit id'=>dsimp only at E;simp only[zM];split at E;rename_i R;rw[if_pos (ab R)];exact i _ t A I E;rename_i R;rw[if_neg (fun e=>by subst e;rw[aW] at R;cases R)];exact i _ t A I E|_=>exact i _ t A I E)|.loop c,p,u,q=>fun s B K r l h Q i=>by simp only[iM] at h;split at h;split at h;rename_i n Y;obtain⟨a1,a2,a3⟩:=EZ l Y;exact GW.gh a1 (Vm (kK w k c _ u q) a2 h fun e t x y z=>i e t x (a3.trans y) z);cases h;split at h;rename_i n Y;obtain⟨a1,a2,a3⟩:=EZ l Y;exact GW.gh a1 (Vl (kK w k c _ u q) a2 h fun e t x y z=>i e t x (a3.trans y) z);cases h;cases h|.exit id,p,_,_=>fun s B K r l h Q i=>GW.exit (i _ s l (bG.refl s) h)|.ret,p,_,_=>fun s B K r l h Q i=>GW.ret (i _ s l (bG.refl s) h)|.rangeFunc g ps a b,p,u,q=>fun s B K r l h Q i=>by simp only[iM] at h;split at h;rename_i key hd hh;have h1:=u.1;rw[hh] at h1;obtain⟨e1,e2,e3,e4⟩:=h1;subst e2;subst e3;subst e4;exact k.rf cx (q.resolve_left fun h=>by cases h) key hd g e1 s B K r l h Q i;cases h|.scope _,p,_,_=>fun s B K r l h Q i=>by simp[iM] at h|.label _,p,_,_=>fun s B K r l h Q i=>by simp[iM] at h|.goto _,p,_,_=>fun s B K r l h Q i=>by simp[iM] at h|.refuse _,p,_,_=>fun s B K r l h Q i=>by simp[iM] at h
end
end Go.DN
/-
 DN,part Sb:a lent slice under a number of the call's own.
-/
namespace Go.DN
open Go.AM
mutual
theorem S5 {h h':Nat}:∀g:G,g.cD h=false→pO h h' g=g
 | .loc x off,e=>by
  show G.loc (mv h h' x) off=_;rw[jD fun e'=>by subst e';simp[G.cD,aW] at e]
 | .aN x sz off n,e=>by
  show G.aN (mv h h' x) sz off n=_;rw[jD fun e'=>by subst e';simp[G.cD,aW] at e]
 | .da x,e=>by
  show G.da (mv h h' x)=_;rw[jD fun e'=>by subst e';simp[G.cD,aW] at e]
 | .eT x,e=>by
  show G.eT (mv h h' x)=_;rw[jD fun e'=>by subst e';simp[G.cD,aW] at e]
 | .ks x i sz n,e=>by
  show G.ks (mv h h' x) i sz n=_;rw[jD fun e'=>by subst e';simp[G.cD,aW] at e]
 | .kp x i off,e=>by
  show G.kp (mv h h' x) i off=_;rw[jD fun e'=>by subst e';simp[G.cD,aW] at e]
 | .agg gs,e=>congrArg G.agg (DI gs e)
 | .bE gs,e=>congrArg G.bE (DI gs e)
 | .bf f gs,e=>congrArg (G.bf f) (DI gs e)
 | .any,_=>rfl
 | .val _,_=>rfl
 | .dC _,_=>rfl
 | .sl _ _,_=>rfl
 | .ptr _,_=>rfl
 | .fr _,_=>rfl
theorem DI {h h':Nat}:∀gs:List G,G.cD.go h gs=false→pO.go h h' gs=gs
 | [],_=>rfl
 | x::r,e=>by
  simp only[G.cD.go,bj] at e;simp only[pO.go,S5 x e.1,DI r e.2]
end
section
variable {S:eN}
def Cv (h h':Nat):TV S→TV S
 | .loc x o=>.loc (mv h h' x) o
 | .iU x τ i j=>.iU (mv h h' x) τ i j
 | .aN x τ=>.aN (mv h h' x) τ
 | .sub x τ o n=>.sub (mv h h' x) τ o n
 | .da x=>.da (mv h h' x)
 | .mp x=>.mp (mv h h' x)
 | .ks x τ i n=>.ks (mv h h' x) τ i n
 | .kp x τ i j=>.kp (mv h h' x) τ i j
 | .iQ b x τ i j=>.iQ b (mv h h' x) τ i j
 | .gG b x o=>.gG b (mv h h' x) o
 | .ee b x=>.ee b (mv h h' x)
 | .agg l=>.agg (go l)
 | .bE l=>.bE (go l)
 | .bf f l=>.bf f (go l)
 | v=>v
where go:List (TV S)→List (TV S)
 | []=>[]
 | x::r=>Cv h h' x::go r
mutual
theorem S4 {h h':Nat}{ln ln':Nat→Nat}(hln:∀x,x≠h'→ln' (mv h h' x)=ln x):∀v:TV S,v.has h'=false→(Cv h h' v).er ln'=pO h h' (v.er ln)
 | .aE f τ a,_=>(S5 _ (NF h f τ a)).symm
 | .ptr f τ a,_=>by cases f <;> rfl
 | .loc _ _,_=>rfl
 | .iU _ _ _ _,_=>rfl
 | .aN x τ,e=>by
  show G.aN _ _ _ (ln' (mv h h' x))=G.aN _ _ _ (ln x);rw[hln x fun e'=>by subst e';simp[TV.has,aW] at e]
 | .sub _ _ _ _,_=>rfl
 | .da _,_=>rfl
 | .mp _,_=>rfl
 | .ks _ _ _ _,_=>rfl
 | .kp _ _ _ _,_=>rfl
 | .iQ b _ _ _ _,_=>by cases b <;> rfl
 | .gG b _ _,_=>by cases b <;> rfl
 | .ee b _,_=>by cases b <;> rfl
 | .val _,_=>rfl
 | .any,_=>rfl
 | .agg l,e=>congrArg G.agg (tI hln l e)
 | .bE l,e=>congrArg G.bE (tI hln l e)
 | .bf f l,e=>congrArg (G.bf f) (tI hln l e)
theorem tI {h h':Nat}{ln ln':Nat→Nat}(hln:∀x,x≠h'→ln' (mv h h' x)=ln x):∀l:List (TV S),TV.has.go h' l=false→TV.er.go ln' (Cv.go h h' l)=pO.go h h' (TV.er.go ln l)
 | [],_=>rfl
 | x::r,e=>by
  simp only[TV.has.go,bj] at e;simp only[Cv.go,TV.er.go,pO.go,S4 hln x e.1,tI hln r e.2]
end
def Y9(h b:Nat):TO S->TO S|.box e m a=>.box e m (Cv.go h b a)|.lp l n a=>.lp l n (Cv.go h b a)|o=>o
def S6(h a:Nat):List (Nat×TV S)->List (Nat×TV S)|[]=>[]|(t,v)::r=>(t,Cv h a v)::S6 h a r
def J3(h a:Nat):List (Nat×TO S)->List (Nat×TO S)|[]=>[]|(k,o)::r=>(mv h a k,Y9 h a o)::J3 h a r
def ae.move(s:ae S)(h a:Nat):ae S:={fr:=S6 h a s.cm,lo:=[],st:=J3 h a s.bo,bS:=[],df:=Cv.go h a s.df,nx:=s.nx,last:=[]}
def Y8{h a x y:Nat}(hx:x≠a)(d:y≠a):Nat.beq (mv h a x) (mv h a y)=Nat.beq x y:=by cases c:Nat.beq x y with|true=>have:=ab c;subst this;exact aW _|false=>cases f:Nat.beq (mv h a x) (mv h a y) with|false=>rfl|true=>have e:=ab f;(have b:x≠y:=fun e=>by subst e;rw[aW] at c;cases c);by_cases h1:x=h;subst h1;by_cases h2:y=x;exact absurd h2.symm b;rw[we,jD h2] at e;exact absurd e.symm d;by_cases h2:y=h;subst h2;rw[we,jD h1] at e;exact absurd e hx;rw[jD h1,jD h2] at e;exact absurd e b
def Mt{h a:Nat}:∀{st:List (Nat×TO S)}{x:Nat},aB st a=none->x≠a->aB (J3 h a st) (mv h a x)=(aB st x).map (Y9 h a)|[],_,_,_=>rfl|(k,o)::r,x,b,d=>by simp only[aB] at b;cases c:Nat.beq k a with|true=>rw[c] at b;cases b|false=>rw[c] at b;(have f:k≠a:=fun e=>by subst e;rw[aW] at c;cases c);simp only[J3,aB,Y8 f d];cases Nat.beq k x with|true=>rfl|false=>exact Mt b d
def XS(h a:Nat)(o:TO S):(Y9 h a o).len=o.len:=by cases o <;> rfl
def Iz{s:ae S}{h b:Nat}(hf:s.free b=true):(s.move h b).er={fr:=Cw h b s.er.fr,st:=wC h b s.er.st,df:=pO.go h b s.er.df}:=by
 obtain⟨z,k,w,u,_⟩:=free_spec hf;have c:∀x,x≠b->(s.move h b).ln (mv h b x)=s.ln x:=by intro x p;show cw (J3 h b s.bo++[]) (mv h b x)=cw s.bo x;rw[bR];unfold cw;rw[Mt z p];cases aB s.bo x with|none=>rfl|some o=>exact XS h b o
 have q:∀i:List (Nat×TV S),gT b i=false->iC (s.move h b).ln (S6 h b i)=Cw h b (iC s.ln i):=by intro i;induction i with|nil=>intro _;rfl|cons x r j=>obtain⟨t,v⟩:=x;intro e;simp only[gT,bj] at e;simp only[S6,iC,Cw,j e.2,S4 c v e.1]
 have y:∀g:List (Nat×TO S),dI b g=false->b6 (s.move h b).ln (J3 h b g)=wC h b (b6 s.ln g):=by intro g;induction g with|nil=>intro _;rfl|cons x r j=>obtain⟨t,o⟩:=x;intro e;simp only[dI,bj] at e;simp only[J3,b6,wC,j e.2];congr 2;cases o with|arr e m f A l=>rfl|deep e m f B A a=>rfl|box C m d=>show aw.mk _ _ _ _ _ (TV.er.go _ (Cv.go h b d)) _=aw.mk _ _ _ _ _ (pO.go h b (TV.er.go s.ln d)) _;rw[tI c d e.1];rfl|lp l n d=>show aw.mk _ _ _ _ _ (TV.er.go _ (Cv.go h b d)) _=aw.mk _ _ _ _ _ (pO.go h b (TV.er.go s.ln d)) _;rw[tI c d e.1];rfl
 show St.mk (iC _ (S6 h b s.cm++[])) (b6 _ (J3 h b s.bo++[])) (TV.er.go _ (Cv.go h b s.df))=_;rw[bR,bR,q _ k,y _ w,tI c s.df u];rfl
def GJ:List Nat->ae S->Option (ae S)|[],s=>some s|r::a,s=>match s.free (r-520)&&!(Nat.beq (r-520) r) with|true=>GJ a (s.move r (r-520))|false=>none
def E6{P:Program}{N:Nat}{cx:Cx}{c:Code}{Q:Exit->St->Prop}:∀{l:List Nat}{s t:ae S},aQ s->GJ l s=some t->(aQ t->GW P N cx c Q t.er)->GW P N cx c Q s.er|[],s,t,d,h,b=>by cases h;exact b d|r::e,s,t,d,h,b=>by simp only[GJ] at h;split at h;rename_i a;simp only[ag,aT] at a;refine GW.move r (r-520) (gD a.1) a.2 ?_;rw[<-Iz a.1];exact E6 (iN rfl) h b;cases h
end
end Go.DN
/-
 DN,part T:functions:what they hand back;contracts;calls that lend nothing.
-/
namespace Go.DN
open Go.AM
section
variable {S:eN}
def isNil{α:Type}:List α->Bool|[]=>true|_=>false
def K5(P:Program)(t:ae S):ResultVar->Option (TV S)|.tmp d=>bw t.cm d|.cell c b=>match bw t.cm c with|some (.loc h 0)=>(match aB t.bo h with|some (.box _ _ a)=>(match Jt P b with|some true=>(match decEq (nL P b) (some a.length) with|isTrue _=>some (.agg a)|isFalse _=>none)|some false=>(match a with|[v]=>some v|_=>none)|none=>none)|_=>none)|_=>none
def Y2(D DO:List Nat)(t:ae S):ResultVar->Bool|.tmp d=>!(bD d D)|.cell c _=>!(bD c D)&&match bw t.cm c with|some (.loc h _)=>!(bD h DO)|_=>false
def WT(P:Program)(t:ae S):List ResultVar->List (Nat×Sh)->List Nat|b::r,(_,a)::l=>(match K5 P t b with|some v=>QN a v|none=>[])++WT P t r l|_,_=>[]
def K7(P:Program)(D DO:List Nat)(t:ae S):List ResultVar->List (Nat×Sh)->Option (List (bp S.α))|[],[]=>some []|a::r,(_,c)::l=>(match Y2 D DO t a with|true=>(match K5 P t a with|some v=>(match lf c v with|some d=>(match K7 P D DO t r l with|some b=>some (d++b)|none=>none)|none=>none)|none=>none)|false=>none)|_,_=>none
def Ym:Sh->List Sh|.agg l=>l|x=>[x]
def wj(a:List (Nat×Oh)):List ResultVar->List (Nat×Sh)->ae S->Option (ae S)|.cell c _::r,(_,d)::l,s=>(match bw s.cm c with|some (.loc h 0)=>(match nW a h 0 (Ym d) s with|some b=>wj a r l b|none=>none)|_=>wj a r l s)|.tmp _::r,_::l,s=>wj a r l s|_,_,s=>some s
def vV{f:List (Nat×Oh)}:∀{rvs:List ResultVar}{l:List (Nat×Sh)}{s t:ae S},aQ s->wj f rvs l s=some t->Gh s.er t.er/\aQ t/\bG s t|.cell c _::r,(_,n)::l,s,t,a,h=>by simp only[wj] at h;split at h;split at h;rename_i m g;obtain⟨i,d,e⟩:=fc a g;obtain⟨j,k,b⟩:=vV (rvs:=r) d h;exact⟨i.trans j,k,e.trans b⟩;cases h;exact vV (rvs:=r) a h|.tmp _::r,_::l,s,t,a,h=>vV (rvs:=r) (l:=l) a h|[],_,s,t,a,h=>by cases h;exact⟨Gh.refl _,a,bG.refl s⟩|.cell _ _::_,[],s,t,a,h=>by cases h;exact⟨Gh.refl _,a,bG.refl s⟩|.tmp _::_,[],s,t,a,h=>by cases h;exact⟨Gh.refl _,a,bG.refl s⟩
def N9(rvs:List ResultVar)(ay:List (Nat×Sh))(a:List (Nat×Oh))(s:ae S):Option (ae S):=match wj a rvs ay s with|some b=>HW ay a b|none=>none
def Un{rvs:List ResultVar}{ay:List (Nat×Sh)}{b:List (Nat×Oh)}{s t:ae S}(c:aQ s)(h:N9 rvs ay b s=some t):Gh s.er t.er/\aQ t/\bG s t:=by unfold N9 at h;split at h;rename_i k e;obtain⟨f,d,i⟩:=vV c e;obtain⟨g,j,a⟩:=KJ d h;exact⟨f.trans g,j,i.trans a⟩;cases h
def IV(P:Program)(t:ae S)(rvs:List ResultVar)(ay:List (Nat×Sh))(outs:List (Nat×Oh)):Option (bE S.α (JH.dd ⟨ay,outs⟩)):=match N9 rvs ay outs t with|some b=>(match sM (WT P b rvs ay++GH b.bo outs) b with|some a=>(match isNil a.df&&within (pI ay++rO outs) (aF outs) with|true=>(match K7 P (ua (aF outs) a.cm) (aF outs++nr (aF outs) a.bo) a rvs ay with|some d=>(match Aa a.bo outs with|some c=>oi (JH.dd ⟨ay,outs⟩) (d++c)|none=>none)|none=>none)|false=>none)|none=>none)|none=>none
def uZ.rw{P:Program}{s:St}{b:ResultVar}{g g':G}(h:uZ P s b g)(d:RW g g'):uZ P s b g':=fun N e f a w i=>by obtain⟨v,j,c⟩:=h N e f a w i;exact⟨v,d _ _ _ _ _ j,c⟩
def Iv{ks:List Nat}:∀{fr:List (Nat×TV S)}{d:Nat}{v:TV S},bw fr d=some v->bD d (ua ks fr)=false->v.bad ks=false|[],_,_,h,_=>by cases h|(t,w)::r,d,v,h,a=>by simp only[bw] at h;simp only[ua] at a;cases b:Nat.beq t d with|true=>(rw[b] at h;cases h;have e:=ab b;subst e;cases g:w.bad ks with|false=>rfl|true=>rw[g] at a;rw[bV.2 au] at a;cases a)|false=>rw[b] at h;refine Iv h ?_;cases c:w.bad ks with|false=>rw[c] at a;exact a|true=>rw[c] at a;cases f:bD d (ua ks r) with|false=>rfl|true=>rw[bV.2 (ar _ (bV.1 f))] at a;cases a
def Iu{ks:List Nat}:∀{st:List (Nat×TO S)}{d:Nat}{o:TO S},aB st d=some o->bD d (nr ks st)=false->o.bad ks=false|[],_,_,h,_=>by cases h|(t,w)::r,d,v,h,a=>by simp only[aB] at h;simp only[nr] at a;cases b:Nat.beq t d with|true=>(rw[b] at h;cases h;have e:=ab b;subst e;cases g:w.bad ks with|false=>rfl|true=>rw[g] at a;rw[bV.2 au] at a;cases a)|false=>rw[b] at h;refine Iu h ?_;cases c:w.bad ks with|false=>rw[c] at a;exact a|true=>rw[c] at a;cases f:bD d (nr ks r) with|false=>rfl|true=>rw[bV.2 (ar _ (bV.1 f))] at a;cases a
def MD{x:Nat}{a b:List Nat}(h:bD x (a++b)=false):bD x a=false/\bD x b=false:=by
 constructor;cases c:bD x a with|false=>rfl|true=>rw[bV.2 (ca _ (bV.1 c))] at h;cases h
 cases c:bD x b with|false=>rfl|true=>rw[bV.2 (cA _ (bV.1 c))] at h;cases h
def Mk{P:Program}{D DO:List Nat}{t u:ae S}(j:∀d v,bD d D=false->bw t.cm d=some v->AM.get u.er.fr d=some (v.er t.ln))(ho:∀h e m cs,bD h DO=false->aB t.bo h=some (.box e m cs)->az u.er.st h=some ((TO.box e m cs).er t.ln)):∀{rvs:List ResultVar}{ay:List (Nat×Sh)}{xs:List (bp S.α)},K7 P D DO t rvs ay=some xs->∀(r:List (bp S.α)),(cH ay (xs++r)).2=r/\Du P u.er rvs (((cH ay (xs++r)).1.map (·.2)).map (TV.er t.ln))|[],[],xs,h,r=>by cases h;exact⟨rfl,trivial⟩|z::rvs,(d,J)::l,xs,h,r=>by simp only[K7] at h;split at h;rename_i b;split at h;rename_i v a;split at h;rename_i B C;split at h;rename_i E A;cases h;obtain⟨I,s⟩:=Mk j ho A r;obtain⟨w,x⟩:=E2 t.ln C (E++r);rw[aS];simp only[cH];rw[w];refine⟨I,uZ.rw ?_ x,s⟩;(cases z with|tmp y=>simp only[Y2,aT] at b;exact uZ.tmp (j y v b a)|cell c p=>simp only[Y2,ag,aT] at b;simp only[K5] at a;split at a;rename_i o n;rw[n] at b;have g:AM.get u.er.fr c=some (.loc o 0):=j c _ b.1 n;split at a;rename_i e m f F;have i:=ho o e m f (by simpa using b.2) F;split at a;rename_i k;split at a;rename_i G _;cases a;(have K:(TV.er.go t.ln f).length=f.length:=by rw[cW,aJ]);have:=uZ.Yn (P:=P) (t:=p) g i rfl (gM k) (dG G) (by show 0+f.length<=(TV.er.go t.ln f).length;omega);(have H:(((TO.box e m f:TO S).er t.ln).cells.drop 0).take f.length=TV.er.go t.ln f:=by show((TV.er.go t.ln f).drop 0).take f.length=_;rw[ib,dc (by omega)]);rw[H] at this;exact this;cases a;rename_i k;split at a;cases a;exact uZ.cell (P:=P) (t:=p) g i rfl (gM k) (by cases q:v.er t.ln <;> simp[aw.out,TO.er,q]);cases a;cases a;cases a;cases a);cases h;cases h;cases h;cases h|[],_::_,_,h,_=>by cases h|_::_,[],_,h,_=>by cases h
def Ey(ks:List Nat):∀(l:List (Nat×Sh)) (b:List (bp S.α)),(∀k,k∈pI l->k∈ks)->∀d v,(d,v)∈(cH l b).1->v.bad ks=false|[],b,_,d,v,h=>by cases h|(g,f)::r,b,c,d,v,h=>by simp only[cH] at h;rcases bh.1 h with e|h;cases e;exact AO ks f b fun k a=>c k (ca _ a);exact Ey ks r _ (fun k a=>c k (cA _ a)) d v h
def PK{P:Program}{t:ae S}{rvs:List ResultVar}{ay:List (Nat×Sh)}{outs:List (Nat×Oh)}{q:bE S.α (JH.dd ⟨ay,outs⟩)}(w:aQ t)(h:IV P t rvs ay outs=some q):∃u:ae S,Gh t.er u.er/\u.er.df=[]/\Du P u.er rvs (((cH ay (leaves _ q)).1.map (·.2)).map (TV.er (cw (cr outs (cH ay (leaves _ q)).2).1)))/\∃O',u.bo=(cr outs (cH ay (leaves _ q)).2).1++O'/\(∀k,k∈aF outs->u.ln k=cw (cr outs (cH ay (leaves _ q)).2).1 k)/\∀k,k∈rO outs->k∈aF outs:=by
 unfold IV at h;split at h;rename_i t1 B;obtain⟨R,M,a3⟩:=Un w B;split at h;rename_i b A;obtain⟨N,b2,b3⟩:=oA M A;split at h;rename_i L;simp only[ag] at L;obtain⟨F,n⟩:=L;have n:=oV n;split at h;rename_i xs O;split at h;rename_i j G;have C:=il h;have p:b.df=[]:=by cases V:b.df with|nil=>rfl|cons x r=>rw[V] at F;cases F
 let O':=ct (aF outs++nr (aF outs) b.bo) b.bo;let z:=ct (ua (aF outs) b.cm) b.cm;let u:ae S:={fr:=z,lo:=[],st:=(cr outs j).1++O',bS:=[],df:=[],nx:=0,last:=[]};have y:u.bo=(cr outs j).1++O':=bR _;have I:u.cm=z:=bR _;have c:∀k,k∈aF outs->b.ln k=u.ln k/\u.ln k=cw (cr outs j).1 k:=by intro k a;obtain⟨o,o',J,D,T⟩:=Cp G k a;(have H:u.ln k=cw (cr outs j).1 k:=by show cw u.bo k=_;rw[y];unfold cw;rw[eH,J]);refine⟨?_,H⟩;rw[H];show cw b.bo k=_;unfold cw;rw[J,D];exact T.symm
 have U:Gh b.er u.er:=told (ay:=[]) (xs:=[]) (ks:=aF outs) (O':=O') (F':=z) rfl G I y (fun d v g=>by have g:bw (ct (ua (aF outs) b.cm) b.cm) d=some v:=g;rw[k8] at g;split at g;cases g;rename_i f;exact⟨g,Iv g f⟩) (fun d o i=>by have i:aB (ct (aF outs++nr (aF outs) b.bo) b.bo) d=some o:=i;rw[kh] at i;split at i;cases i;rename_i f;exact⟨i,Iu i (MD f).2⟩) (fun k a=>(c k a).1) (fun k a=>by cases a) (fun k a=>n k (cA _ a)) p.symm (by rw[p];rfl);obtain⟨E,W⟩:=Mk (P:=P) (u:=u) (t:=b) (fun d v f g=>by (have e:bw u.cm d=some v:=by rw[I];show bw (ct _ b.cm) d=_;rw[k8,f];exact g);rw[show AM.get u.er.fr d=_ from gd e];rw[nS (fun k a=>(c k a).1) v (Iv g f)]) (fun k e m X f i=>by obtain⟨K,Y⟩:=MD f;(have s:aB (cr outs j).1 k=none:=by cases Z:aB (cr outs j).1 k with|none=>rfl|some o=>have:k∈aF (cr outs j).1:=uJ Z;rw[li] at this;rw[bV.2 this] at K;cases K);(have D:aB u.bo k=some (.box e m X):=by rw[y,eH,s];show aB (ct _ b.bo) k=_;rw[kh,f];exact i);rw[show az u.er.st k=_ from gv D];exact congrArg some (TO.nS (fun k a=>(c k a).1) _ (Iu i Y)).symm) O j;refine⟨u,R.trans (N.trans U),rfl,?_,O',?_,?_⟩;rw[C,E];have:∀(l:List (Nat×TV S)),(∀d v,(d,v)∈l->v.bad (aF outs)=false)->(l.map (·.2)).map (TV.er (cw (cr outs j).1))=(l.map (·.2)).map (TV.er b.ln):=by intro l w;induction l with|nil=>rfl|cons x r Q=>simp only[bg];rw[Q fun d v f=>w d v (ar _ f),nS (fun k a=>((c k a).1.trans (c k a).2).symm) x.2 (w x.1 x.2 au)]
 rw[this _ (Ey (aF outs) ay _ fun k a=>n k (ca _ a))];exact W;rw[C,E];exact y;rw[C,E];exact⟨fun k a=>(c k a).2,fun k a=>n k (cA _ a)⟩;cases h;cases h;cases h;cases h;cases h
def o9{α:Type}:List α->Nat->List (Nat×α)|[],_=>[]|x::r,j=>(j,x)::o9 r (j+1)
def fC(args:List Sh)(b:List Oh)(a:List (bp S.α)):ae S:={fr:=o9 (dv args a).1 0,lo:=[],st:=(cr (o9 b 1000) (dv args a).2).1,bS:=[],df:=[],nx:=300,last:=[]}
def k5(args:List Sh)(a:List Oh):List Ty:=zV args++GB (o9 a 1000)
def Hh(ln:Nat->Nat):∀(args:List (TV S)) (j:Nat),iC ln (o9 args j)=oX (TV.er.go ln args) j|[],_=>rfl|x::r,j=>by simp only[o9,iC,TV.er.go,oX,Hh ln r (j+1)]
def om(ay:List (Nat×Sh))(a:List (bp S.α)):TV S:=match (cH ay a).1 with|[(_,v)]=>v|l=>.bE (l.map (·.2))
def wv(P:Program):List ResultVar->List (Nat×Sh)->ae S->ae S|b::r,(_,.own h _)::l,s=>(match K5 P s b with|some (.aN a _)=>(match Nat.beq h a with|true=>wv P r l s|false=>match (mQ s h).free h with|true=>wv P r l ((mQ s h).move a h)|false=>wv P r l s)|_=>wv P r l s)|_::r,_::l,s=>wv P r l s|_,_,s=>s
def Gw(s t:St):Prop:=∀(N:Nat) (c:Cx) (d:Mu) (a:Act) (w:World),Rel N c d s a w->∃b,Rel N c b t a w
def Gh.w{s t:St}(h:Gh s t):Gw s t:=fun N c d a w b=>let ⟨μ',h1,_⟩:=h N c d a w b;⟨μ',h1⟩
def Gw.trans{a b c:St}(h:Gw a b)(i:Gw b c):Gw a c:=fun N e g d w f=>let ⟨μ1,h1⟩:=h N e g d w f;i N e μ1 d w h1
def iG{P:Program}:∀{rvs:List ResultVar}{l:List (Nat×Sh)}{s:ae S},aQ s->Gw s.er (wv P rvs l s).er/\aQ (wv P rvs l s)|m::r,(_,.own h _)::l,s,b=>by simp only[wv];split;rename_i c _ _;(cases f:Nat.beq h c with|true=>exact iG b|false=>dsimp only;split;rename_i d;obtain⟨g,k,_⟩:=wJ h b;obtain⟨i,j⟩:=iG (P:=P) (rvs:=r) (l:=l) (s:=(mQ s h).move c h) (iN rfl);refine⟨g.w.trans (Gw.trans (fun N n o a w e=>?_) i),j⟩;rw[Iz d];exact⟨_,e.move c h (gD d) f⟩;exact iG b);exact iG b|[],_,s,b=>by simp only[wv];exact⟨(Gh.refl _).w,b⟩|_::_,[],s,b=>by simp only[wv];exact⟨(Gh.refl _).w,b⟩|_::r,(_,.aE _ _)::l,s,b=>iG (rvs:=r) (l:=l) b|_::r,(_,.ptr _ _)::l,s,b=>iG (rvs:=r) (l:=l) b|_::r,(_,.loc _ _)::l,s,b=>iG (rvs:=r) (l:=l) b|_::r,(_,.bf _ _)::l,s,b=>iG (rvs:=r) (l:=l) b|_::r,(_,.agg _)::l,s,b=>iG (rvs:=r) (l:=l) b|_::r,(_,.da _)::l,s,b=>iG (rvs:=r) (l:=l) b|_::r,(_,.gG _ _)::l,s,b=>iG (rvs:=r) (l:=l) b|_::r,(_,.ee _)::l,s,b=>iG (rvs:=r) (l:=l) b|_::r,(_,.mp _)::l,s,b=>iG (rvs:=r) (l:=l) b|_::r,(_,.iQ _ _)::l,s,b=>iG (rvs:=r) (l:=l) b|_::r,(_,.ks _ _)::l,s,b=>iG (rvs:=r) (l:=l) b|_::r,(_,.any)::l,s,b=>iG (rvs:=r) (l:=l) b|_::r,(_,.nT)::l,s,b=>iG (rvs:=r) (l:=l) b|_::r,(_,.sub _ _)::l,s,b=>iG (rvs:=r) (l:=l) b
def sv(h:Nat):Nat->List Sh->ae S->ae S|j,.ee a::r,s=>(match aB s.st h with|some (.box _ _ c)=>(match c[j]? with|some (.mp b)=>(match Nat.beq a b with|true=>sv h (j+1) r s|false=>match (mQ s a).free a with|true=>sv h (j+1) r ((mQ s a).move b a)|false=>sv h (j+1) r s)|_=>sv h (j+1) r s)|_=>sv h (j+1) r s)|j,_::r,s=>sv h (j+1) r s|_,[],s=>s
def EW:List (Nat×Oh)->ae S->ae S|(h,.box _ _ l)::r,s=>EW r (sv h 0 l s)|_::r,s=>EW r s|[],s=>s
def ga{h:Nat}:∀{l:List Sh}{j:Nat}{s:ae S},aQ s->Gw s.er (sv h j l s).er/\aQ (sv h j l s)|[],_,s,b=>by simp only[sv];exact⟨(Gh.refl _).w,b⟩|.ee c::r,j,s,b=>by simp only[sv];split;split;rename_i d _;(cases g:Nat.beq c d with|true=>exact ga b|false=>dsimp only;split;rename_i e;obtain⟨i,n,_⟩:=wJ c b;obtain⟨m,k⟩:=ga (h:=h) (l:=r) (j:=j+1) (s:=(mQ s c).move d c) (iN rfl);refine⟨i.w.trans (Gw.trans (fun N o p a w f=>?_) m),k⟩;rw[Iz e];exact⟨_,f.move d c (gD e) g⟩;exact ga b);exact ga b;exact ga b|.own _ _::r,j,s,b=>ga (l:=r) (j:=j+1) b|.aE _ _::r,j,s,b=>ga (l:=r) (j:=j+1) b|.ptr _ _::r,j,s,b=>ga (l:=r) (j:=j+1) b|.loc _ _::r,j,s,b=>ga (l:=r) (j:=j+1) b|.bf _ _::r,j,s,b=>ga (l:=r) (j:=j+1) b|.agg _::r,j,s,b=>ga (l:=r) (j:=j+1) b|.da _::r,j,s,b=>ga (l:=r) (j:=j+1) b|.gG _ _::r,j,s,b=>ga (l:=r) (j:=j+1) b|.mp _::r,j,s,b=>ga (l:=r) (j:=j+1) b|.iQ _ _::r,j,s,b=>ga (l:=r) (j:=j+1) b|.ks _ _::r,j,s,b=>ga (l:=r) (j:=j+1) b|.any::r,j,s,b=>ga (l:=r) (j:=j+1) b|.nT::r,j,s,b=>ga (l:=r) (j:=j+1) b|.sub _ _::r,j,s,b=>ga (l:=r) (j:=j+1) b
def y8:∀{l:List (Nat×Oh)}{s:ae S},aQ s->Gw s.er (EW l s).er/\aQ (EW l s)|[],s,a=>by simp only[EW];exact⟨(Gh.refl _).w,a⟩|(h,.box _ _ l)::r,s,a=>by simp only[EW];obtain⟨c,d⟩:=ga (h:=h) (l:=l) (j:=0) a;obtain⟨e,b⟩:=y8 (l:=r) d;exact⟨c.trans e,b⟩|(_,.arr _ _ _ _)::r,s,a=>y8 (l:=r) a|(_,.lp _ _ _)::r,s,a=>y8 (l:=r) a|(_,.deep _ _ _ _ _)::r,s,a=>y8 (l:=r) a
def Qz(P:Program)(rvs:List ResultVar)(l:List (Nat×Sh))(outs:List (Nat×Oh))(s:ae S):ae S:=EW outs (wv P rvs l s)
def OU{P:Program}{rvs:List ResultVar}{l:List (Nat×Sh)}{outs:List (Nat×Oh)}{s:ae S}(a:aQ s):Gw s.er (Qz P rvs l outs s).er/\aQ (Qz P rvs l outs s):=let ⟨a1,a2⟩:=iG (P:=P) (rvs:=rvs) (l:=l) a;let ⟨b1,b2⟩:=y8 (l:=outs) a2;⟨a1.trans b1,b2⟩
def GW.XA{P:Program}{N:Nat}{cx:Cx}{c:Code}{Q Q':Exit->St->Prop}{s:St}(h:GW P N cx c Q' s)(l:∀e s,Q' e s->∃t,Gw s t/\Q e t):GW P N cx c Q s:=fun k a w n=>wpIn_mono (h k a w n) fun e q j g=>by cases e with|outgrown=>exact g.elim|_=>obtain⟨f,r,b,o⟩:=g;obtain⟨t,m,p⟩:=l _ _ o;obtain⟨d,i⟩:=m N cx f q j b;exact⟨d,t,i,p⟩
noncomputable def FC(P:Program)(N fu:Nat)(H:List (Nat×Hint))(cl:Cl S)(c:Code)(mvs:List Nat)(rvs:List ResultVar)(args:List Sh)(a:List Oh)(ay:List (Nat×Sh))(outs:List (Nat×Oh))(q:bE S.α (k5 args a)):Option (bE S.α (JH.dd ⟨ay,outs⟩)):=match GJ mvs (fC args a (leaves _ q)) with|some s=>(iM P N fu H cl c 0 s _ fun e t=>match e with|.ret=>IV P (Qz P rvs ay outs t) rvs ay outs|.normal=>IV P (Qz P rvs ay outs t) rvs ay outs|_=>none)|none=>none
def PB(st st':List (Nat×aw))(f:Bool){τ:Ty}(h:τ.gA=false)(a:S.D τ):jj st st' (ei f (dM S τ a))=some (ei f (dM S τ a)):=by cases τ with|st n=>cases h|pt n=>cases a <;> cases f <;> rfl|_=>cases f <;> rfl
def Zz(st st':List (Nat×aw))(f:Bool)(τ:Ty)(a:S.D τ):jj st st' (pe f τ a)=some (pe f τ a):=by cases τ with|st n=>show(jj.go st st' ((aX S (.st n) a).map (ei f))).map G.agg=_;(have:jj.go st st' ((aX S (.st n) a).map (ei f))=some ((aX S (.st n) a).map (ei f)):=by rw[ir];have h:=lH n a;generalize S.cells n a=l at h;induction l with|nil=>rfl|cons x r c=>simp only[bg,jj.go];rw[PB st st' f (h x au) x.a,c fun y b=>h y (ar _ b)]);rw[this];rfl|_=>exact PB st st' f rfl a
def EL{ln:Nat->Nat}{st:List (Nat×aw)}:∀{l:List (Nat×TO S)},(∀j o,(j,o)∈l->az st j=some (o.er ln))->pB st (b6 ln l)|[],_=>trivial|(j,o)::r,h=>⟨h j o au,EL fun j o a=>h j o (ar _ a)⟩
def TV.still (ks:List Nat):TV S→Bool
 | .aE _ _ _=>true
 | .ptr _ _ _=>true
 | .loc h _=>bD h ks
 | .aN h _=>bD h ks
 | .sub h _ _ _=>bD h ks
 | .agg l=>go ks l
 | .bE l=>go ks l
 | .bf _ l=>go ks l
 | .val (.slice none 0 0)=>false
 | .val _=>true
 | .any=>true
 | .iQ _ h _ _ _=>bD h ks
 | .gG _ h _=>bD h ks
 | .ee _ h=>bD h ks
 | .ks h _ _ _=>bD h ks
 | .mp h=>bD h ks
 | _=>false
where go (ks:List Nat):List (TV S)→Bool
 | []=>true
 | x::r=>x.still ks&&go ks r
def xA{ln:Nat->Nat}{l:List (Nat×TO S)}{h:Nat}(b:h∈aF l):∃k,az (b6 ln l) h=some k:=by obtain⟨o,a⟩:=pN b;exact⟨_,gv a⟩
mutual
theorem LN {ln lo:Nat→Nat}{st:List (Nat×aw)}{l:List (Nat×TO S)}:∀v:TV S,v.still (aF l)=true→jj st (b6 lo l) (v.er ln)=some (v.er ln)
 | .aE f τ a,_=>Zz st _ f τ a
 | .ptr f τ a,_=>by cases f <;> rfl
 | .loc h o,e=>by
  obtain⟨k,hk⟩:=xA (ln:=lo) (bV.1 e);simp only[TV.er,jj,hk]
 | .aN h τ,e=>by
  obtain⟨k,hk⟩:=xA (ln:=lo) (bV.1 e);simp only[TV.er,jj,hk]
 | .agg vs,e=>by
  show(jj.go st (b6 lo l) (TV.er.go ln vs)).map G.agg=_;rw[xy vs e];rfl
 | .bE vs,e=>by
  show(jj.go st (b6 lo l) (TV.er.go ln vs)).map G.bE=_;rw[xy vs e];rfl
 | .bf f vs,e=>by
  show(jj.go st (b6 lo l) (TV.er.go ln vs)).map (G.bf f)=_;rw[xy vs e];rfl
 | .val u,e=>by
  have key:DH u=.val u:=by
   unfold TV.still at e;unfold DH;split
   ·cases e
   ·rfl
  show some (DH u)=some (.val u);rw[key]
 | .any,_=>rfl
 | .sub h τ o n,e=>by
  obtain⟨k,hk⟩:=xA (ln:=lo) (bV.1 e);simp only[TV.er,jj,hk]
 | .iU _ _ _ _,e=>by cases e
 | .da _,e=>by cases e
 | .mp _,_=>rfl
 | .ks _ _ _ _,_=>rfl
 | .kp _ _ _ _,e=>by cases e
 | .iQ b _ _ _ _,e=>by cases b <;> rfl
 | .ee b _,_=>by cases b <;> rfl
 | .gG b h o,e=>by
  cases b with
  | true=>rfl
  | false=>
   obtain⟨k,hk⟩:=xA (ln:=lo) (bV.1 e);show jj st (b6 lo l) (.loc h o)=_;simp only[jj,hk];rfl
theorem xy {ln lo:Nat→Nat}{st:List (Nat×aw)}{l:List (Nat×TO S)}:∀vs:List (TV S),TV.still.go (aF l) vs=true→jj.go st (b6 lo l) (TV.er.go ln vs)=some (TV.er.go ln vs)
 | [],_=>rfl
 | x::r,e=>by
  simp only[TV.still.go,ag] at e;simp only[TV.er.go,jj.go,LN x e.1,xy r e.2]
end
mutual
def Sh.still (ks:List Nat):Sh→Bool
 | .aE _ _=>true
 | .ptr _ _=>true
 | .own h _=>bD h ks
 | .loc h _=>bD h ks
 | .bf _ l=>yY ks l
 | .agg l=>yY ks l
 | .da _=>false
 | .mp h=>bD h ks
 | .iQ h _=>bD h ks
 | .gG h _=>bD h ks
 | .ee h=>bD h ks
 | .ks h _=>bD h ks
 | .any=>true
 | .nT=>true
 | .sub h _=>bD h ks
def yY (ks:List Nat):List Sh→Bool
 | []=>true
 | x::r=>x.still ks&&yY ks r
end
def uz(ks:List Nat):List (Nat×Sh)->Bool|[]=>true|(_,x)::r=>x.still ks&&uz ks r
mutual
theorem Ev (ks:List Nat):∀(sh:Sh) (ls:List (bp S.α)),sh.still ks=true→(hJ sh ls).1.still ks=true
 | .aE f τ,ls,_=>by cases ls <;> rfl
 | .ptr f τ,ls,_=>by cases ls <;> rfl
 | .own k τ,ls,h=>h
 | .loc _ _,ls,h=>h
 | .bf f l,ls,h=>yA ks l ls h
 | .agg l,ls,h=>yA ks l ls h
 | .da _,ls,h=>by cases h
 | .mp _,ls,h=>h
 | .ks _ _,ls,h=>by
  simp only[hJ];split
  ·exact h
  ·rfl
 | .iQ _ _,ls,h=>by
  simp only[hJ];split
  ·exact h
  ·rfl
 | .gG _ _,ls,h=>by
  simp only[hJ];split
  ·exact h
  ·rfl
 | .ee _,ls,h=>by
  simp only[hJ];split
  ·exact h
  ·rfl
 | .any,ls,_=>rfl
 | .nT,ls,_=>by
  simp only[hJ];split <;> rfl
 | .sub _ _,ls,h=>by
  simp only[hJ];split
  ·exact h
  ·rfl
theorem yA (ks:List Nat):∀(l:List Sh) (ls:List (bp S.α)),yY ks l=true→TV.still.go ks (dv l ls).1=true
 | [],_,_=>rfl
 | sh::r,ls,h=>by
  simp only[yY,ag] at h;simp only[dv,TV.still.go,Ev ks sh ls h.1,yA ks r _ h.2,iA]
end
def Ew(ks:List Nat):∀(l:List (Nat×Sh)) (a:List (bp S.α)),uz ks l=true->TV.still.go ks ((cH l a).1.map (·.2))=true|[],_,_=>rfl|(d,b)::r,a,h=>by simp only[uz,ag] at h;simp only[cH,bg,TV.still.go,Ev ks b a h.1,Ew ks r _ h.2,iA]
def QH{ks:List Nat}{ay:List (Nat×Sh)}(a:List (bp S.α))(h:uz ks ay=true):(om ay a).still ks=true:=by have:=Ew ks ay a h;unfold om;generalize (cH ay a).1=l at this;match l with|[]=>rfl|[(_,v)]=>simpa[TV.still.go] using this|(_,v)::(_,b)::r=>exact this
def S2:List Nat->Bool|[]=>true|x::r=>!(bD x r)&&S2 r
def Ix:∀{l:List (Nat×TO S)},S2 (aF l)=true->∀j o,(j,o)∈l->aB l j=some o|[],_,_,_,h=>by cases h|(k,x)::r,b,j,o,a=>by simp only[aF,S2,ag,aT] at b;rcases bh.1 a with e|a;cases e;simp only[aB,aW,cond_true];have c:=Ix b.2 j o a;rw[kH _ _ fun e=>?_];exact c;subst e;have:=bV.2 (uJ c);rw[b.1] at this;cases this
def GV:∀(ts:List Ty) (q:bE S.α ts),(leaves ts q).length=ts.length|[],_=>rfl|[_],_=>rfl|_::u::r,q=>by simp only[leaves,bQ,GV (u::r) q.2]
def zb(ln:Nat->Nat)(ay:List (Nat×Sh))(a:List (bp S.α)):pack (((cH ay a).1.map (·.2)).map (TV.er ln))=(om ay a).er ln:=by unfold om;generalize (cH ay a).1=l;match l with|[]=>rfl|[(_,v)]=>rfl|(_,v)::(_,b)::r=>simp only[bg,pack,TV.er,cW]
def pL(N:Nat)(args:List Sh)(ay:List (Nat×Sh))(outs:List (Nat×Oh)):Bool:=Nat.ble args.length N&&(uz (aF outs) ay&&S2 (aF outs))
def CO:∀(l:List Sh) (a:List (bp S.α)),(dv l a).1.length=l.length|[],_=>rfl|x::r,a=>by simp only[dv,bQ,CO r]
def aaa(ay:List (Nat×Sh))(outs:List (Nat×Oh))(r:bE S.α (JH.dd ⟨ay,outs⟩))(g:G)(st:List (Nat×aw)):Prop:=g=(om ay (leaves _ r)).er (cw (cr outs (cH ay (leaves _ r)).2).1)/\st=b6 (cw (cr outs (cH ay (leaves _ r)).2).1) (cr outs (cH ay (leaves _ r)).2).1
def Yj{P : Program}{N fu : Nat}{H : List (Nat × Hint)}{cl : Cl S}(s : P.follows .mixedOrders = true)(z : Br P N cl){f : FuncId}{fn : Func}{c : Code}{args : List Sh}{b : List Oh}{ay : List (Nat × Sh)}{outs : List (Nat × Oh)}{q : bE S.α (k5 args b)}{r : bE S.α (JH.dd ⟨ay, outs⟩)}(hf : P.funcs[f]? = some fn)(hb : fn.body = some c)(V : fn.ntmps = N)(C : pL N args ay outs = true)(l : qw S N H (nk c 0)){mvs : List Nat}(h : FC P N fu H cl c mvs fn.results.toList args b ay outs q = some r){cx : Cx}(m : cx.ro = none):GW P N cx c (vi P fn (aaa ay outs r)) { fr := oX (TV.er.go (fC args b (leaves _ q)).ln (dv args (leaves _ q)).1) 0,st := (fC args b (leaves _ q)).er.st,df := []}:=by
 simp only [pL, ag] at C;obtain ⟨Q, p, v⟩ := C;have F : (⟨oX (TV.er.go (fC args b (leaves _ q)).ln (dv args (leaves _ q)).1) 0, (fC args b (leaves _ q)).er.st, []⟩ : St) = (fC args b (leaves _ q)).er := by rw [<- Hh];show St.mk _ _ _ = St.mk (iC _ (o9 (dv args (leaves _ q)).1 0 ++ [])) _ _;rw [bR];rfl
 rw [F];unfold FC at h;split at h;rotate_left;cases h;rename_i T w;refine E6 (iN rfl) w fun x => ?_;refine GW.XA (Q' := fun e E => (e = .ret \/ e = .normal) /\ ∃ t : ae S, Gw E t.er /\ aQ t /\ IV P t fn.results.toList ay outs = some r) (kK s z c 0 l (.inr m) _ _ _ r x h _ fun e t a i g => ?_) fun e E L => ?_;split at g;obtain ⟨k, n⟩ := OU (P := P) (rvs := fn.results.toList) (l := ay) (outs := outs) a;exact ⟨.inl rfl, _, k, n, g⟩;obtain ⟨k, n⟩ := OU (P := P) (rvs := fn.results.toList) (l := ay) (outs := outs) a;exact ⟨.inr rfl, _, k, n, g⟩;cases g;obtain ⟨I, t, y, a, J⟩ := L;obtain ⟨u, K, B, G, U, O, A, d⟩ := PK a J;refine ⟨_, y.trans K.w, ?_⟩;have i : aF (cr outs (cH ay (leaves (JH.dd ⟨ay, outs⟩) r)).2).1 = aF outs := li _ _;refine vi.mk I _ ((om ay (leaves _ r)).er (cw (cr outs (cH ay (leaves _ r)).2).1)) _ G (EL (ln := cw (cr outs (cH ay (leaves _ r)).2).1) (l := (cr outs (cH ay (leaves _ r)).2).1) fun j o s => ?_) ?_ ⟨rfl, rfl⟩ B;have D : aB (cr outs (cH ay (leaves _ r)).2).1 j = some o := Ix (by rw [i];exact v) j o s;have R : aB u.bo j = some o := by rw [O, eH, D]
 rw [show az u.er.st j = _ from gv R];have M : o.er u.ln = o.er (cw (cr outs (cH ay (leaves _ r)).2).1) := TO.nS A o (vN (aF outs) outs _ d j o D);rw [M];rw [zb];refine LN _ ?_;rw [i];exact QH _ p
def Yi{P : Program}{N fu : Nat}{H : List (Nat × Hint)}{cl : Cl S}(k : P.follows .mixedOrders = true)(e : Br P N cl){f : FuncId}{fn : Func}{c : Code}{args : List Sh}{b : List Oh}{ay : List (Nat × Sh)}{outs : List (Nat × Oh)}{q : bE S.α (k5 args b)}{r : bE S.α (JH.dd ⟨ay, outs⟩)}(hf : P.funcs[f]? = some fn)(hb : fn.body = some c)(j : fn.ntmps = N)(i : pL N args ay outs = true)(g : qw S N H (nk c 0)){mvs : List Nat}(h : FC P N fu H cl c mvs fn.results.toList args b ay outs q = some r):GM P f (TV.er.go (fC args b (leaves _ q)).ln (dv args (leaves _ q)).1) (fC args b (leaves _ q)).er.st (aaa ay outs r):=by have a := i;simp only [pL, ag] at a;exact GM.of hf hb j (by rw [cW, aJ, CO];exact a.1) fun l d => Yj k e hf hb j i g h d
end
end Go.DN
/-
 DN,part U:calls that lend nothing.
-/
namespace Go.DN
open Go.AM
section
variable {S:eN}
def zQ(s:ae S)(τ:Ty):TV S->Option (S.D τ)|.aE _ b a=>(match b.gA with|true=>none|false=>jF b τ a)|.val (.slice none 0 0)=>(match τ with|.list _=>some []|_=>none)|.aN h c=>(match aB s.bo h with|some (.arr _ _ _ b l)=>(match decEq b c with|isTrue _=>jF (.list b) τ l|isFalse _=>none)|_=>none)|_=>none
def Gb(s:ae S):List Ty->List (TV S)->Option (List (bp S.α))|[],[]=>some []|b::d,v::c=>(match zQ s b v with|some a=>(match Gb s d c with|some l=>some (⟨b,a⟩::l)|none=>none)|none=>none)|_,_=>none
def P3(s:ae S)(τ:Ty)(v:TV S):Option (S.D τ):=match v with|.aE _ b a=>jF b τ a|.agg c=>(match τ with|.st n=>(match Gb s (S.dd n) c with|some l=>S.put n l|none=>none)|_=>none)|v=>zQ s τ v
def P1(s:ae S)(τ:Ty)(v:TV S):Option (S.D τ):=match v with|.ptr _ b a=>jF b τ a|.loc h 0=>(match aB s.bo h with|some (.box _ _ c)=>(match τ with|.st n=>(match Gb s (S.dd n) c with|some l=>S.put n l|none=>none)|τ=>match c with|[v]=>zQ s τ v|_=>none)|_=>none)|_=>none
mutual
def fO (s:ae S):Sh→TV S→Option (List (bp S.α))
 | .aE false τ,v=>match P3 s τ v with
  | some a=>some [⟨τ,a⟩]
  | none=>none
 | .ptr false τ,v=>match P1 s τ v with
  | some a=>some [⟨τ,a⟩]
  | none=>none
 | .bf f l,v=>match v with
  | .bf f' vs=>match Nat.beq f' f with
   | true=>lO s l vs
   | false=>none
  | _=>none
 | _,_=>none
def lO (s:ae S):List Sh→List (TV S)→Option (List (bp S.α))
 | [],[]=>some []
 | x::r,v::vs=>match fO s x v with
  | some a=>match lO s r vs with
   | some l=>some (a++l)
   | none=>none
  | none=>none
 | _,_=>none
end
def JC(n:Nat)(st:List (Nat×aw))(f:Bool){τ:Ty}(h:τ.gA=false)(a:S.D τ):view (n+1) st (ei f (dM S τ a))=some (dM S τ a):=by cases τ with|st n=>cases h|pt n=>cases a <;> cases f <;> rfl|_=>cases f <;> rfl
def EH{s:ae S}{τ:Ty}{v:TV S}{a:S.D τ}(n:Nat)(h:zQ s τ v=some a):view (n+1) s.er.st (v.er s.ln)=some (dM S τ a)/\τ.gA=false:=by unfold zQ at h;split at h;split at h;cases h;rename_i c;have:=e9 h;cases this;refine⟨?_,c⟩;rw[qs c];exact JC n _ _ c _;split at h;cases h;exact⟨rfl,rfl⟩;cases h;rename_i d j;split at h;rename_i e m f b l g;split at h;rename_i i _;subst i;have:=e9 h;cases this;refine⟨?_,rfl⟩;show view (n+1) s.er.st (.aN d (S.sz b) 0 (s.ln d))=_;simp only[view,eG g,TO.er];rw[pQ g,ib,dc (by rw[kz];exact aH _)];rfl;cases h;cases h;cases h
def EG{s:ae S}(n:Nat):∀{ts:List Ty}{vs:List (TV S)}{l:List (bp S.α)},Gb s ts vs=some l->eX (view (n+1) s.er.st) (TV.er.go s.ln vs)=some (l.map fun x=>dM S x.τ x.a)|[],[],_,h=>by cases h;rfl|d::ts,v::vs,l,h=>by simp only[Gb] at h;split at h;rename_i a c;split at h;rename_i e b;cases h;simp only[TV.er.go,eX,(EH n c).1,EG n b,bg];cases h;cases h|[],_::_,_,h=>by cases h|_::_,[],_,h=>by cases h
def Lu{n:Nat}{st:List (Nat×aw)}{gs a:List G}(h:eX (view n st) gs=some a):view (n+1) st (.agg gs)=some (.agg a):=by show(match eX (view n st) gs with|some a=>some (G.agg a)|none=>none)=_;rw[h]
def Lt{n:Nat}{st:List (Nat×aw)}{h:Nat}{k:aw}{a:List G}(c:az st h=some k)(b:k.lp=none)(e:k.pure=false)(f:eX (view n st) k.cells=some a):view (n+1) st (.loc h 0)=some (.ptr a):=by show(match az st h with|some k=>(match k.lp with|some _=>none|none=>match k.pure with|true=>some (G.ptr (k.cells.drop 0))|false=>match eX (view n st) (k.cells.drop 0) with|some d=>some (.ptr d)|none=>none)|none=>none)=_;rw[c];dsimp only;rw[b];dsimp only;rw[e,ib];dsimp only;rw[f]
def Lw{s:ae S}{τ:Ty}{v:TV S}{a:S.D τ}(n:Nat)(h:P3 s τ v=some a)(ln:Nat->Nat):view (n+2) s.er.st (v.er s.ln)=some ((TV.aE false τ a:TV S).er ln):=by
 have b:zQ s τ v=some a->view (n+2) s.er.st (v.er s.ln)=some ((TV.aE false τ a:TV S).er ln):=by intro h;obtain⟨d,g⟩:=EH (n+1) h;rw[d,qs g];rfl
 unfold P3 at h;split at h;rename_i f i t;have:=e9 h;cases this;cases τ with|st k=>show view (n+2) s.er.st (.agg ((aX S (.st k) a).map (ei f)))=some (.agg ((aX S (.st k) a).map (ei false)));(have c:eX (view (n+1) s.er.st) ((aX S (.st k) a).map (ei f))=some ((aX S (.st k) a).map (ei false)):=by rw[ir];have h:=lH k a;generalize S.cells k a=l at h;induction l with|nil=>rfl|cons x r o=>simp only[bg,eX];rw[JC n _ f (h x au) x.a,o fun y j=>h y (ar _ j)];rfl);exact Lu c|_=>exact b (by unfold zQ;exact h)
 rename_i p;split at h;rename_i k;split at h;rename_i l q;have m:=S.ig _ _ _ h;show view (n+2) s.er.st (.agg (TV.er.go s.ln p))=some (.agg ((aX S (.st k) a).map (ei false)));have e:(ei false)=(id:G->G):=rfl;rw[e,List.map_id,ir,m];exact Lu (EG n q);cases h;cases h;exact b h
def Lv{s:ae S}{τ:Ty}{v:TV S}{a:S.D τ}(n:Nat)(h:P1 s τ v=some a)(ln:Nat->Nat):view (n+2) s.er.st (v.er s.ln)=some ((TV.ptr false τ a:TV S).er ln):=by unfold P1 at h;split at h;rename_i f j p;have:=e9 h;cases this;cases f <;> rfl;rename_i b;split at h;rename_i e m q c;split at h;rename_i k;split at h;rename_i l i;have g:=S.ig _ _ _ h;show view (n+2) s.er.st (.loc b 0)=some (.ptr (aX S (.st k) a));rw[ir,g];exact Lt (eG c) rfl rfl (EG n i);cases h;split at h;obtain⟨o,d⟩:=EH n h;show view (n+2) s.er.st (.loc b 0)=some (.ptr (aX S τ a));rw[j7 S d];refine Lt (eG c) rfl rfl ?_;simp only[TO.er,TV.er.go,eX,o];cases h;cases h;cases h
def Lx{n:Nat}{st:List (Nat×aw)}{g g':G}(h:view (n+2) st g=some g'):uk (n+2) st g=some g':=by cases g with|bf f l=>simp[view] at h|_=>exact h
def Sh.flat:Sh->Bool|.bf _ _=>false|_=>true
def Lf:List Sh->Bool|[]=>true|x::r=>x.flat&&Lf r
def aaS:Sh->Bool|.bf _ l=>Lf l|_=>true
def GA:List Sh->Bool|[]=>true|x::r=>aaS x&&GA r
def JD{s:ae S}(n:Nat)(ln:Nat->Nat):∀{l:List Sh}{vs:List (TV S)}{xs:List (bp S.α)},Lf l=true->lO s l vs=some xs->∀r,(dv l (xs++r)).2=r/\eX (view (n+2) s.er.st) (TV.er.go s.ln vs)=some (TV.er.go ln (dv l (xs++r)).1)|[],[],_,_,h,r=>by simp[lO] at h;subst h;exact⟨rfl,rfl⟩|x::l,v::vs,xs,e,h,r=>by simp only[Lf,ag] at e;simp only[lO] at h;split at h;rename_i a c;split at h;rename_i m j;cases h;rw[aS];obtain⟨i,g⟩:=JD n ln e.2 j r;(cases x with|bf f o=>cases e.1|own _ _=>simp[fO] at c|loc _ _=>simp[fO] at c|agg _=>simp[fO] at c|da _=>simp[fO] at c|mp _=>simp[fO] at c|iQ _ _=>simp[fO] at c|gG _ _=>simp[fO] at c|ee _=>simp[fO] at c|ks _ _=>simp[fO] at c|nT=>simp[fO] at c|sub _ _=>simp[fO] at c|any=>simp[fO] at c|aE f k=>(cases f with|true=>simp[fO] at c|false=>simp only[fO] at c;split at c;rename_i b d;cases c;refine⟨i,?_⟩;simp only[TV.er.go,eX,Lw n d ln,g];rfl;cases c)|ptr f k=>cases f with|true=>simp[fO] at c|false=>simp only[fO] at c;split at c;rename_i b d;cases c;refine⟨i,?_⟩;simp only[TV.er.go,eX,Lv n d ln,g];rfl;cases c);cases h;cases h|[],_::_,_,_,h,_=>by simp[lO] at h|_::_,[],_,_,h,_=>by simp[lO] at h
def xx{s:ae S}(n:Nat)(ln:Nat->Nat):∀{l:List Sh}{vs:List (TV S)}{xs:List (bp S.α)},GA l=true->lO s l vs=some xs->∀r,(dv l (xs++r)).2=r/\eX (uk (n+2) s.er.st) (TV.er.go s.ln vs)=some (TV.er.go ln (dv l (xs++r)).1)|[],[],_,_,h,r=>by simp[lO] at h;subst h;exact⟨rfl,rfl⟩|x::l,v::vs,xs,m,h,r=>by simp only[GA,ag] at m;simp only[lO] at h;split at h;rename_i a d;split at h;rename_i p u;cases h;rw[aS];obtain⟨k,j⟩:=xx n ln m.2 u r;(cases x with|own _ _=>simp[fO] at d|loc _ _=>simp[fO] at d|agg _=>simp[fO] at d|da _=>simp[fO] at d|mp _=>simp[fO] at d|iQ _ _=>simp[fO] at d|gG _ _=>simp[fO] at d|ee _=>simp[fO] at d|ks _ _=>simp[fO] at d|nT=>simp[fO] at d|sub _ _=>simp[fO] at d|any=>simp[fO] at d|bf f t=>simp only[fO] at d;split at d;rename_i o g;split at d;rename_i i;have e:=ab i;subst e;obtain⟨w,y⟩:=JD n ln m.1 d (p++r);simp only[dv,hJ];rw[w];refine⟨k,?_⟩;simp only[TV.er.go,eX,j];(have z:uk (n+2) s.er.st ((TV.bf o g:TV S).er s.ln)=some (.bf o (TV.er.go ln (dv t (a++(p++r))).1)):=by show(match eX (view (n+2) s.er.st) (TV.er.go s.ln g) with|some c=>some (G.bf o c)|none=>none)=_;rw[y]);rw[z];rfl;cases d;cases d|aE f q=>(cases f with|true=>simp[fO] at d|false=>simp only[fO] at d;split at d;rename_i b i;cases d;refine⟨k,?_⟩;simp only[TV.er.go,eX,Lx (Lw n i ln),j];rfl;cases d)|ptr f q=>cases f with|true=>simp[fO] at d|false=>simp only[fO] at d;split at d;rename_i b i;cases d;refine⟨k,?_⟩;simp only[TV.er.go,eX,Lx (Lv n i ln),j];rfl;cases d);cases h;cases h|[],_::_,_,_,h,_=>by simp[lO] at h|_::_,[],_,_,h,_=>by simp[lO] at h
end
end Go.DN
/-
 DN,part V:contracts;calls by e8.
-/
namespace Go.DN
open Go.AM
structure bB (S:eN) where
 f:FuncId
 args:List Sh
 aR:List Oh
 vw:Bool
 ay:List (Nat×Sh)
 outs:List (Nat×Oh)
 F:bE S.α (k5 args aR)→Option (bE S.α (JH.dd ⟨ay,outs⟩))
section
variable {S:eN}
structure aO (P:Program) (con:bB S):Prop where
 call:∀args w,(callFunc con.f args).run P w=.ok (.enter con.f args) w
 ok:∀q r,con.F q=some r→GM P con.f (TV.er.go (fC con.args con.aR (leaves _ q)).ln (dv con.args (leaves _ q)).1) (fC con.args con.aR (leaves _ q)).er.st (aaa con.ay con.outs r)
def oD:List (Nat×Sh)->Bool|[]=>true|(_,.aE _ _)::r=>oD r|_=>false
def sN:List (Nat×Sh)->Bool|[]=>true|(_,.aE f _)::r=>f&&sN r|_=>false
def Hd{g:G}(h:Pl g):k4 (ei true g)=true:=by rcases h with ⟨u,rfl⟩|⟨n,a,rfl⟩|⟨b,rfl⟩|⟨a,rfl⟩ <;> rfl
def Rf(τ:Ty)(a:S.D τ):k4 (pe true τ a)=true:=by cases τ with|st n=>(show k4.go ((aX S (.st n) a).map (ei true))=true;have h:=uR (S:=S) (.st n) a;generalize aX S (.st n) a=l at h;induction l with|nil=>rfl|cons x r c=>simp only[bg,k4.go,Hd (h x au),c fun y b=>h y (ar _ b),iA])|_=>exact Hd (zt rfl a)
def Hc(ln:Nat->Nat):∀(ay:List (Nat×Sh)) (b:List (bp S.α)),sN ay=true->b.length=(jM ay).length->k4.go (((cH ay b).1.map (·.2)).map (TV.er ln))=true|[],_,_,_=>rfl|(d,.aE f e)::r,b,h,c=>(by simp only[sN,ag] at h;cases b with|nil=>simp[jM,Sh.dd] at c|cons x g=>simp only[cH,hJ,bg,k4.go];rw[h.1,Hc ln r g h.2 (by simpa[jM,Sh.dd] using c),kf];exact Rf x.τ x.a)|(d,.own h e)::r,b,a,_=>by cases a|(d,.ptr _ _)::r,b,a,_=>by cases a|(d,.loc _ _)::r,b,a,_=>by cases a|(d,.bf _ _)::r,b,a,_=>by cases a|(d,.agg _)::r,b,a,_=>by cases a|(d,.da _)::r,b,a,_=>by cases a|(d,.mp _)::r,b,a,_=>by cases a|(d,.iQ _ _)::r,b,a,_=>by cases a|(d,.gG _ _)::r,b,a,_=>by cases a|(d,.ee _)::r,b,a,_=>by cases a|(d,.ks _ _)::r,b,a,_=>by cases a|(d,.any)::r,b,a,_=>by cases a|(d,.nT)::r,b,a,_=>by cases a|(d,.sub _ _)::r,b,a,_=>by cases a
def Kj{ay:List (Nat×Sh)}{a:List (bp S.α)}(h:sN ay=true)(d:a.length=(jM ay).length)(ln:Nat->Nat):k4 ((om ay a).er ln)=true:=by have:=Hc (S:=S) ln ay a h d;rw[<-zb];revert this;generalize (((cH ay a).1.map (·.2)).map (TV.er ln))=c;intro b;match c with|[]=>rfl|[g]=>simpa[k4.go,pack] using b|g::e::r=>exact b
def PF(ln ln':Nat->Nat):∀(ay:List (Nat×Sh)) (b:List (bp S.α)),oD ay=true->((cH ay b).1.map (·.2)).map (TV.er ln)=((cH ay b).1.map (·.2)).map (TV.er ln')|[],_,_=>rfl|(d,.aE f c)::r,b,h=>by simp only[cH,bg];rw[PF ln ln' r _ h];cases b <;> rfl|(d,.own h c)::r,b,a=>by cases a|(d,.ptr _ _)::r,b,a=>by cases a|(d,.loc _ _)::r,b,a=>by cases a|(d,.bf _ _)::r,b,a=>by cases a|(d,.agg _)::r,b,a=>by cases a|(d,.da _)::r,b,a=>by cases a|(d,.mp _)::r,b,a=>by cases a|(d,.iQ _ _)::r,b,a=>by cases a|(d,.gG _ _)::r,b,a=>by cases a|(d,.ee _)::r,b,a=>by cases a|(d,.ks _ _)::r,b,a=>by cases a|(d,.any)::r,b,a=>by cases a|(d,.nT)::r,b,a=>by cases a|(d,.sub _ _)::r,b,a=>by cases a
def L4(ln ln':Nat->Nat){ay:List (Nat×Sh)}{a:List (bp S.α)}(h:oD ay=true):(om ay a).er ln=(om ay a).er ln':=by rw[<-zb,<-zb,PF ln ln' ay a h]
def TV.imp:TV S→Bool
 | .aE _ _ _=>true
 | .ptr _ _ _=>true
 | .val _=>true
 | .agg l=>go l
 | .bf _ l=>go l
 | _=>false
where go:List (TV S)→Bool
 | []=>true
 | x::r=>x.imp&&go r
def pk:G→Bool
 | .val _=>true
 | .dC _=>true
 | .sl _ _=>true
 | .ptr _=>true
 | .fr _=>true
 | .agg gs=>go gs
 | .bf _ gs=>go gs
 | _=>false
where go:List G→Bool
 | []=>true
 | g::r=>pk g&&go r
mutual
theorem Ts (ln:Nat→Nat):∀v:TV S,v.imp=true→pk (v.er ln)=true
 | .aE f τ a,_=>by
  cases τ with
  | st n=>
   show pk.go ((aX S (.st n) a).map (ei f))=true;have h:=uR (S:=S) (.st n) a;generalize aX S (.st n) a=l at h
   induction l with
   | nil=>rfl
   | cons x r ih=>
    have h1:pk (ei f x)=true:=by
     rcases h x au with ⟨u,rfl⟩ | ⟨n,cs,rfl⟩ | ⟨b,rfl⟩ | ⟨cs,rfl⟩ <;> cases f <;> rfl
    simp only[bg,pk.go,h1,ih fun y hy=>h y (ar _ hy),iA]
  | pt n=>cases a <;> cases f <;> rfl
  | _=>cases f <;> rfl
 | .ptr f τ a,_=>by cases f <;> rfl
 | .val _,_=>rfl
 | .agg l,h=>qn ln l h
 | .bf _ l,h=>qn ln l h
 | .bE _,h=>by cases h
 | .loc _ _,h=>by cases h
 | .iU _ _ _ _,h=>by cases h
 | .aN _ _,h=>by cases h
 | .sub _ _ _ _,h=>by cases h
 | .da _,h=>by cases h
 | .mp _,h=>by cases h
 | .ks _ _ _ _,h=>by cases h
 | .kp _ _ _ _,h=>by cases h
 | .iQ _ _ _ _ _,h=>by cases h
 | .gG _ _ _,h=>by cases h
 | .ee _ _,h=>by cases h
 | .any,h=>by cases h
theorem qn (ln:Nat→Nat):∀l:List (TV S),TV.imp.go l=true→pk.go (TV.er.go ln l)=true
 | [],_=>rfl
 | x::r,h=>by
  simp only[TV.imp.go,ag] at h;simp only[TV.er.go,pk.go,Ts ln x h.1,qn ln r h.2,iA]
end
def Ar{f:G->Option G}:∀{gs a:List G},(∀g g',g∈gs->f g=some g'->gS g=some g')->eX f gs=some a->gS.go gs=some a|[],_,_,h=>by cases h;rfl|g::r,a,b,h=>by simp only[eX] at h;split at h;rename_i d k i e;cases h;simp only[gS.go,b g d au i,Ar (fun x j c=>b x j (ar _ c)) e];cases h
def Cu:∀{gs:List G}{g:G},pk.go gs=true->g∈gs->pk g=true|x::r,g,h,a=>by simp only[pk.go,ag] at h;rcases bh.1 a with e|a;subst e;exact h.1;exact Cu h.2 a
def EE{st:List (Nat×aw)}:∀(n:Nat){g g':G},pk g=true->view n st g=some g'->gS g=some g'|0,_,_,_,h=>by cases h|n+1,g,g',d,h=>by cases g with|val v=>exact h|dC b=>exact h|sl m e=>exact h|ptr e=>exact h|fr g=>exact h|agg c=>have h:(match eX (view n st) c with|some a=>some (G.agg a)|none=>none)=some g':=h;split at h;rename_i a j;cases h;show(gS.go c).map G.agg=_;rw[Ar (fun x l k i=>EE n (Cu d k) i) j];rfl;cases h|bf f c=>simp[view] at h|_=>cases d
def R5{n:Nat}{st:List (Nat×aw)}{g g':G}(ho:pk g=true)(h:uk n st g=some g'):gS g=some g':=by cases g with|bf f a=>have h:(match eX (view n st) a with|some c=>some (G.bf f c)|none=>none)=some g':=h;split at h;rename_i d e;cases h;show(gS.go a).map (G.bf f)=_;rw[Ar (fun x j i b=>EE n (Cu ho i) b) e];rfl;cases h|_=>exact EE n ho h
def Au{n:Nat}{st:List (Nat×aw)}:∀{gs a:List G},pk.go gs=true->eX (uk n st) gs=some a->eX gS gs=some a|[],_,_,h=>by cases h;rfl|g::r,a,b,h=>by simp only[pk.go,ag] at b;simp only[eX] at h;split at h;rename_i e f d c;cases h;simp only[eX,R5 b.1 d,Au b.2 c];cases h
def VI(f:Bool)(τ:Ty)(a:S.D τ):nO (pe f τ a)=true:=by cases τ with|st n=>(show nO.go ((aX S (.st n) a).map (ei f))=true;have h:=uR (S:=S) (.st n) a;generalize aX S (.st n) a=l at h;induction l with|nil=>rfl|cons x r d=>(have e:nO (ei f x)=true:=by rcases h x au with ⟨u,rfl⟩|⟨n,g,rfl⟩|⟨b,rfl⟩|⟨g,rfl⟩ <;> cases f <;> rfl);simp only[bg,nO.go,e,d fun y c=>h y (ar _ c),iA])|pt n=>cases a <;> cases f <;> rfl|_=>cases f <;> rfl
def M7(ln:Nat->Nat):∀(ay:List (Nat×Sh)) (b:List (bp S.α)),oD ay=true->b.length=(jM ay).length->nO.go (((cH ay b).1.map (·.2)).map (TV.er ln))=true|[],_,_,_=>rfl|(d,.aE f e)::r,b,h,c=>(by cases b with|nil=>simp[jM,Sh.dd] at c|cons x g=>simp only[cH,hJ,bg,nO.go];rw[M7 ln r g h (by simpa[jM,Sh.dd] using c),kf];exact VI f x.τ x.a)|(d,.own h e)::r,b,a,_=>by cases a|(d,.ptr _ _)::r,b,a,_=>by cases a|(d,.loc _ _)::r,b,a,_=>by cases a|(d,.bf _ _)::r,b,a,_=>by cases a|(d,.agg _)::r,b,a,_=>by cases a|(d,.da _)::r,b,a,_=>by cases a|(d,.mp _)::r,b,a,_=>by cases a|(d,.iQ _ _)::r,b,a,_=>by cases a|(d,.gG _ _)::r,b,a,_=>by cases a|(d,.ee _)::r,b,a,_=>by cases a|(d,.ks _ _)::r,b,a,_=>by cases a|(d,.any)::r,b,a,_=>by cases a|(d,.nT)::r,b,a,_=>by cases a|(d,.sub _ _)::r,b,a,_=>by cases a
def IH{ay:List (Nat×Sh)}{a:List (bp S.α)}(h:oD ay=true)(d:a.length=(jM ay).length)(ln:Nat->Nat):nO ((om ay a).er ln)=true:=by have:=M7 (S:=S) ln ay a h d;rw[<-zb];revert this;generalize (((cH ay a).1.map (·.2)).map (TV.er ln))=c;intro b;match c with|[]=>rfl|[g]=>simpa[nO.go,pack] using b|g::e::r=>exact b
def qR(a:bB S):Bool:=isNil a.aR&&(isNil a.outs&&(GA a.args&&oD a.ay))
def A6(a:bB S)(s:ae S)(d:Nat)(vs:List (TV S)){A:Type}(k:ae S->Option A):Option A:=match qR a&&(sN a.ay||TV.imp.go vs) with|true=>(match lO s a.args vs with|some b=>(match oi (k5 a.args a.aR) b with|some q=>(a.F q).bind fun r=>k (s.put d (om a.ay (leaves _ r)))|none=>none)|none=>none)|false=>none
def rR(ln:Nat->Nat):∀(l a:List (TV S)),TV.er.go ln (l++a)=TV.er.go ln l++TV.er.go ln a|[],_=>rfl|x::r,a=>by simp only[b7,TV.er.go,rR ln r a]
def Fj{α:Type}:∀{l:List α},isNil l=true->l=[]|[],_=>rfl|_::_,h=>by cases h
def z7{P:Program}{a:bB S}(C:aO P a)(h:qR a=true):GA a.args=true/\oD a.ay=true/\∀q r,a.F q=some r->GM P a.f (TV.er.go (fun _=>0) (dv a.args (leaves _ q)).1) [] (fun g st=>g=(om a.ay (leaves _ r)).er (fun _=>0)/\st=[]):=by simp only[qR,ag] at h;obtain⟨i,m,o,n⟩:=h;refine⟨o,n,fun q r j=>?_⟩;have:=C.ok q r j;obtain⟨f,b,l,p,s,c,F⟩:=a;have d:l=[]:=Fj i;have e:c=[]:=Fj m;subst d;subst e;have k:(fC b [] (leaves (k5 b []) q)).ln=fun _=>0:=rfl;rw[k] at this;exact this
def DB{ay:List (Nat×Sh)}{outs:List (Nat×Oh)}(r:bE S.α (JH.dd ⟨ay,outs⟩))(h:outs=[]):(leaves _ r).length=(jM ay).length:=by subst h;rw[GV];simp[JH.dd,GB]
def vF{a:bB S}(h:qR a=true):a.outs=[]:=by simp only[qR,ag] at h;exact Fj h.2.1
def Wl{P:Program}{N:Nat}{W:List Nat}{b:bB S}(C:aO P b){s:ae S}{d:Nat}{vs:List (TV S)}{A:Type}{k:ae S->Option A}{r:A}(G:aQ s)(h:A6 b s d vs k=some r){xs:Array Operand}{ts:Array TypeId}{ty:TypeId}{pos:String}{after:Array Edge}{guard:Option (Nat×Bool)}(z:u4 s xs.toList=some vs):∃T:St->Prop,cu P W s.er ⟨some d,.call ⟨.value (.func b.f),xs,ts⟩,ty,pos,after,guard⟩ T/\∀i,T i->∃t:ae S,Gh i t.er/\aQ t/\bG s t/\k t=some r:=by
 unfold A6 at h;split at h;rename_i x;rw[ag] at x;obtain⟨B,o⟩:=x;obtain⟨E,w,y⟩:=z7 C B;split at h;rename_i I u;split at h;rename_i q H;obtain⟨c,D,F⟩:=bind_some h;have a:=(xx 1 (fun _=>0) E u []).2;rw[bR,<-il H] at a;have m:∀i,(∃g p,(g=(om b.ay (leaves _ c)).er (fun _=>0)/\p=([]:List (Nat×aw)))/\i=s.er.put d g)->∃t:ae S,Gh i t.er/\aQ t/\bG s t/\k t=some r:=by intro i v;obtain⟨g,p,⟨j,_⟩,e⟩:=v;subst e;subst j;refine⟨_,?_,G.put d _,⟨rfl,rfl,rfl⟩,F⟩;rw[iT,L4 s.ln (fun _=>0) w];exact Gh.refl _
 have f:=DB c (vF B);cases n:sN b.ay with|true=>exact⟨_,EF.call (P:=P) (W:=W) 3 C.call (nJ z).2 a (y q c D) (fun g p j=>by rw[j.1];exact Kj n f _),m⟩|false=>rw[n] at o;have l:=qn s.ln vs o;exact⟨_,EF.aaB (P:=P) (W:=W) C.call (nJ z).2 (Au l a) (y q c D) (fun g p j=>⟨by rw[j.1];exact IH w f _,j.2⟩),m⟩
 cases h;cases h;cases h
def EF.Z0{P:Program}{W:List Nat}{s:St}{d:Nat}{ty:TypeId}{pos:String}{after:Array Edge}{guard:Option (Nat×Bool)}{f:FuncId}{x:Operand}{xs:Array Operand}{ts:Array TypeId}{gs caps k:List G}{Q:G->List (Nat×aw)->Prop}(hb:vP f xs.toList=true)(I:∀args w,(callFunc f args).run P w=.ok (.enter f args) w)(hf:ev s x=some (.bf f caps))(hx:wO s xs.toList=some gs)(b:eX gS (gs++caps)=some k)(l:GM P f k [] Q)(m:∀r st',Q r st'->nO r=true/\st'=[]):cu P W s ⟨some d,.call ⟨.value x,xs,ts⟩,ty,pos,after,guard⟩ (fun C=>∃r st',Q r st'/\C=s.put d r):=by refine⟨(fun _ h=>by cases h),?_⟩;intro N T L a w y D K S J;obtain⟨B,M⟩:=oY hx;have i:=y.ev hf;generalize t:a.eval x=U at i;cases i with|aG h=>cases h|bf _ _ E F o=>have c:=HA (vs:=xs.toList.map a.eval++E) (W:=W) y b (by simp[B,F]) (fun j g v n b=>by rw[bZ] at n b;rw[aJ,<-B] at b;split at n;rename_i p;rw[if_pos p] at b;obtain⟨x,u,H⟩:=M j g n;rw[ao,u] at b;cases b;exact y.ev H;rename_i p;rw[if_neg p] at b;exact o _ g v n b) l m;unfold Oper.wp;have:=Cd (P:=P) (w:=w) (d:=d) (ty:=ty) (pos:=pos) (after:=after) (guard:=guard) (ts:=ts) hb I t;rw[this];refine c.mono ?_;rintro e R ⟨v,r,st',rfl,O,A,z,q⟩;exact J L _ _ R (A.put (D d rfl) z) ⟨r,st',O,rfl⟩ q
def NP{P:Program}{N:Nat}{W:List Nat}{b:bB S}(C:aO P b){s:ae S}{d:Nat}{vs caps:List (TV S)}{A:Type}{k:ae S->Option A}{r:A}(F:aQ s)(h:A6 b s d (vs++caps) k=some r){x:Operand}{xs:Array Operand}{ts:Array TypeId}{ty:TypeId}{pos:String}{after:Array Edge}{guard:Option (Nat×Bool)}(hx:cC s x=some (.bf b.f caps))(hb:vP b.f xs.toList=true)(z:u4 s xs.toList=some vs):∃T:St->Prop,cu P W s.er ⟨some d,.call ⟨.value x,xs,ts⟩,ty,pos,after,guard⟩ T/\∀j,T j->∃t:ae S,Gh j t.er/\aQ t/\bG s t/\k t=some r:=by
 unfold A6 at h;split at h;rename_i w;rw[ag] at w;obtain⟨v,n⟩:=w;obtain⟨G,D,y⟩:=z7 C v;split at h;rename_i I p;split at h;rename_i q H;obtain⟨c,B,E⟩:=bind_some h;have a:=(xx 1 (fun _=>0) G p []).2;rw[bR,<-il H,rR] at a;have l:∀j,(∃g o,(g=(om b.ay (leaves _ c)).er (fun _=>0)/\o=([]:List (Nat×aw)))/\j=s.er.put d g)->∃t:ae S,Gh j t.er/\aQ t/\bG s t/\k t=some r:=by intro j u;obtain⟨g,o,⟨i,_⟩,e⟩:=u;subst e;subst i;refine⟨_,?_,F.put d _,⟨rfl,rfl,rfl⟩,E⟩;rw[iT,L4 s.ln (fun _=>0) D];exact Gh.refl _
 cases m:sN b.ay with|true=>exact⟨_,EF.aaA (P:=P) (W:=W) 3 hb C.call (bi hx) (nJ z).2 a (y q c B) (fun g o i=>by rw[i.1];exact Kj m (DB c (vF v)) _),l⟩|false=>rw[m] at n;have f:=qn s.ln (vs++caps) n;rw[rR] at f;exact⟨_,EF.Z0 (P:=P) (W:=W) hb C.call (bi hx) (nJ z).2 (Au f a) (y q c B) (fun g o i=>⟨by rw[i.1];exact IH D (DB c (vF v)) _,i.2⟩),l⟩
 cases h;cases h;cases h
def aO.aaG{P:Program}{N fu:Nat}{H:List (Nat×Hint)}{cl:Cl S}{a:bB S}{fn:Func}{c:Code}(g:P.follows .mixedOrders=true)(e:Br P N cl)(hf:P.funcs[a.f]?=some fn)(b:∀args w,(callFunc a.f args).run P w=.ok (.enter a.f args) w)(hb:fn.body=some c)(j:fn.ntmps=N)(d:pL N a.args a.ay a.outs=true)(f:qw S N H (nk c 0)){mvs:List Nat}(h:∀q,FC P N fu H cl c mvs fn.results.toList a.args a.aR a.ay a.outs q=a.F q):aO P a:=⟨b,fun q r i=>Yi g e hf hb j d f ((h q).trans i)⟩
end
end Go.DN
