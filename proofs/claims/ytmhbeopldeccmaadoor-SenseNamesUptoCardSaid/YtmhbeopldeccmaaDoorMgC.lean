/-
  DN, first half: a typed interpreter over AM.
-/
import Derived.Test.YtmhbeopldeccmaaDoorMgI
import Derived.Test.YtmhbeopldeccmaaDoorMgF
set_option linter.unusedSectionVars false
set_option linter.unusedSimpArgs false
set_option linter.unusedVariables false
/-
 DN,part A:kinds of plain data,their encodings;typed values and states,and what they say of a state.
-/
namespace Go.DN
open Go.AM
structure kS where
 a:Int
 b:Int
 t:Nat
 f:List (Nat×List Int)
structure QU where
 n:Nat
 es:List kS
 pd:Option (Option (Nat×Nat)×Nat×List Int)
inductive Ty where
 | int (k:IntKind)
 | bool
 | str
 | list (t:Ty)
 | st (n:Nat)
 | map
 | cQ
 | pt (n:Nat)
 deriving DecidableEq
@[reducible] def Ty.den (α:Nat→Type):Ty→Type
 | .int _=>Int
 | .bool=>Bool
 | .str=>ByteArray
 | .list t=>List (t.den α)
 | .st n=>α n
 | .map=>QU
 | .cQ=>Bool
 | .pt n=>Option (α n)
def Ty.fq:Ty→Bool
 | .st _=>true
 | _=>false
def Ty.gW:Ty→Bool
 | .int _=>true
 | .bool=>true
 | .str=>true
 | _=>false
structure aY (α:Nat→Type) where
 τ:Ty
 a:τ.den α
def iN {α:Nat→Type}(τ' τ:Ty) (a:τ'.den α):Option (τ.den α):=if h:τ'=τ then some (h▸a) else none
theorem dW {α:Nat→Type}{τ' τ:Ty}{a:τ'.den α}{b:τ.den α}(h:iN τ' τ a=some b):(⟨τ',a⟩:aY α)=⟨τ,b⟩:=by
 unfold iN at h
 split at h
 ·rename_i e;subst e;cases h;rfl
 ·cases h
def xY {α:Nat→Type}(se:(n:Nat)→α n→List G):(τ:Ty)→τ.den α→List G
 | .int k,a=>[.val (.int k a)]
 | .bool,a=>[.val (.bool a)]
 | .str,a=>[.val (.string a)]
 | .list t,l=>[.sl (List.length l) (List.flatMap (xY se t) l)]
 | .st n,a=>se n a
 | .map,_=>[.val (.bool true)]
 | .cQ,b=>[.cQ b]
 | .pt n,o=>[match o with | none=>.val (.pointer none) | some a=>.ptr (se n a)]
structure QV where
 N:Nat
 aj:List Nat
 ps:Array Tmp
 LI:Code
 body:Code
 id:Nat
structure dr where
 tH:Bool:=false
 RC:TypeId→Option TypeId:=fun _=>none
 uv:Nat→QV:=fun _=>⟨0,[],#[],.skip,.skip,0⟩
 α:Nat→Type
 cg:Nat→List Ty
 cells:(n:Nat)→α n→List (aY α)
 put:(n:Nat)→List (aY α)→Option (α n)
 ft:(n:Nat)→α n→List G
 ty:TypeId→Option Nat
 N2:TypeId→Option Ty
 l7:∀n a,(cells n a).map aY.τ=cg n
 one:∀n t,t∈cg n→t.fq=false
 pos:∀n,cg n≠[]
 hU:∀n l a,put n l=some a→cells n a=l
 uJ:∀n a,ft n a=(cells n a).flatMap (fun x=>xY ft x.τ x.a)
section
variable (S:dr)
abbrev dr.D (τ:Ty):Type:=τ.den S.α
abbrev dr.L:Type:=aY S.α
abbrev aP (τ:Ty) (a:S.D τ):List G:=xY S.ft τ a
def dr.sz (τ:Ty):Nat:=match τ with | .st n=>(S.cg n).length | _=>1
theorem zV {τ:Ty}(h:τ.fq=false) (a:S.D τ):∃g,aP S τ a=[g]∧g.one=true:=by
 cases τ with
 | st n=>cases h
 | pt n=>cases a <;> exact⟨_,rfl,rfl⟩
 | _=>exact⟨_,rfl,rfl⟩
theorem nV:∀(l:List S.L),(∀t∈l.map aY.τ,t.fq=false)→(l.flatMap (fun x=>xY S.ft x.τ x.a)).length=l.length∧∀g∈l.flatMap (fun x=>xY S.ft x.τ x.a),g.one=true
 | [],_=>⟨rfl,fun g h=>by cases h⟩
 | x::r,h=>by
  obtain⟨i1,i2⟩:=nV r fun t ht=>h t (aw _ ht)
  obtain⟨g,hg,ho⟩:=zV S (τ:=x.τ) (h _ aC) x.a
  simp only[cP]
  constructor
  ·have:(xY S.ft x.τ x.a).length=1:=by show(aP S x.τ x.a).length=1;rw[hg];rfl
   simp[i1,this];omega
  ·intro g' hg'
   rcases mF.1 hg' with h1 | h1
   ·have h1:g'∈aP S x.τ x.a:=h1
    rw[hg] at h1;simp at h1;subst h1;exact ho
   ·exact i2 _ h1
theorem rm (τ:Ty) (a:S.D τ):(aP S τ a).length=S.sz τ:=by
 cases τ with
 | st n=>
  show(S.ft n a).length=(S.cg n).length
  have:=S.l7 n a
  rw[S.uJ n a,(nV S _ (fun t ht=>S.one n t (by rw[←this];exact ht))).1,←this,aU]
 | _=>rfl
theorem ES (τ:Ty):0<S.sz τ:=by
 cases τ with
 | st n=>exact List.length_pos_iff.2 (S.pos n)
 | _=>exact Nat.one_pos
theorem xZ (τ:Ty) (a:S.D τ):∀g∈aP S τ a,g.one=true:=by
 cases τ with
 | st n=>
  show ∀g∈S.ft n a,_
  have:=S.l7 n a
  rw[S.uJ n a]
  exact(nV S _ (fun t ht=>S.one n t (by rw[←this];exact ht))).2
 | _=>intro g hg;obtain⟨g',h1,h2⟩:=zV S (τ:=_) rfl a;rw[h1] at hg;simp at hg;subst hg;exact h2
@[reducible] def lX (τ:Ty):aO (S.D τ):=⟨S.sz τ,aP S τ,rm S τ,ES S τ,fun a=>xZ S τ a⟩
def da (τ:Ty) (a:S.D τ):G:=(aP S τ a).headD .any
theorem jB {τ:Ty}(h:τ.fq=false) (a:S.D τ):aP S τ a=[da S τ a]:=by
 obtain⟨g,hg,_⟩:=zV S h a
 unfold da
 rw[hg];rfl
theorem fZ (n:Nat) (a:S.α n):aP S (.st n) a=(S.cells n a).map fun x=>da S x.τ x.a:=by
 show S.ft n a=_
 have h0:=S.l7 n a
 have h1:∀t∈(S.cells n a).map aY.τ,t.fq=false:=fun t ht=>S.one n t (by rw[←h0];exact ht)
 rw[S.uJ n a]
 generalize S.cells n a=l at h1
 induction l with
 | nil=>rfl
 | cons x r ih=>
  simp only[cP,az]
  rw[ih fun t ht=>h1 t (aw _ ht)]
  have:=jB S (τ:=x.τ) (h1 _ aC) x.a
  show aP S x.τ x.a++_=_
  rw[this];rfl
end
inductive TV (S:dr) where
 | ae (f:Bool) (τ:Ty) (a:τ.den S.α)
 | ptr (f:Bool) (τ:Ty) (a:τ.den S.α)
 | agg (l:List (TV S))
 | aT (l:List (TV S))
 | loc (h off:Nat)
 | ia (h:Nat) (τ:Ty) (i j:Nat)
 | aM (h:Nat) (τ:Ty)
 | sub (h:Nat) (τ:Ty) (o n:Nat)
 | aR (f:FuncId) (caps:List (TV S))
 | cT (h:Nat)
 | mp (h:Nat)
 | ks (h:Nat) (τ:Ty) (i n:Nat)
 | kp (h:Nat) (τ:Ty) (i j:Nat)
 | gH (b:Bool) (h:Nat) (τ:Ty) (i j:Nat)
 | bP (b:Bool) (h off:Nat)
 | val (v:Value)
 | any
inductive Dk where
 | tH (kty:TypeId)
 | rows (kty:TypeId) (ho:Option Nat)
 | map (q:IntKind) (kty tty:TypeId)
 | sm
 deriving DecidableEq
inductive TO (S:dr) where
 | box (bs:TypeId) (dC:Bool) (cs:List (TV S))
 | arr (bs:TypeId) (dC fresh:Bool) (τ:Ty) (l:List (τ.den S.α))
 | lp (key:Nat) (n:Int) (cs:List (TV S))
 | deep (bs:TypeId) (dC fresh:Bool) (dk:Dk) (τ:Ty) (a:τ.den S.α)
structure ag (S:dr) where
 fr:List (Nat×TV S)
 lo:List (Nat×TV S)
 st:List (Nat×TO S)
 bF:List (Nat×TO S)
 df:List (TV S)
 nx:Nat
 last:List (Nat×Nat×aY S.α)
section
variable {S:dr}
def dc (f:Bool) (g:G):G:=bif f then zd g else g
def nh (f:Bool) (τ:Ty) (a:S.D τ):G:=
 match τ with
 | .st n=>.agg ((aP S (.st n) a).map (dc f))
 | τ=>dc f (da S τ a)
def My (f:Bool) (τ:Ty) (a:S.D τ):G:=bif f then .fr (.ptr (aP S τ a)) else .ptr (aP S τ a)
def TV.er (ln:Nat→Nat):TV S→G
 | .ae f τ a=>nh f τ a
 | .ptr f τ a=>My f τ a
 | .agg l=>.agg (go ln l)
 | .aT l=>.aT (go ln l)
 | .loc h off=>.loc h off
 | .ia h τ i j=>.loc h (i*S.sz τ+j)
 | .aM h τ=>.aM h (S.sz τ) 0 (ln h)
 | .sub h τ o n=>.aM h (S.sz τ) (o*S.sz τ) n
 | .aR f caps=>.aR f (go ln caps)
 | .cT h=>.cT h
 | .mp h=>.eY h
 | .ks h τ i n=>.ks h i (S.sz τ) n
 | .kp h τ i j=>.kp h i (j*S.sz τ)
 | .gH b h τ i j=>bif b then .val (.pointer none) else .kp h i (j*S.sz τ)
 | .bP b h off=>bif b then .val (.pointer none) else .loc h off
 | .val v=>.val v
 | .any=>.any
where go (ln:Nat→Nat):List (TV S)→List G
 | []=>[]
 | x::r=>x.er ln::go ln r
theorem cS (ln:Nat→Nat) (l:List (TV S)):TV.er.go ln l=l.map (TV.er ln):=by
 induction l with
 | nil=>rfl
 | cons x r ih=>simp only[TV.er.go,az,ih]
def RO (id:Nat) (n:Int):Option Code:=bif n==0 then none else bif n==1 then some (.exit id) else some .ret
def dr.lp (S:dr) (key:Nat) (n:Int):Lp:=⟨0,(S.uv key).N,(S.uv key).aj,(S.uv key).ps,(S.uv key).LI,(S.uv key).body,RO (S.uv key).id n⟩
def uS:(τ:Ty)→S.D τ→Nat
 | .list _,l=>List.length l
 | _,_=>0
def TO.len:TO S→Nat
 | .arr _ _ _ _ l=>l.length
 | .deep _ _ _ _ τ a=>uS τ a
 | _=>0
def j0:(τ:Ty)→S.D τ→Nat×List (Nat×List G)
 | .list (.list t),ll=>(S.sz t,List.map (fun l=>(List.length l,List.flatMap (aP S t) l)) ll)
 | _,_=>(1,[])
def RB:aY S.α→Nat×List G
 | ⟨.list t,l⟩=>(List.length l,List.flatMap (aP S t) l)
 | _=>(0,[])
def Q2:List Ty→Nat
 | .list t::_=>S.sz t
 | _=>1
def Ee:(τ:Ty)→S.D τ→Nat×Nat×List (Nat×List G)
 | .list (.st n),l=>(Q2 (S:=S) (S.cg n),(S.cg n).length,List.flatMap (fun a=>(S.cells n a).map RB) l)
 | _,_=>(1,1,[])
def nU (q:IntKind) (l:List Int):List G:=l.map fun x=>.val (.int q x)
def kS.me (q:IntKind) (e:kS):ME:=⟨(e.a,e.b),e.t,e.f.map fun p=>(p.1,nU q p.2)⟩
def mapOf:(τ:Ty)→S.D τ→QU
 | .map,d=>d
 | _,_=>⟨0,[],none⟩
def KF (q:IntKind):Option (Option (Nat×Nat)×Nat×List Int)→Option (Option (Nat×Nat)×Nat×List G)
 | some (s,x,l)=>some (s,x,nU q l)
 | none=>none
def pF (l:List (aY S.α)):ByteArray×G:=match l with
 | [⟨.str,k⟩,⟨τ,v⟩]=>(k,da S τ v)
 | _=>(ByteArray.mk #[],.any)
def o8:(τ:Ty)→S.D τ→List (ByteArray×G)
 | .st n0,a0=>match S.cells n0 a0 with
  | [⟨.list (.st n),l⟩]=>List.map (fun a=>pF (S.cells n a)) l
  | _=>[]
 | _,_=>[]
def Dk.dp (e:TypeId) (τ:Ty) (a:S.D τ):Dk→Dp
 | .tH kty=>rF e kty (j0 τ a).1 (j0 τ a).2
 | .rows kty ho=>P4 e kty (Ee τ a).1 (Ee τ a).2.1 (Ee τ a).2.2 ho
 | .map q kty tty=>AS q kty tty (mapOf τ a).n ((mapOf τ a).es.map (kS.me q)) (KF q (mapOf τ a).pd)
 | .sm=>uV Value.string (o8 τ a)
def TO.er (ln:Nat→Nat):TO S→aq
 | .box e m cs=>⟨e,false,m,false,0,TV.er.go ln cs,none⟩
 | .arr e m f τ l=>⟨e,true,m,f,S.sz τ,List.flatMap (aP S τ) l,none⟩
 | .lp key n cs=>⟨0,false,false,false,0,TV.er.go ln cs,some (.loop (S.lp key n))⟩
 | .deep e m f dk τ a=>⟨e,true,m,f,1,[],some (.deep (dk.dp e τ a))⟩
def bd:List (Nat×TV S)→Nat→Option (TV S)
 | [],_=>none
 | (k,g)::r,t=>bif Nat.beq k t then some g else bd r t
def aA:List (Nat×TO S)→Nat→Option (TO S)
 | [],_=>none
 | (k,g)::r,t=>bif Nat.beq k t then some g else aA r t
def bG (st:List (Nat×TO S)) (h:Nat):Nat:=match aA st h with | some o=>o.len | none=>0
def jq (ln:Nat→Nat):List (Nat×TV S)→List (Nat×G)
 | []=>[]
 | (t,v)::r=>(t,v.er ln)::jq ln r
def bA (ln:Nat→Nat):List (Nat×TO S)→List (Nat×aq)
 | []=>[]
 | (t,o)::r=>(t,o.er ln)::bA ln r
def ag.bN (s:ag S):List (Nat×TV S):=s.fr++s.lo
def ag.a7 (s:ag S):List (Nat×TO S):=s.st++s.bF
def ag.ln (s:ag S):Nat→Nat:=bG s.a7
def ag.er (s:ag S):St:=⟨jq s.ln s.bN,bA s.ln s.a7,TV.er.go s.ln s.df⟩
structure bj (s t:ag S):Prop where
 lo:t.lo=s.lo
 bF:t.bF=s.bF
 df:t.df=s.df
theorem bj.refl (s:ag S):bj s s:=⟨rfl,rfl,rfl⟩
theorem bj.trans {a b c:ag S}(h:bj a b) (h':bj b c):bj a c:=⟨h'.lo.trans h.lo,h'.bF.trans h.bF,h'.df.trans h.df⟩
theorem fe {ln:Nat→Nat}:∀{fr:List (Nat×TV S)}{t:Nat}{v:TV S},bd fr t=some v→get (jq ln fr) t=some (v.er ln)
 | [],_,_,h=>by cases h
 | (k,g)::r,t,v,h=>by
  simp only[bd] at h
  simp only[jq,AM.get]
  cases hk:Nat.beq k t with
  | true=>rw[hk] at h;cases h;rfl
  | false=>rw[hk] at h;exact fe h
theorem jA {ln:Nat→Nat}:∀{st:List (Nat×TO S)}{t:Nat}{o:TO S},aA st t=some o→ay (bA ln st) t=some (o.er ln)
 | [],_,_,h=>by cases h
 | (k,g)::r,t,v,h=>by
  simp only[aA] at h
  simp only[bA,ay]
  cases hk:Nat.beq k t with
  | true=>rw[hk] at h;cases h;rfl
  | false=>rw[hk] at h;exact jA h
def tj:Value→TV S
 | .int k n=>.ae true (.int k) n
 | .bool b=>.ae true .bool b
 | .string s=>.ae true .str s
 | v=>.val v
theorem EK (ln:Nat→Nat) (v:Value):(tj v:TV S).er ln=.val v:=by cases v <;> rfl
def cq (s:ag S):Operand→Option (TV S)
 | .tmp t=>bd s.bN t
 | .const v=>some (tj v)
 | .func f=>some (.aR f [])
 | .global _=>none
theorem bc {s:ag S}{x:Operand}{v:TV S}(h:cq s x=some v):ev s.er x=some (v.er s.ln):=by
 cases x with
 | tmp t=>exact fe h
 | const v'=>cases h;simp only[ev,EK]
 | func f=>cases h;rfl
 | global _=>cases h
def E9 (d:Nat):List (Nat×Nat×aY S.α)→List (Nat×Nat×aY S.α)
 | []=>[]
 | x::r=>bif Nat.beq x.1 d then E9 d r else x::E9 d r
def vb (h:Nat):List (Nat×Nat×aY S.α)→List (Nat×Nat×aY S.α)
 | []=>[]
 | x::r=>bif Nat.beq x.2.1 h then vb h r else x::vb h r
theorem B8 {d:Nat}{y:Nat×Nat×aY S.α}:∀{l:List (Nat×Nat×aY S.α)},y∈E9 d l→y∈l∧y.1≠d
 | [],h=>by cases h
 | x::r,h=>by
  simp only[E9] at h
  cases hb:Nat.beq x.1 d with
  | true=>rw[hb] at h;obtain⟨h1,h2⟩:=B8 h;exact⟨aw _ h1,h2⟩
  | false=>
   rw[hb] at h
   rcases bU.1 h with e | h
   ·subst e
    exact⟨aC,fun e=>by rw[e,aK] at hb;cases hb⟩
   ·obtain⟨h1,h2⟩:=B8 h;exact⟨aw _ h1,h2⟩
theorem sW {d:Nat}{y:Nat×Nat×aY S.α}:∀{l:List (Nat×Nat×aY S.α)},y∈vb d l→y∈l∧y.2.1≠d
 | [],h=>by cases h
 | x::r,h=>by
  simp only[vb] at h
  cases hb:Nat.beq x.2.1 d with
  | true=>rw[hb] at h;obtain⟨h1,h2⟩:=sW h;exact⟨aw _ h1,h2⟩
  | false=>
   rw[hb] at h
   rcases bU.1 h with e | h
   ·subst e
    exact⟨aC,fun e=>by rw[e,aK] at hb;cases hb⟩
   ·obtain⟨h1,h2⟩:=sW h;exact⟨aw _ h1,h2⟩
def ag.put (s:ag S) (d:Nat) (v:TV S):ag S:={s with fr:=(d,v)::s.fr,last:=E9 d s.last}
def aJ (s:ag S):Prop:=∀d h x,(d,h,x)∈s.last→∃i bs m f τ l a,bd s.bN d=some (.ia h τ i 0)∧aA s.a7 h=some (.arr bs m f τ l)∧x=⟨τ,a⟩∧l[i]?=some a
theorem Ap {d t:Nat}(v:TV S) (fr:List (Nat×TV S)) (h:t≠d):bd ((d,v)::fr) t=bd fr t:=by
 simp only[bd]
 cases hb:Nat.beq d t with
 | true=>exact absurd (ab hb).symm h
 | false=>rfl
theorem aJ.put {s:ag S}(h:aJ s) (d:Nat) (v:TV S):aJ (s.put d v):=by
 intro d' hh x hm
 obtain⟨h1,h2⟩:=B8 hm
 obtain⟨i,bs,m,f,τ,l,a,e1,e2⟩:=h d' hh x h1
 exact⟨i,bs,m,f,τ,l,a,(Ap v s.bN h2).trans e1,e2⟩
theorem hP (s:ag S) (d:Nat) (v:TV S):(s.put d v).er=s.er.put d (v.er s.ln):=rfl
end
end Go.DN
/-
 DN,part B:operations that yield a value and leave the world alone.
-/
namespace Go.DN
open Go.AM
section
variable {S:dr}
def nc (P:Program) (t:TypeId):Option Nat:=(P.info? t).map (·.size)
def CO (P:Program) (t:TypeId):Option Bool:=match P.underlying t with
 | some (.struct _)=>some true
 | some (.array _ _)=>some true
 | some _=>some false
 | none=>none
theorem cD {P:Program}{t:TypeId}{n:Nat}(h:nc P t=some n):∀w,(sizeOf t).run P w=.ok n w:=by
 intro w
 unfold nc at h
 obtain⟨i,h1,h2⟩:=au.1 h
 subst h2
 simp[sizeOf,typeInfo,h1]
theorem eS {P:Program}{t:TypeId}{b:Bool}(h:CO P t=some b):∀w,(isAgg t).run P w=.ok b w:=by
 intro w
 unfold CO at h
 cases hu:P.underlying t with
 | none=>rw[hu] at h;cases h
 | some d=>rw[hu] at h;cases d <;> cases h <;> simp[isAgg,underlying,hu]
def NO (op:BinOp) (k:IntKind) (a b:Int):Option (TV S):=
 match op with
 | .add=>some (.ae true (.int k) (k.wrap (a+b)))
 | .sub=>some (.ae true (.int k) (k.wrap (a-b)))
 | .mul=>some (.ae true (.int k) (k.wrap (a*b)))
 | .eql=>some (.ae true .bool (a==b))
 | .neq=>some (.ae true .bool (a !=b))
 | .lss=>some (.ae true .bool (decide (a<b)))
 | .leq=>some (.ae true .bool (decide (a≤b)))
 | .gtr=>some (.ae true .bool (decide (a>b)))
 | .geq=>some (.ae true .bool (decide (a≥b)))
 | .and=>some (.ae true (.int k) (k.wrap ((BitVec.ofInt k.bits a &&& BitVec.ofInt k.bits b).toNat:Int)))
 | .or=>some (.ae true (.int k) (k.wrap ((BitVec.ofInt k.bits a ||| BitVec.ofInt k.bits b).toNat:Int)))
 | _=>none
theorem PF {op:BinOp}{k:IntKind}{a b:Int}{v:TV S}(h:NO op k a b=some v) (ln:Nat→Nat):∃r,v.er ln=.val r∧Ad op (.int k a) (.int k b)=some r:=by
 cases op <;> simp only[NO] at h <;> cases h <;> exact⟨_,rfl,by simp[Ad]⟩
def NN (op:BinOp) (a b:ByteArray):Option (TV S):=
 match op with
 | .eql=>some (.ae true .bool (a.toList==b.toList))
 | .neq=>some (.ae true .bool (!(a.toList==b.toList)))
 | .lss=>some (.ae true .bool (Op.bytesLess a.toList b.toList))
 | _=>none
theorem PE {op:BinOp}{a b:ByteArray}{v:TV S}(h:NN op a b=some v) (ln:Nat→Nat):∃r,v.er ln=.val r∧Ad op (.string a) (.string b)=some r:=by
 cases op <;> simp only[NN] at h <;> cases h <;> exact⟨_,rfl,by simp[Ad]⟩
def A6 (ki:IntKind):List (aY S.α)→Option (List Int)
 | []=>some []
 | ⟨.int k,a⟩::r=>match decEq k ki with
  | isTrue _=>match A6 ki r with
   | some l=>some (a::l)
   | none=>none
  | isFalse _=>none
 | _=>none
theorem FZ {ki:IntKind}:∀{l:List (aY S.α)}{xs:List Int},A6 ki l=some xs→(l.map fun x=>da S x.τ x.a)=xs.map fun a=>.val (.int ki a)
 | [],_,h=>by cases h;rfl
 | ⟨.int k,a⟩::r,xs,h=>by
  simp only[A6] at h
  split at h
  ·rename_i e _
   subst e
   split at h
   ·rename_i l hl
    cases h
    rw[az,az,FZ hl]
    rfl
   ·cases h
  ·cases h
 | ⟨.bool,_⟩::_,_,h=>by cases h
 | ⟨.cQ,_⟩::_,_,h=>by cases h
 | ⟨.pt _,_⟩::_,_,h=>by cases h
 | ⟨.str,_⟩::_,_,h=>by cases h
 | ⟨.list _,_⟩::_,_,h=>by cases h
 | ⟨.st _,_⟩::_,_,h=>by cases h
theorem Pq {f:Bool}{n:Nat}{a:S.α n}{ki:IntKind}{xs:List Int}(h:A6 ki (S.cells n a)=some xs) (ln:Nat→Nat):(TV.ae f (.st n) a:TV S).er ln=.agg (xs.map fun a=>.val (.int ki a)):=by
 show G.agg ((aP S (.st n) a).map (dc f))=_
 rw[fZ,FZ h,gS]
 congr 1
 refine fB fun x _=>?_
 cases f <;> rfl
def El (ki:IntKind):List (TV S)→Option (List Int)
 | []=>some []
 | .ae _ (.int k) a::r=>match decEq k ki with
  | isTrue _=>match El ki r with
   | some l=>some (a::l)
   | none=>none
  | isFalse _=>none
 | _::_=>none
theorem FY {ki:IntKind}(ln:Nat→Nat):∀{l:List (TV S)}{xs:List Int},El ki l=some xs→TV.er.go ln l=xs.map fun a=>.val (.int ki a)
 | [],_,h=>by cases h;rfl
 | v::r,xs,h=>by
  unfold El at h
  split at h
  ·rename_i e;cases e
  ·rename_i f k a r' e
   cases e
   split at h
   ·rename_i e _
    subst e
    split at h
    ·rename_i l hl
     cases h
     simp only[TV.er.go,FY ln hl,az]
     congr 1
     cases f <;> rfl
    ·cases h
   ·cases h
  ·cases h
def JK (ki:IntKind):TV S→Option (List Int)
 | .ae _ (.st n) a=>A6 ki (S.cells n a)
 | .agg vs=>El ki vs
 | _=>none
theorem H2 {ki:IntKind}{v:TV S}{xs:List Int}(h:JK ki v=some xs) (ln:Nat→Nat):v.er ln=.agg (xs.map fun a=>.val (.int ki a)):=by
 unfold JK at h
 split at h
 ·exact Pq h ln
 ·exact congrArg G.agg (FY ln h)
 ·cases h
def NQ (P:Program) (op:BinOp) (t:TypeId) (x y:TV S){A:Type}(k:TV S→Option A):Option A:=
 match op with
 | .eql=>match P.underlying t with
  | some (.array len e)=>match P.underlying e with
   | some (.int ki)=>match JK ki x with
    | some xs=>match JK ki y with
     | some ys=>match decEq (nc P e) (some 1) with
      | isTrue _=>match !(P.eqGuardType P.depth t)&&(Nat.beq xs.length len&&Nat.beq ys.length len) with
       | true=>k (.ae true .bool (Bk xs ys))
       | false=>none
      | isFalse _=>none
     | none=>none
    | none=>none
   | _=>none
  | _=>none
 | _=>none
def Iy:(τ:Ty)→S.D τ→Option Value
 | .int k,a=>some (.int k a)
 | .bool,a=>some (.bool a)
 | .str,a=>some (.string a)
 | _,_=>none
theorem E3:∀{τ:Ty}{a:S.D τ}{v:Value},Iy τ a=some v→∀f,dc f (da S τ a)=.val v∧nh f τ a=.val v
 | .int k,a,_,h,f=>by cases h;cases f <;> exact⟨rfl,rfl⟩
 | .bool,a,_,h,f=>by cases h;cases f <;> exact⟨rfl,rfl⟩
 | .str,a,_,h,f=>by cases h;cases f <;> exact⟨rfl,rfl⟩
 | .list _,_,_,h,_=>by cases h
 | .st _,_,_,h,_=>by cases h
 | .map,_,_,h,_=>by cases h
 | .cQ,_,_,h,_=>by cases h
 | .pt _,_,_,h,_=>by cases h
def Iz:List (aY S.α)→Option (List Value)
 | []=>some []
 | x::r=>match Iy x.τ x.a,Iz r with
  | some v,some l=>some (v::l)
  | _,_=>none
def E4:List (TV S)→Option (List Value)
 | []=>some []
 | .ae _ τ a::r=>match Iy τ a,E4 r with
  | some v,some l=>some (v::l)
  | _,_=>none
 | _::_=>none
def N3:TV S→Option (List Value)
 | .ae _ (.st n) a=>Iz (S.cells n a)
 | .agg vs=>E4 vs
 | _=>none
theorem Kj {v:TV S}{us:List Value}(h:N3 v=some us) (ln:Nat→Nat):v.er ln=.agg (us.map .val):=by
 unfold N3 at h
 split at h
 ·rename_i f n a
  show G.agg ((aP S (.st n) a).map (dc f))=_
  rw[fZ,gS]
  congr 1
  generalize S.cells n a=l at h
  induction l generalizing us with
  | nil=>cases h;rfl
  | cons x r ih=>
   simp only[Iz] at h
   split at h
   ·rename_i hv hl
    cases h
    rw[az,az,←ih hl]
    congr 1
    exact(E3 hv f).1
   ·cases h
 ·rename_i vs
  refine congrArg G.agg ?_
  induction vs generalizing us with
  | nil=>cases h;rfl
  | cons x r ih=>
   unfold E4 at h
   split at h
   ·rename_i e;cases e
   ·rename_i f τ a r' e
    cases e
    split at h
    ·rename_i hv hl
     cases h
     simp only[TV.er.go,az,←ih hl]
     congr 1
     exact(E3 hv f).2
    ·cases h
   ·cases h
 ·cases h
def dQ (P:Program) (op:BinOp) (t:TypeId) (x y:TV S){A:Type}(k:TV S→Option A):Option A:=
 match P.underlying t with
 | some (.struct fs)=>match N3 x with
  | some us=>match N3 y with
   | some vs=>match CD P fs.toList us vs with
    | some b=>match !(P.stoodInHeld t)&&!(P.eqGuardType P.depth t) with
     | true=>match op with
      | .eql=>k (.ae true .bool b)
      | .neq=>k (.ae true .bool (!b))
      | _=>none
     | false=>none
    | none=>none
   | none=>none
  | none=>none
 | _=>none
def On (P:Program) (op:BinOp) (t:TypeId) (x y:TV S){A:Type}(k:TV S→Option A):Option A:=
 match P.underlying t with
 | some (.struct _)=>dQ P op t x y k
 | _=>NQ P op t x y k
def NP (P:Program) (op:BinOp) (t:TypeId) (x y:TV S){A:Type}(k:TV S→Option A):Option A:=
 match x with
 | .ae _ (.int ka) a=>match y with
  | .ae _ (.int kb) b=>match op with
   | .quo=>match decEq ka kb with
    | isTrue _=>(cj (b≠0)).bind fun _=>k (.ae true (.int ka) (ka.wrap (Int.tdiv a b)))
    | isFalse _=>none
   | .rem=>match decEq ka kb with
    | isTrue _=>(cj (b≠0)).bind fun _=>k (.ae true (.int ka) (Int.tmod a b))
    | isFalse _=>none
   | .shr=>(cj (0≤b)).bind fun _=>k (.ae true (.int ka) (Int.fdiv a (2^(min (Int.toNat b) ka.bits))))
   | .shl=>(cj (0≤b)).bind fun _=>k (.ae true (.int ka) (ka.wrap (a*2^(min (Int.toNat b) ka.bits))))
   | op=>match decEq ka kb with
    | isTrue _=>match NO op ka a b with
     | some v=>k v
     | none=>none
    | isFalse _=>none
  | _=>none
 | .ae _ .str a=>match y with
  | .ae _ .str b=>match op with
   | .add=>(cj (((a.size+b.size:Nat):Int)≤9223372036854775807)).bind fun _=>k (.ae true .str (a++b))
   | op=>match NN op a b with
    | some v=>k v
    | none=>none
  | _=>none
 | .ae _ .bool a=>match y with
  | .ae _ .bool b=>match P.underlying t with
   | some .bool=>match op with
    | .eql=>k (.ae true .bool (a==b))
    | .neq=>k (.ae true .bool (!(a==b)))
    | _=>none
   | _=>none
  | _=>none
 | .ae f (.st n) a=>On P op t (.ae f (.st n) a) y k
 | .agg vs=>On P op t (.agg vs) y k
 | _=>none
section
variable {P:Program}{s:ag S}{dst:Option Tmp}{ty:TypeId}{pos:String}{after:Array Edge}{guard:Option (Nat×Bool)}
theorem tP (f:Bool) (k:IntKind) (a:Int):nh (S:=S) f (.int k) a=.val (.int k a):=by cases f <;> rfl
theorem gJ (f:Bool) (a:Bool):nh (S:=S) f .bool a=.val (.bool a):=by cases f <;> rfl
theorem Nu (f:Bool) (a:ByteArray):nh (S:=S) f .str a=.val (.string a):=by cases f <;> rfl
theorem kO {x:Operand}{f:Bool}{k:IntKind}{a:Int}(h:cq s x=some (.ae f (.int k) a)):ev s.er x=some (.val (.int k a)):=by rw[bc h];exact congrArg some (tP f k a)
theorem Ge {x:Operand}{f:Bool}{a:Bool}(h:cq s x=some (.ae f .bool a)):ev s.er x=some (.val (.bool a)):=by rw[bc h];exact congrArg some (gJ f a)
theorem zi {x:Operand}{f:Bool}{a:ByteArray}(h:cq s x=some (.ae f .str a)):ev s.er x=some (.val (.string a)):=by rw[bc h];exact congrArg some (Nu f a)
theorem PL {op:BinOp}{t t':TypeId}{x y:Operand}{vx vy:TV S}{A:Type}{k:TV S→Option A}{r:A}(hx:cq s x=some vx) (hy:cq s y=some vy) (h:NQ P op t vx vy k=some r):
  ∃v,PY P s.er ⟨dst,.binOp op t x y t',ty,pos,after,guard⟩ (v.er s.ln)∧k v=some r:=by
 unfold NQ at h
 split at h
 ·split at h
  ·rename_i hu
   split at h
   ·rename_i hue
    split at h
    ·rename_i hxs
     split at h
     ·rename_i hys
      split at h
      ·rename_i hz _
       split at h
       ·rename_i hc
        simp only[ah,aZ] at hc
        obtain⟨c1,c2,c3⟩:=hc
        exact⟨_,PY.Rr (by rw[bc hx,H2 hxs]) (by rw[bc hy,H2 hys]) hu hue (cD hz) (ab c2) (ab c3) c1,h⟩
       ·cases h
      ·cases h
     ·cases h
    ·cases h
   ·cases h
  ·cases h
 ·cases h
theorem Lh {op:BinOp}{t t':TypeId}{x y:Operand}{vx vy:TV S}{A:Type}{k:TV S→Option A}{r:A}(hx:cq s x=some vx) (hy:cq s y=some vy) (h:On P op t vx vy k=some r):
  ∃v,PY P s.er ⟨dst,.binOp op t x y t',ty,pos,after,guard⟩ (v.er s.ln)∧k v=some r:=by
 unfold On at h
 split at h
 ·unfold dQ at h
  split at h
  ·rename_i hu
   split at h
   ·rename_i hxs
    split at h
    ·rename_i hys
     split at h
     ·rename_i b hb
      split at h
      ·rename_i hc
       simp only[ah,aZ] at hc
       have:=PY.RA (s:=s.er) (dst:=dst) (ty:=ty) (pos:=pos) (after:=after) (guard:=guard) (t':=t') (by rw[bc hx,Kj hxs]) (by rw[bc hy,Kj hys]) hu hc.1 hc.2 hb
       split at h
       ·exact⟨.ae true .bool b,this.1,h⟩
       ·exact⟨.ae true .bool (!b),this.2,h⟩
       ·cases h
      ·cases h
     ·cases h
    ·cases h
   ·cases h
  ·cases h
 ·exact PL hx hy h
theorem PG {op:BinOp}{t t':TypeId}{x y:Operand}{vx vy:TV S}{A:Type}{k:TV S→Option A}{r:A}(hx:cq s x=some vx) (hy:cq s y=some vy) (h:NP P op t vx vy k=some r):
  ∃v,PY P s.er ⟨dst,.binOp op t x y t',ty,pos,after,guard⟩ (v.er s.ln)∧k v=some r:=by
 unfold NP at h
 split at h
 ·split at h
  ·rename_i fa ka a fb kb b
   have e1:=kO hx
   have e2:=kO hy
   split at h
   ·split at h
    ·rename_i _ e _
     subst e
     obtain⟨u,hu,h⟩:=bind_some h
     exact⟨_,PY.quo e1 e2 (cO hu),h⟩
    ·cases h
   ·split at h
    ·rename_i _ e _
     subst e
     obtain⟨u,hu,h⟩:=bind_some h
     exact⟨_,PY.rem e1 e2 (cO hu),h⟩
    ·cases h
   ·obtain⟨u,hu,h⟩:=bind_some h
    exact⟨_,PY.shr e1 e2 (cO hu),h⟩
   ·obtain⟨u,hu,h⟩:=bind_some h
    exact⟨_,PY.shl e1 e2 (cO hu),h⟩
   ·split at h
    ·rename_i e _
     subst e
     split at h
     ·rename_i v hv
      obtain⟨w,h1,h2⟩:=PF hv s.ln
      exact⟨v,by rw[h1];exact PY.bin e1 e2 h2,h⟩
     ·cases h
    ·cases h
  ·cases h
 ·split at h
  ·split at h
   ·obtain⟨u,hu,h⟩:=bind_some h
    exact⟨_,PY.cat (zi hx) (zi hy) (cO hu),h⟩
   ·split at h
    ·rename_i v hv
     obtain⟨w,h1,h2⟩:=PE hv s.ln
     exact⟨v,by rw[h1];exact PY.bin (zi hx) (zi hy) h2,h⟩
    ·cases h
  ·cases h
 ·split at h
  ·split at h
   ·rename_i hu
    split at h
    ·exact⟨_,PY.Se (Ge hx) (Ge hy) hu,h⟩
    ·exact⟨_,PY.R9 (Ge hx) (Ge hy) hu,h⟩
    ·cases h
   ·cases h
  ·cases h
 ·exact Lh hx hy h
 ·exact Lh hx hy h
 ·cases h
end
end
end Go.DN
/-
 DN,part C:more operations that yield a value;a value seen as plain data.
-/
namespace Go.DN
open Go.AM
def RW (g g':G):Prop:=∀(O:Nat→Prop) (base:Nat) (w:World) (μ:Mu) (v:Value),aN O base w μ g v→aN O base w μ g' v
theorem RW.refl (g:G):RW g g:=fun _ _ _ _ _ h=>h
theorem RW.trans {a b c:G}(h:RW a b) (h':RW b c):RW a c:=fun _ _ _ _ _ x=>h' _ _ _ _ _ (h _ _ _ _ _ x)
theorem PY.rw {P:Program}{s:St}{o:Oper}{g g':G}(h:PY P s o g) (hw:RW g g'):PY P s o g':=fun N cx μ a w hr=>
 let ⟨v,h1,h2⟩:=h N cx μ a w hr
 ⟨v,hw _ _ _ _ _ h1,h2⟩
theorem bp.tw {O:Nat→Prop}{w:World}{cs:List G}{v:Value}(n:Nat) (h:bp O w (.ptr cs) v):bp O w (.ptr (cs.take n)) v:=by
 cases h with
 | ptr _ b off us h1 h2 h3 h4=>
  refine .ptr _ b off us h1 h2 (fun j hj=>h3 j ?_) (fun j g hg=>h4 j g ?_)
  ·rw[bH] at hj;omega
  ·rw[bg] at hg;split at hg
   ·exact hg
   ·cases hg
def Cb (f:Bool) (cs:List G):G:=bif f then .fr (.ptr cs) else .ptr cs
theorem RW.tw (f:Bool) (cs:List G) (n:Nat):RW (Cb f cs) (Cb f (cs.take n)):=by
 intro O base w μ v h
 cases f with
 | true=>cases h with
  | aD h=>cases h
  | fr h=>exact .fr (bp.tw n h)
 | false=>cases h with
  | aD h=>exact .aD (bp.tw n h)
theorem RW.nil:RW (.val (.slice none 0 0)) (.fr (.sl 0 [])):=by
 intro O base w μ v h
 cases h with
 | aD h=>cases h;exact .fr .nil
theorem RW.PR (g:G):RW (zd g) g:=by
 intro O base w μ v h
 cases g <;> first | exact h | (cases h with
  | aD h=>cases h
  | fr h=>exact .aD h.Hv)
theorem RW.dc (f f':Bool) (g:G) (h:f'=true→f=true):RW (DN.dc f g) (DN.dc f' g):=by
 cases f with
 | true=>cases f' with
  | true=>exact RW.refl _
  | false=>exact RW.PR g
 | false=>cases f' with
  | true=>cases h rfl
  | false=>exact RW.refl _
theorem RW.agg {gs gs':List G}(hl:gs'.length=gs.length) (h:∀(j:Nat) (g':G),gs'[j]?=some g'→∃g,gs[j]?=some g∧RW g g'):RW (.agg gs) (.agg gs'):=by
 intro O base w μ v hv
 cases hv with
 | aD hv=>cases hv with
  | agg _ us h1 h2=>exact .agg _ us (h1.trans hl.symm) fun j g' v hg' hv=>(by
    obtain⟨g,hg,hw⟩:=h j g' hg'
    exact hw _ _ _ _ _ (.aD (h2 j g v hg hv)))
 | agg _ us h1 h2=>exact .agg _ us (h1.trans hl.symm) fun j g' v hg' hv=>(by
   obtain⟨g,hg,hw⟩:=h j g' hg'
   exact hw _ _ _ _ _ (h2 j g v hg hv))
section
variable {S:dr}
def nK (τ:Ty):TV S→Option (Bool×S.D τ)
 | .ae f τ' a=>match τ'.fq with
  | true=>none
  | false=>match iN τ' τ a with
   | some b=>some (f||τ.gW,b)
   | none=>none
 | .val (.slice none 0 0)=>match τ with
  | .list _=>some (true,[])
  | _=>none
 | .val (.pointer none)=>match τ with
  | .pt n=>some (true,(none:Option (S.α n)))
  | _=>none
 | _=>none
theorem B3 {τ:Ty}{v:TV S}{f:Bool}{a:S.D τ}(h:nK τ v=some (f,a)) (ln:Nat→Nat):τ.fq=false∧RW (v.er ln) (dc f (da S τ a)):=by
 unfold nK at h
 split at h
 ·rename_i f' τ' a'
  split at h
  ·cases h
  ·rename_i h1
   split at h
   ·rename_i b hb
    cases h
    have:=dW hb
    cases this
    refine⟨h1,?_⟩
    cases τ with
    | st n=>cases h1
    | _=>cases f' <;> exact RW.refl _
   ·cases h
 ·split at h
  ·cases h
   exact⟨rfl,RW.nil⟩
  ·cases h
 ·split at h
  ·cases h
   exact⟨rfl,RW.refl _⟩
  ·cases h
 ·cases h
def zq:List Ty→List (TV S)→Option (Bool×List (aY S.α))
 | [],[]=>some (true,[])
 | τ::ts,v::vs=>match nK τ v with
  | some (f,a)=>match zq ts vs with
   | some (g,l)=>some (f&&g,⟨τ,a⟩::l)
   | none=>none
  | none=>none
 | _,_=>none
theorem yw (ln:Nat→Nat):∀{ts:List Ty}{vs:List (TV S)}{f:Bool}{l:List (aY S.α)},zq ts vs=some (f,l)→
  l.length=vs.length∧∀(j:Nat) (x:aY S.α),l[j]?=some x→∃v,vs[j]?=some v∧RW (v.er ln) (dc f (da S x.τ x.a))
 | [],[],_,_,h=>by cases h;exact⟨rfl,fun j x h=>by simp at h⟩
 | τ::ts,v::vs,f,l,h=>by
  simp only[zq] at h
  split at h
  ·rename_i f1 a h1
   split at h
   ·rename_i g l' h2
    cases h
    obtain⟨i1,i2⟩:=yw ln h2
    obtain⟨_,h3⟩:=B3 h1 ln
    refine⟨by simp[i1],fun j x hx=>?_⟩
    cases j with
    | zero=>cases hx;exact⟨v,rfl,h3.trans (RW.dc _ _ _ fun h=>by simp at h;exact h.1)⟩
    | succ j=>
     obtain⟨v',h4,h5⟩:=i2 j x hx
     exact⟨v',h4,h5.trans (RW.dc _ _ _ fun h=>by simp at h;exact h.2)⟩
   ·cases h
  ·cases h
 | [],_::_,_,_,h=>by cases h
 | _::_,[],_,_,h=>by cases h
def Aq (τ:Ty) (v:TV S):Option (Bool×S.D τ):=
 match v with
 | .ae f τ' a=>match iN τ' τ a with
  | some b=>some (f||τ.gW,b)
  | none=>none
 | .val (.slice none 0 0)=>match τ with
  | .list _=>some (true,[])
  | _=>none
 | .val (.pointer none)=>match τ with
  | .pt n=>some (true,(none:Option (S.α n)))
  | _=>none
 | .agg vs=>match τ with
  | .st n=>match zq (S.cg n) vs with
   | some (f,l)=>match S.put n l with
    | some a=>some (f,a)
    | none=>none
   | none=>none
  | _=>none
 | _=>none
theorem PU {τ:Ty}{v:TV S}{f:Bool}{a:S.D τ}(h:Aq τ v=some (f,a)) (ln:Nat→Nat):RW (v.er ln) (nh f τ a):=by
 unfold Aq at h
 split at h
 ·split at h
  ·rename_i f' _ _ _ b hb
   cases h
   have:=dW hb
   cases this
   cases τ with
   | st n=>cases f' <;> exact RW.refl _
   | _=>cases f' <;> exact RW.refl _
  ·cases h
 ·split at h
  ·cases h;exact RW.nil
  ·cases h
 ·split at h
  ·cases h;exact RW.refl _
  ·cases h
 ·split at h
  ·rename_i _ vs _ n
   split at h
   ·rename_i f1 l h1
    split at h
    ·rename_i a1 h2
     cases h
     obtain⟨i1,i2⟩:=yw ln h1
     have h3:=S.hU n l a h2
     show RW (.agg (TV.er.go ln vs)) (.agg ((aP S (.st n) a).map (dc f)))
     rw[cS,fZ,h3]
     refine RW.agg (by simp[i1]) fun j g' hg'=>?_
     simp only[ak,Option.map_map] at hg'
     obtain⟨x,hx,rfl⟩:=au.1 hg'
     obtain⟨v,h4,h5⟩:=i2 j x hx
     exact⟨v.er ln,by rw[ak,h4];rfl,h5⟩
    ·cases h
   ·cases h
  ·cases h
 ·cases h
def split (f:Bool) (n:Nat) (a:S.α n):List (TV S):=(S.cells n a).map fun x=>.ae f x.τ x.a
theorem ot {τ:Ty}(h:τ.fq=false) (f:Bool) (a:S.D τ) (ln:Nat→Nat):(TV.ae f τ a:TV S).er ln=dc f (da S τ a):=by
 cases τ with
 | st n=>cases h
 | _=>rfl
theorem kB (n:Nat) (a:S.α n):∀x∈S.cells n a,x.τ.fq=false:=fun x hx=>
 S.one n _ (by rw[←S.l7 n a];exact iY hx)
theorem EX (f:Bool) (n:Nat) (a:S.α n) (ln:Nat→Nat):TV.er.go ln (split f n a)=(aP S (.st n) a).map (dc f):=by
 rw[cS,fZ]
 have h:=kB n a
 unfold split
 generalize S.cells n a=l at h
 induction l with
 | nil=>rfl
 | cons x r ih=>
  simp only[az]
  rw[ot (h x aC),ih fun y hy=>h y (aw _ hy)]
def dH:TV S→List (TV S)
 | .agg l=>l
 | .ae f (.st n) a=>split f n a
 | v=>[v]
theorem J6 (v:TV S) (ln:Nat→Nat) (h:∀u,v=.val u→u.oneCell'=true):cC (v.er ln)=TV.er.go ln (dH v):=by
 have fr1:∀(f:Bool) (τ:Ty) (a:S.D τ),τ.fq=false→cC (dc f (da S τ a))=[dc f (da S τ a)]:=by
  intro f τ a hs
  cases τ with
  | st n=>cases hs
  | pt n=>cases a <;> cases f <;> rfl
  | _=>cases f <;> rfl
 cases v with
 | ae f τ a=>
  cases τ with
  | st n=>exact(EX f n a ln).symm
  | _=>exact fr1 f _ a rfl
 | agg l=>rfl
 | ptr f τ a=>cases f <;> rfl
 | val u=>exact congrArg (List.map G.val) (congrArg Array.toList (w9 (h u rfl)))
 | gH b h τ i j=>cases b <;> rfl
 | bP b h off=>cases b <;> rfl
 | _=>rfl
end
end Go.DN
/-
 DN,part D:the operations that yield a value and leave the world alone,as one function.
-/
namespace Go.DN
open Go.AM
section
variable {S:dr}
def Nh (P:Program) (t:TypeId) (i:Nat) (x:TV S):Option (TV S):=
 match P.underlying t with
 | some (.struct fs)=>match fs[i]? with
  | some f=>match nc P f.type with
   | some (z+1)=>match x with
    | .loc h off=>some (.loc h (off+f.offset))
    | .ia h τ i j=>some (.ia h τ i (j+f.offset))
    | .kp h (.list τ) i j=>some (.kp h (.list τ) i (j+f.offset))
    | .ptr fl (.st n) a=>match CO P f.type with
     | some false=>match (S.cells n a)[f.offset]? with
      | some y=>some (.ptr fl y.τ y.a)
      | none=>none
     | some true=>match S.ty f.type with
      | some n'=>match S.put n' (((S.cells n a).drop f.offset).take (z+1)) with
       | some a'=>some (.ptr fl (.st n') a')
       | none=>none
      | none=>none
     | none=>none
    | _=>none
   | _=>none
  | none=>none
 | _=>none
def Ng (P:Program) (t:TypeId) (i:Nat) (x:TV S):Option (TV S):=
 match P.underlying t with
 | some (.struct fs)=>match fs[i]? with
  | some f=>match CO P f.type with
   | some false=>match x with
    | .agg l=>l[f.offset]?
    | .ae fl (.st n) a=>match (S.cells n a)[f.offset]? with
     | some y=>some (.ae fl y.τ y.a)
     | none=>none
    | _=>none
   | _=>none
  | none=>none
 | _=>none
section
variable {P:Program}{s:ag S}{dst:Option Tmp}{ty:TypeId}{pos:String}{after:Array Edge}{guard:Option (Nat×Bool)}
theorem Pk {t:TypeId}{i:Nat}{x:Operand}{vx v:TV S}(hx:cq s x=some vx) (h:Ng P t i vx=some v):
  PY P s.er ⟨dst,.field t x i,ty,pos,after,guard⟩ (v.er s.ln):=by
 unfold Ng at h
 split at h
 ·rename_i fs hu
  split at h
  ·rename_i f hf
   split at h
   ·rename_i ha
    split at h
    ·rename_i l
     refine PY.Le (gs:=TV.er.go s.ln l) (bc hx) hu hf (eS ha) ?_
     rw[cS,ak,h];rfl
    ·rename_i fl n a
     split at h
     ·rename_i y hy
      cases h
      refine PY.Le (gs:=(aP S (.st n) a).map (dc fl)) (bc hx) hu hf (eS ha) ?_
      rw[←EX fl n a s.ln,cS,ak]
      unfold split
      rw[ak,hy];rfl
     ·cases h
    ·cases h
   ·cases h
  ·cases h
 ·cases h
theorem Bj (f:Bool) (τ:Ty) (a:S.D τ) (ln:Nat→Nat):(TV.ptr f τ a:TV S).er ln=Cb f (aP S τ a):=rfl
theorem Pm {t:TypeId}{i:Nat}{x:Operand}{vx v:TV S}(hx:cq s x=some vx) (h:Nh P t i vx=some v):
  PY P s.er ⟨dst,.fieldAddr t x i,ty,pos,after,guard⟩ (v.er s.ln):=by
 unfold Nh at h
 split at h
 ·rename_i fs hu
  split at h
  ·rename_i f hf
   split at h
   ·rename_i z hz
    split at h
    ·cases h
     exact PY.field (bc hx) rfl hu hf (cD hz) (by omega)
    ·cases h
     rename_i hh τ i' j
     refine PY.rw (PY.field (g':=.loc hh (i'*S.sz τ+j+f.offset)) (bc hx) rfl hu hf (cD hz) (by omega)) ?_
     show RW _ (.loc hh (i'*S.sz τ+(j+f.offset)))
     rw[Nat.add_assoc]
     exact RW.refl _
    ·cases h
     rename_i hh τ i' j
     refine PY.rw (PY.field (g':=.kp hh i' (j*S.sz (.list τ)+f.offset)) (bc hx) rfl hu hf (cD hz) (by omega)) ?_
     show RW _ (.kp hh i' ((j+f.offset)*S.sz (.list τ)))
     rw[show S.sz (.list τ)=1 from rfl,nI,nI]
     exact RW.refl _
    ·rename_i fl n a
     have key:∀(cs:List G) (m:Nat),((aP S (.st n) a).drop f.offset).take m=cs→PY P s.er ⟨dst,.fieldAddr t x i,ty,pos,after,guard⟩ (Cb fl cs):=by
      intro cs m he
      subst he
      have e0:=bc hx
      rw[Bj] at e0
      refine PY.rw (PY.field (g':=Cb fl ((aP S (.st n) a).drop f.offset)) e0 ?_ hu hf (cD hz) (by omega)) (RW.tw _ _ _)
      cases fl <;> rfl
     split at h
     ·split at h
      ·rename_i y hy
       cases h
       refine key _ 1 ?_
       rw[fZ,jB S (kB n a y (aQ hy))]
       rw[←List.map_drop,←List.map_take]
       have:((S.cells n a).drop f.offset).take 1=[y]:=by
        have:=av.1 hy
        obtain⟨h1,h2⟩:=this
        rw[b9 h1,h2];rfl
       rw[this];rfl
      ·cases h
     ·split at h
      ·rename_i n' _
       split at h
       ·rename_i a' h'
        cases h
        refine key _ (z+1) ?_
        rw[fZ,fZ,S.hU _ _ _ h',List.map_take,List.map_drop]
       ·cases h
      ·cases h
     ·cases h
    ·cases h
   ·cases h
  ·cases h
 ·cases h
def xu (h:Nat) (τ:Ty) (o n:Nat) (lo hi:Option (TV S)){A:Type}(k:TV S→Option A):Option A:=
 match lo,hi with
 | some (.ae _ (.int _) i),some (.ae _ (.int _) j)=>(cj (0≤i∧i≤j∧j≤(n:Int))).bind fun _=>k (.sub h τ (o+Int.toNat i) (Int.toNat j-Int.toNat i))
 | some (.ae _ (.int _) i),none=>(cj (0≤i∧i≤(n:Int))).bind fun _=>k (.sub h τ (o+Int.toNat i) (n-Int.toNat i))
 | none,some (.ae _ (.int _) j)=>(cj (0≤j∧j≤(n:Int))).bind fun _=>k (.sub h τ o (Int.toNat j))
 | none,none=>none
 | _,_=>none
def Ms (ln:Nat→Nat) (t:TypeId) (P:Program) (x:TV S) (lo hi:Option (TV S)){A:Type}(k:TV S→Option A):Option A:=
 match P.underlying t with
 | some (.slice e)=>match x with
  | .ae f (.list τ) l=>match decEq (nc P e) (some (S.sz τ)) with
   | isFalse _=>none
   | isTrue _=>match lo,hi with
    | some (.ae _ (.int _) i),some (.ae _ (.int _) j)=>(cj (0≤i∧i≤j∧j≤(List.length l:Int))).bind fun _=>k (.ae f (.list τ) (iJ l i j))
    | some (.ae _ (.int _) i),none=>(cj (0≤i∧i≤(List.length l:Int))).bind fun _=>k (.ae f (.list τ) (iJ l i (List.length l:Int)))
    | none,some (.ae _ (.int _) j)=>(cj (0≤j∧j≤(List.length l:Int))).bind fun _=>k (.ae f (.list τ) (iJ l 0 j))
    | _,_=>none
  | .aM h τ=>match decEq (nc P e) (some (S.sz τ)) with
   | isFalse _=>none
   | isTrue _=>xu h τ 0 (ln h) lo hi k
  | .sub h τ o n=>match decEq (nc P e) (some (S.sz τ)) with
   | isFalse _=>none
   | isTrue _=>xu h τ o n lo hi k
  | _=>none
 | some .string=>match x with
  | .ae _ .str b=>match lo,hi with
   | some (.ae _ (.int _) i),some (.ae _ (.int _) j)=>(cj (0≤i∧i≤j∧j≤(b.size:Int))).bind fun _=>k (.ae true .str (b.extract i.toNat j.toNat))
   | some (.ae _ (.int _) i),none=>(cj (0≤i∧i≤(b.size:Int))).bind fun _=>k (.ae true .str (b.extract i.toNat b.size))
   | none,some (.ae _ (.int _) j)=>(cj (0≤j∧j≤(b.size:Int))).bind fun _=>k (.ae true .str (b.extract 0 j.toNat))
   | _,_=>none
  | _=>none
 | _=>none
theorem aN.xu {O:Nat→Prop}{base:Nat}{w:World}{μ:Mu}{h sz off n i j:Nat}{v:Value}(hv:aN O base w μ (.aM h sz off n) v) (h1:i≤j) (h2:j≤n):
  ∃(a:Option Addr) (cap:Nat),v=.slice a n cap∧n≤cap∧aN O base w μ (.aM h sz (off+i*sz) (j-i)) (sliced a i j cap sz):=by
 cases hv with
 | aD hv=>cases hv
 | gX _ _ hm=>
  obtain rfl:i=0:=by omega
  obtain rfl:j=0:=by omega
  refine⟨none,0,rfl,ar _,?_⟩
  simp only[sliced,jE,fG,if_true]
  exact .gX h sz hm
 | aM _ _ _ _ b m cap hm hn hc=>
  refine⟨_,cap,rfl,hn,?_⟩
  unfold sliced
  by_cases e:cap=i
  ·rw[if_pos e]
   have hj:j-i=0:=by omega
   have hci:cap-i=0:=by omega
   rw[hj,hci]
   by_cases hpos:0<m.1
   ·have:off+i*sz=m.1:=by rw[←e];exact hc
    rw[this]
    exact .fL h sz off b m.1 hm hpos
   ·have h5:off=0:=by omega
    have h6:i*sz=0:=by rw[←e];omega
    rw[h5,h6]
    exact .aM h sz 0 0 b m 0 hm (ar _) (by omega)
  ·rw[if_neg e]
   simp only[bY,Addr.l3]
   refine .aM h sz _ _ b m _ hm (by omega) ?_
   have:i*sz+(cap-i)*sz=cap*sz:=by rw[←fA];congr 1;omega
   omega
 | fL _ _ off0 b m hm hpos=>
  obtain rfl:i=0:=by omega
  obtain rfl:j=0:=by omega
  refine⟨_,0,rfl,ar _,?_⟩
  simp only[sliced,jE,fG,if_true]
  exact .fL h sz off0 b _ hm hpos
theorem td (f:Bool) (τ:Ty) (l:List (S.D τ)) (ln:Nat→Nat):(TV.ae f (.list τ) l:TV S).er ln=@Au _ (lX S τ) f l:=by cases f <;> rfl
def qd (s:ag S):Option Operand→Option (Option (TV S))
 | none=>some none
 | some x=>match cq s x with
  | some v=>some (some v)
  | none=>none
theorem Ii {j:Int}{n:Nat}(h:j≤(n:Int)):j.toNat≤n:=by omega
theorem KZ {j:Int}{n cap:Nat}(h:j≤(n:Int)) (h':n≤cap):j≤(cap:Int):=by omega
theorem Hn {t e:TypeId}{x:Operand}{lo hi:Option Operand}{h n o:Nat}{τ:Ty}{vl vh:Option (TV S)}{A:Type}{k:TV S→Option A}{r:A}(hx:ev s.er x=some (.aM h (S.sz τ) (o*S.sz τ) n))
  (hl:qd s lo=some vl) (hh:qd s hi=some vh) (hu:P.underlying t=some (.slice e)) (hz:nc P e=some (S.sz τ))
  (hk:xu h τ o n vl vh k=some r):∃v,PY P s.er ⟨dst,.slice t x lo hi none,ty,pos,after,guard⟩ (v.er s.ln)∧k v=some r:=by
 letI:=lX S τ
 have opS:∀{o:Option Operand}{v:TV S},qd s o=some (some v)→∃y,o=some y∧cq s y=some v:=by
  intro o v h
  cases o with
  | none=>cases h
  | some y=>
   simp only[qd] at h
   split at h
   ·rename_i v' hv;cases h;exact⟨y,rfl,hv⟩
   ·cases h
 have opN:∀{o:Option Operand},qd s o=some none→o=none:=by
  intro o h
  cases o with
  | none=>rfl
  | some y=>
   simp only[qd] at h
   split at h <;> cases h
 have er:∀(i m:Nat),(TV.sub h τ (o+i) m:TV S).er s.ln=.aM h (S.sz τ) (o*S.sz τ+i*S.sz τ) m:=by
  intro i m;show G.aM h (S.sz τ) ((o+i)*S.sz τ) m=_;rw[fA]
 unfold xu at hk
 split at hk
 ·obtain⟨u,hc,hk⟩:=bind_some hk
  obtain⟨y,rfl,hy⟩:=opS hl
  obtain⟨y',rfl,hy'⟩:=opS hh
  obtain⟨c1,c2,c3⟩:=cO hc
  refine⟨_,?_,hk⟩
  rw[er]
  intro N cx μ a w hr
  obtain⟨ad,cap,e1,e2,e3⟩:=aN.xu (hr.ev hx) (Int.toNat_le_toNat c2) (Ii c3)
  refine⟨_,e3,fun w'=>?_⟩
  simp[execOp,e1,hr.val (kO hy),hr.val (kO hy'),E6 (α:=S.D τ) (P:=P) hu (cD hz) ad n cap c1 c2 (KZ c3 e2) w']
  rfl
 ·obtain⟨u,hc,hk⟩:=bind_some hk
  obtain⟨y,rfl,hy⟩:=opS hl
  cases opN hh
  obtain⟨c1,c2⟩:=cO hc
  refine⟨_,?_,hk⟩
  rw[er]
  intro N cx μ a w hr
  obtain⟨ad,cap,e1,e2,e3⟩:=aN.xu (i:=Int.toNat _) (j:=n) (hr.ev hx) (Ii c2) (ar _)
  refine⟨_,e3,fun w'=>?_⟩
  simp[execOp,e1,hr.val (kO hy),Ay (α:=S.D τ) (P:=P) hu (cD hz) ad n cap c1 c2 w']
  rfl
 ·obtain⟨u,hc,hk⟩:=bind_some hk
  cases opN hl
  obtain⟨y,rfl,hy⟩:=opS hh
  obtain⟨c1,c2⟩:=cO hc
  refine⟨_,?_,hk⟩
  have:=er 0 (Int.toNat ‹_›)
  rw[fG] at this
  rw[this]
  intro N cx μ a w hr
  obtain⟨ad,cap,e1,e2,e3⟩:=aN.xu (i:=0) (j:=Int.toNat _) (hr.ev hx) (cI _) (Ii c2)
  refine⟨_,e3,fun w'=>?_⟩
  simp[execOp,e1,hr.val (kO hy),Az (α:=S.D τ) (P:=P) hu (cD hz) ad n cap c1 (KZ c2 e2) w']
  rfl
 ·cases hk
 ·cases hk
theorem OL {t:TypeId}{x:Operand}{lo hi:Option Operand}{vx:TV S}{vl vh:Option (TV S)}{A:Type}{k:TV S→Option A}{r:A}(hx:cq s x=some vx) (hl:qd s lo=some vl) (hh:qd s hi=some vh)
  (h:Ms s.ln t P vx vl vh k=some r):∃v,PY P s.er ⟨dst,.slice t x lo hi none,ty,pos,after,guard⟩ (v.er s.ln)∧k v=some r:=by
 have opS:∀{o:Option Operand}{v:TV S},qd s o=some (some v)→∃y,o=some y∧cq s y=some v:=by
  intro o v h
  cases o with
  | none=>cases h
  | some y=>
   simp only[qd] at h
   split at h
   ·rename_i v' hv;cases h;exact⟨y,rfl,hv⟩
   ·cases h
 have opN:∀{o:Option Operand},qd s o=some none→o=none:=by
  intro o h
  cases o with
  | none=>rfl
  | some y=>
   simp only[qd] at h
   split at h <;> cases h
 unfold Ms at h
 split at h
 ·rename_i e hu
  split at h
  ·rename_i f τ l
   split at h
   ·cases h
   ·rename_i hz _
    have e0:=bc hx
    rw[td] at e0
    split at h
    ·obtain⟨u,hc,h⟩:=bind_some h
     obtain⟨y,rfl,hy⟩:=opS hl
     obtain⟨y',rfl,hy'⟩:=opS hh
     obtain⟨c1,c2,c3⟩:=cO hc
     refine⟨_,?_,h⟩
     rw[td]
     letI:=lX S τ;exact PY.slice (α:=S.D τ) e0 (kO hy) (kO hy') hu (cD hz) c1 c2 c3
    ·obtain⟨u,hc,h⟩:=bind_some h
     obtain⟨y,rfl,hy⟩:=opS hl
     cases opN hh
     obtain⟨c1,c2⟩:=cO hc
     refine⟨_,?_,h⟩
     rw[td]
     letI:=lX S τ;exact PY.P2 (α:=S.D τ) e0 (kO hy) hu (cD hz) c1 c2
    ·obtain⟨u,hc,h⟩:=bind_some h
     cases opN hl
     obtain⟨y,rfl,hy⟩:=opS hh
     obtain⟨c1,c2⟩:=cO hc
     refine⟨_,?_,h⟩
     rw[td]
     letI:=lX S τ;exact PY.P3 (α:=S.D τ) e0 (kO hy) hu (cD hz) c1 c2
    ·cases h
  ·split at h
   ·cases h
   ·rename_i hz _
    refine Hn (n:=s.ln _) (o:=0) ?_ hl hh hu hz h
    rw[bc hx,jE];rfl
  ·split at h
   ·cases h
   ·rename_i hz _
    exact Hn (bc hx) hl hh hu hz h
  ·cases h
 ·rename_i hu
  split at h
  ·rename_i b
   have e0:=zi hx
   split at h
   ·obtain⟨u,hc,h⟩:=bind_some h
    obtain⟨y,rfl,hy⟩:=opS hl
    obtain⟨y',rfl,hy'⟩:=opS hh
    obtain⟨c1,c2,c3⟩:=cO hc
    exact⟨_,PY.PZ e0 (kO hy) (kO hy') hu c1 c2 c3,h⟩
   ·obtain⟨u,hc,h⟩:=bind_some h
    obtain⟨y,rfl,hy⟩:=opS hl
    cases opN hh
    obtain⟨c1,c2⟩:=cO hc
    exact⟨_,PY.OJ e0 (kO hy) hu c1 c2,h⟩
   ·obtain⟨u,hc,h⟩:=bind_some h
    cases opN hl
    obtain⟨y,rfl,hy⟩:=opS hh
    obtain⟨c1,c2⟩:=cO hc
    exact⟨_,PY.OK e0 (kO hy) hu c1 c2,h⟩
   ·cases h
  ·cases h
 ·cases h
end
end
end Go.DN
/-
 DN,part E:the operations that yield a value,put together.
-/
namespace Go.DN
open Go.AM
section
variable {S:dr}
def okV:TV S→Bool
 | .any=>false
 | .val u=>u.oneCell'
 | _=>true
theorem rb {v:TV S}(h:okV v=true) (ln:Nat→Nat):A8 (v.er ln)=true:=by
 cases v with
 | ae f τ a=>cases τ with
  | st n=>rfl
  | pt n=>cases a <;> cases f <;> rfl
  | _=>cases f <;> rfl
 | ptr f τ a=>cases f <;> rfl
 | gH b h τ i j=>cases b <;> rfl
 | bP b h off=>cases b <;> rfl
 | any=>cases h
 | _=>rfl
theorem ur {v:TV S}(h:okV v=true) (ln:Nat→Nat):cC (v.er ln)=TV.er.go ln (dH v):=J6 v ln fun u e=>by subst e;exact h
def Ec (places:List (Nat×Nat)) (cells:List (TV S)):List (Nat×TV S)→Option (List (TV S))
 | []=>some cells
 | (i,v)::r=>match places[i]? with
  | some (off,size)=>match okV v&&(Nat.beq (dH v).length size&&Nat.ble (off+size) cells.length) with
   | true=>Ec places (setAt cells off (dH v)) r
   | false=>none
  | none=>none
theorem C6 {α β:Type}(f:α→β):∀(xs:List α) (off:Nat) (cs:List α),(setAt cs off xs).map f=setAt (cs.map f) off (xs.map f)
 | [],_,_=>rfl
 | x::r,off,cs=>by simp only[setAt,az,C6 f r,p9]
theorem EP (ln:Nat→Nat) (places:List (Nat×Nat)):∀{parts:List (Nat×TV S)}{cells out:List (TV S)},Ec places cells parts=some out→
  yK (places[·]?) (TV.er.go ln cells) (parts.map fun x=>(x.1,x.2.er ln))=some (TV.er.go ln out)
 | [],_,_,h=>by cases h;rfl
 | (i,v)::r,cells,out,h=>by
  simp only[Ec] at h
  split at h
  ·rename_i off size hp
   split at h
   ·rename_i hc
    simp only[ah] at hc
    obtain⟨h1,h2,h3⟩:=hc
    have h4:=rb h1 ln
    have h5:=ur h1 ln
    have ih:=EP ln places h
    simp only[az,yK,hp]
    have h6:(cC (v.er ln)).length=(dH v).length:=by rw[h5,cS,aU]
    have h7:(TV.er.go ln cells).length=cells.length:=by rw[cS,aU]
    rw[h4,h6,h7,h2,h3,h5]
    simp only[eV]
    have h8:setAt (TV.er.go ln cells) off (TV.er.go ln (dH v))=TV.er.go ln (setAt cells off (dH v)):=by
     simp only[cS,C6]
    rw[h8]
    exact ih
   ·cases h
  ·cases h
def Ik (s:ag S):List (Nat×Operand)→Option (List (Nat×TV S))
 | []=>some []
 | (i,x)::r=>match cq s x with
  | some v=>match Ik s r with
   | some vs=>some ((i,v)::vs)
   | none=>none
  | none=>none
theorem Hh {s:ag S}:∀{l:List (Nat×Operand)}{vs:List (Nat×TV S)},Ik s l=some vs→Gd s.er l=some (vs.map fun x=>(x.1,x.2.er s.ln))
 | [],_,h=>by cases h;rfl
 | (i,x)::r,vs,h=>by
  simp only[Ik] at h
  split at h
  ·rename_i v hv
   split at h
   ·rename_i vs' hr
    cases h
    simp only[Gd,bc hv,Hh hr,az]
   ·cases h
  ·cases h
def si (s:ag S):List Operand→Option (List (TV S))
 | []=>some []
 | x::r=>match cq s x with
  | some v=>match si s r with
   | some vs=>some (v::vs)
   | none=>none
  | none=>none
theorem lf {s:ag S}:∀{l:List Operand}{vs:List (TV S)},si s l=some vs→l.map (ev s.er)=(TV.er.go s.ln vs).map some∧tI s.er l=some (TV.er.go s.ln vs)
 | [],_,h=>by cases h;exact⟨rfl,rfl⟩
 | x::r,vs,h=>by
  simp only[si] at h
  split at h
  ·rename_i v hv
   split at h
   ·rename_i vs' hr
    cases h
    obtain⟨i1,i2⟩:=lf hr
    exact⟨by simp only[az,TV.er.go,bc hv,i1],by simp only[TV.er.go,tI,bc hv,i2]⟩
   ·cases h
  ·cases h
def I6 (s:ag S):TV S→Option Int
 | .ae _ (.list _) l=>some (List.length l:Int)
 | .aM h _=>match aA s.a7 h with
  | some (.arr _ _ _ _ l)=>some (List.length l:Int)
  | some (.deep _ _ _ _ τ a)=>some (uS τ a:Int)
  | _=>none
 | .ks _ _ _ n=>some (n:Int)
 | .sub _ _ _ n=>some (n:Int)
 | .val (.slice none 0 0)=>some 0
 | _=>none
def Na (P:Program) (t:TypeId) (v:TV S) (y:Operand):Option Bool:=
 match v with
 | .ae _ .cQ b=>match y with
  | .const .nilIface=>match P.underlying t with
   | some (.interface _)=>some b
   | _=>none
  | _=>none
 | _=>none
theorem Pe {P:Program}{t:TypeId}{v:TV S}{y:Operand}{b:Bool}(h:Na P t v y=some b) (ln:Nat→Nat):y=.const .nilIface∧(∃ms,P.underlying t=some (.interface ms))∧∀o:Option G,o=some (v.er ln)→o=some (.cQ b)∨o=some (.fr (.cQ b)):=by
 unfold Na at h
 split at h
 ·rename_i f b'
  split at h
  ·split at h
   ·rename_i hu
    cases h
    refine⟨rfl,⟨_,hu⟩,fun o ho=>?_⟩
    subst ho
    cases f
    ·exact .inl rfl
    ·exact .inr rfl
   ·cases h
  ·cases h
 ·cases h
def nilPtr (P:Program) (t:TypeId) (v:TV S) (y:Operand):Option Bool:=
 match y with
 | .const (.pointer none)=>match P.underlying t with
  | some (.pointer _)=>match v with
   | .kp _ _ _ _=>some false
   | .gH b _ _ _ _=>some b
   | .bP b _ _=>some b
   | .val (.pointer none)=>some true
   | .loc _ _=>some false
   | .ae _ (.pt n) o=>some (Option.isNone (o:Option (S.α n)))
   | _=>none
  | _=>none
 | _=>none
theorem KK {P:Program}{t:TypeId}{v:TV S}{y:Operand}{b:Bool}(h:nilPtr P t v y=some b) (ln:Nat→Nat):y=.const (.pointer none)∧(∃e,P.underlying t=some (.pointer e))∧tz (v.er ln)=some b:=by
 unfold nilPtr at h
 split at h
 ·split at h
  ·rename_i e hu
   refine⟨rfl,⟨e,hu⟩,?_⟩
   split at h
   ·cases h;rfl
   ·cases h;cases b <;> rfl
   ·cases h;cases b <;> rfl
   ·cases h;rfl
   ·cases h;rfl
   ·rename_i f n o
    cases h
    cases o <;> cases f <;> rfl
   ·cases h
  ·cases h
 ·cases h
def Pa (s:ag S) (x:Operand):Option Operand→Option Operand→Bool
 | some _,some _=>match cq s x with
  | some (.sub h _ _ _)=>match aA s.a7 h with
   | some (.arr _ _ _ _ _)=>true
   | _=>false
  | _=>false
 | _,_=>false
def Mt (P:Program) (s:ag S) (t:TypeId) (x:Operand) (lo hi:Option Operand){A:Type}(k:TV S→Option A):Option A:=
 none
def Mv (P:Program) (s:ag S) (t:TypeId) (x lo hi mx:Operand){A:Type}(k:TV S→Option A):Option A:=
 none
def Fi (P:Program) (s:ag S) (op:Op){A:Type}(k:TV S→Option (aY S.α)→Option A):Option A:=
 match op with
 | .move x=>match cq s x with
  | some v=>k v none
  | none=>none
 | .assign x=>match cq s x with
  | some v=>k v none
  | none=>none
 | .pick c x y=>match cq s c with
  | some (.ae _ .bool b)=>match b with
   | true=>match cq s x with
    | some v=>k v none
    | none=>none
   | false=>match cq s y with
    | some v=>k v none
    | none=>none
  | _=>none
 | .binOp op t x y _=>match cq s x with
  | some vx=>match nilPtr P t vx y with
   | some b=>match op with
    | .eql=>k (.ae true .bool b) none
    | .neq=>k (.ae true .bool (!b)) none
    | _=>none
   | none=>match Na P t vx y with
    | some b=>match op with
     | .eql=>k (.ae true .bool (!b)) none
     | .neq=>k (.ae true .bool b) none
     | _=>none
    | none=>match cq s y with
     | some vy=>NP P op t vx vy fun v=>k v none
     | none=>none
  | none=>none
 | .unOp op _ x=>match op with
  | .not=>match cq s x with
   | some (.ae _ .bool b)=>k (.ae true .bool (!b)) none
   | _=>none
  | .neg=>match cq s x with
   | some (.ae _ (.int ki) a)=>k (.ae true (.int ki) (ki.wrap (0-a))) none
   | _=>none
  | _=>none
 | .convert t t' x=>match P.underlying t with
  | some _=>match P.underlying t' with
   | some (.int ki)=>match cq s x with
    | some (.ae _ (.int _) a)=>k (.ae true (.int ki) (ki.wrap a)) none
    | _=>none
   | some .string=>match cq s x with
    | some (.ae _ .str a)=>k (.ae true .str a) none
    | _=>none
   | _=>none
  | none=>none
 | .extract x i=>match cq s x with
  | some (.aT l)=>match l[i]? with
   | some v=>k v none
   | none=>none
  | _=>none
 | .field t x i=>match cq s x with
  | some vx=>match Ng P t i vx with
   | some v=>k v none
   | none=>none
  | none=>none
 | .fieldAddr t x i=>match cq s x with
  | some vx=>match Nh P t i vx with
   | some v=>k v none
   | none=>none
  | none=>none
 | .indexAddr t x y=>match P.underlying t with
  | some (.slice e)=>match cq s y with
   | some (.ae _ (.int _) i)=>match cq s x with
    | some (.ae f (.list τ) l)=>match decEq (nc P e) (some (S.sz τ)) with
     | isTrue _=>(idx l i).bind fun a=>k (.ptr f τ a) none
     | isFalse _=>none
    | some (.aM h τ)=>match decEq (nc P e) (some (S.sz τ)) with
     | isTrue _=>match aA s.a7 h with
      | some (.arr _ _ _ τ' l)=>match decEq τ' τ with
       | isTrue _=>(idx l i).bind fun a=>k (.ia h τ i.toNat 0) (some ⟨τ',a⟩)
       | isFalse _=>none
      | some (.deep _ _ _ _ τ' a)=>(cj (0≤i∧i<(uS τ' a:Int))).bind fun _=>k (.ia h τ i.toNat 0) none
      | _=>none
     | isFalse _=>none
    | some (.sub h τ o n)=>match decEq (nc P e) (some (S.sz τ)) with
     | isTrue _=>match aA s.a7 h with
      | some (.arr _ _ _ τ' l)=>match decEq τ' τ with
       | isTrue _=>(cj (0≤i∧i<(n:Int))).bind fun _=>(l[o+i.toNat]?).bind fun a=>k (.ia h τ (o+i.toNat) 0) (some ⟨τ',a⟩)
       | isFalse _=>none
      | some (.box _ _ _)=>(cj (0≤i∧i<(n:Int))).bind fun _=>k (.ia h τ (o+i.toNat) 0) none
      | _=>none
     | isFalse _=>none
    | some (.ks h τ j n)=>match decEq (nc P e) (some (S.sz τ)) with
     | isTrue _=>(cj (0≤i∧i<(n:Int))).bind fun _=>k (.kp h τ j i.toNat) none
     | isFalse _=>none
    | _=>none
   | _=>none
  | some (.array n e)=>match cq s y with
   | some (.ae _ (.int _) i)=>match cq s x with
    | some (.loc h off)=>match P.underlying e with
     | some (.int ki)=>match decEq (nc P e) (some 1) with
      | isTrue _=>(cj (0≤i∧i<(n:Int))).bind fun _=>k (.ia h (.int ki) i.toNat off) none
      | isFalse _=>none
     | _=>none
    | _=>none
   | _=>none
  | _=>none
 | .index t x y=>match P.underlying t with
  | some .string=>match cq s x with
   | some (.ae _ .str b)=>match cq s y with
    | some (.ae _ (.int _) i)=>(qL b i).bind fun c=>k (.ae true (.int .u8) (c.toNat:Int)) none
    | _=>none
   | _=>none
  | _=>none
 | .slice t x lo hi none=>match Pa s x lo hi with
  | true=>Mt P s t x lo hi fun v=>k v none
  | false=>match cq s x with
   | some vx=>match qd s lo with
    | some vl=>match qd s hi with
     | some vh=>Ms s.ln t P vx vl vh fun v=>k v none
     | none=>none
    | none=>none
   | none=>none
 | .slice t x (some lo) (some hi) (some mx)=>Mv P s t x lo hi mx fun v=>k v none
 | .makeFunc (.func f) first caps=>match first.toList with
  | []=>match si s caps.toList with
   | some vs=>match qK.contains f with
    | false=>k (.aR f vs) none
    | true=>none
   | none=>none
  | [x]=>match caps.toList with
   | []=>match cq s x with
    | some v=>match qK.contains f with
     | true=>k (.aR f [v]) none
     | false=>none
    | none=>none
   | _=>none
  | _=>none
 | .nilCheck x=>match cq s x with
  | some v=>match v with
   | .loc _ _=>k v none
   | .ia _ _ _ _=>k v none
   | .ptr _ _ _=>k v none
   | .aR _ _=>k v none
   | .kp _ _ _ _=>k v none
   | .gH b h τ i j=>(cj (b=false)).bind fun _=>k (.kp h τ i j) none
   | .ae f (.pt n) o=>Option.bind (o:Option (S.α n)) fun a=>k (.ptr f (.st n) a) none
   | _=>none
  | none=>none
 | .call c=>match c.callee with
  | .builtin .len=>match c.args.toList,c.argTypes.toList with
   | [x],[t]=>match P.underlying t with
    | some (.slice _)=>match cq s x with
     | some v=>match I6 s v with
      | some n=>k (.ae true (.int .i64) n) none
      | none=>none
     | none=>none
    | some .string=>match cq s x with
     | some (.ae _ .str b)=>k (.ae true (.int .i64) (b.size:Int)) none
     | _=>none
    | _=>none
   | _,_=>none
  | .builtin .min=>match c.args.toList with
   | [x,y]=>match cq s x,cq s y with
    | some (.ae _ (.int ki) a),some (.ae _ (.int _) b)=>k (.ae true (.int ki) (if b<a then b else a)) none
    | _,_=>none
   | _=>none
  | .builtin .max=>match c.args.toList with
   | [x,y]=>match cq s x,cq s y with
    | some (.ae _ (.int ki) a),some (.ae _ (.int _) b)=>k (.ae true (.int ki) (if b>a then b else a)) none
    | _,_=>none
   | _=>none
  | _=>none
 | .build t parts=>match P.underlying t with
  | some (.struct fs)=>match (P.info? t).bind (·.zero) with
   | some z=>match fs.toList.mapM (fun f=>(P.info? f.type).map fun i=>(f.offset,i.size)) with
    | some places=>match Ik s parts.toList with
     | some vs=>match Ec places (z.cells.toList.map tj) vs with
      | some out=>k (.agg out) none
      | none=>none
     | none=>none
    | none=>none
   | none=>none
  | _=>none
 | _=>none
def LU (s:ag S) (v:TV S):Option (aY S.α)→Prop
 | none=>True
 | some x=>∃h i bs m f τ l a,v=.ia h τ i 0∧aA s.a7 h=some (.arr bs m f τ l)∧x=⟨τ,a⟩∧l[i]?=some a
def ag.nM (s:ag S) (d:Nat) (v:TV S):Option (aY S.α)→ag S
 | none=>s.put d v
 | some x=>match v with
  | .ia h _ _ _=>{s with fr:=(d,v)::s.fr,last:=(d,h,x)::E9 d s.last}
  | _=>s.put d v
theorem yz (s:ag S) (d:Nat) (v:TV S) (x:Option (aY S.α)):(s.nM d v x).er=s.er.put d (v.er s.ln):=by
 cases x with
 | none=>rfl
 | some x=>cases v <;> rfl
theorem rP (s:ag S) (d:Nat) (v:TV S) (x:Option (aY S.α)):bj s (s.nM d v x):=by
 cases x with
 | none=>exact⟨rfl,rfl,rfl⟩
 | some x=>cases v <;> exact⟨rfl,rfl,rfl⟩
theorem Ca {s:ag S}(hl:aJ s) (d:Nat){v:TV S}{x:Option (aY S.α)}(h:LU s v x):aJ (s.nM d v x):=by
 cases x with
 | none=>exact hl.put d v
 | some x=>
  obtain⟨hh,i,bs,m,f,τ,l,a,e1,e2,e3,e4⟩:=h
  subst e1
  intro d' h' x' hm
  rcases bU.1 hm with e | hm
  ·cases e
   exact⟨i,bs,m,f,τ,l,a,by simp only[ag.nM,ag.bN,ca,bd,aK,cond_true],e2,e3,e4⟩
  ·obtain⟨i',ety',m',f',τ',l',a',q1,q2⟩:=hl.put d (.ia hh τ i 0) d' h' x' hm
   exact⟨i',ety',m',f',τ',l',a',q1,q2⟩
section
variable {P:Program}{s:ag S}{dst:Option Tmp}{ty:TypeId}{pos:String}{after:Array Edge}{guard:Option (Nat×Bool)}
theorem nS {h:Nat}{e:TypeId}{m f:Bool}{τ:Ty}{l:List (S.D τ)}(ho:aA s.a7 h=some (.arr e m f τ l)):s.ln h=l.length:=by
 unfold ag.ln bG
 rw[ho];rfl
theorem Hy {h:Nat}{e:TypeId}{m f:Bool}{dk:Dk}{τ:Ty}{a:S.D τ}(ho:aA s.a7 h=some (.deep e m f dk τ a)):s.ln h=uS τ a:=by
 unfold ag.ln bG
 rw[ho];rfl
theorem Cr {v:TV S}{n:Int}(h:I6 s v=some n):I7 (v.er s.ln)=some n:=by
 unfold I6 at h
 split at h
 ·rename_i f τ l
  cases h
  cases f <;> rfl
 ·split at h
  ·rename_i ho
   cases h
   show some ((s.ln _:Nat):Int)=_
   rw[nS ho]
  ·rename_i ho
   cases h
   show some ((s.ln _:Nat):Int)=_
   rw[Hy ho]
  ·cases h
 ·cases h;rfl
 ·cases h;rfl
 ·cases h;rfl
 ·cases h
theorem BZ {α:Type}{a:Array α}{x:α}(h:a.toList=[x]):a=#[x]:=by cases a;simp at h;subst h;rfl
theorem yv {α:Type}{a:Array α}{x y:α}(h:a.toList=[x,y]):a=#[x,y]:=by cases a;simp at h;subst h;rfl
theorem B2 {α:Type}{a:Array α}(h:a.toList=[]):a=#[]:=by cases a;simp at h;subst h;rfl
theorem Li {τ:Ty}{l:List (S.D τ)}{i:Int}{a:S.D τ}(h:idx l i=some a):((List.flatMap (aP S τ) l).drop (i.toNat*S.sz τ)).take (S.sz τ)=aP S τ a:=
 @Gi _ (lX S τ) _ _ _ h
theorem Pf {t e:TypeId}{x y:Operand}{f:Bool}{τ:Ty}{l:List (S.D τ)}{ki:IntKind}{fi:Bool}{i:Int}{a:S.D τ}(hx:cq s x=some (.ae f (.list τ) l)) (hy:cq s y=some (.ae fi (.int ki) i))
  (hu:P.underlying t=some (.slice e)) (hz:nc P e=some (S.sz τ)) (ha:idx l i=some a):
  PY P s.er ⟨dst,.indexAddr t x y,ty,pos,after,guard⟩ ((TV.ptr f τ a:TV S).er s.ln):=by
 obtain⟨h0,h1,h2⟩:=zR ha
 have e0:=bc hx
 rw[Bj,←Li ha]
 refine PY.rw (PY.index (g':=Cb f ((List.flatMap (aP S τ) l).drop (i.toNat*S.sz τ))) (n:=l.length) e0 (kO hy) ?_ h0 h1 hu (cD hz)) (RW.tw _ _ _)
 cases f <;> rfl
theorem OM {t:TypeId}{x:Operand}{lo hi:Option Operand}{A:Type}{k:TV S→Option A}{r:A}(h:Mt P s t x lo hi k=some r):
  ∃v,PY P s.er ⟨dst,.slice t x lo hi none,ty,pos,after,guard⟩ (v.er s.ln)∧k v=some r:=by
 unfold Mt at h
 cases h
theorem ON {t:TypeId}{x lo hi mx:Operand}{A:Type}{k:TV S→Option A}{r:A}(h:Mv P s t x lo hi mx k=some r):
  ∃v,PY P s.er ⟨dst,.slice t x (some lo) (some hi) (some mx),ty,pos,after,guard⟩ (v.er s.ln)∧k v=some r:=by
 unfold Mv at h
 cases h
theorem AB {op:Op}{A:Type}{k:TV S→Option (aY S.α)→Option A}{r:A}(h:Fi P s op k=some r):
  ∃v x,PY P s.er ⟨dst,op,ty,pos,after,guard⟩ (v.er s.ln)∧LU s v x∧k v x=some r:=by
 unfold Fi at h
 split at h
 ·split at h
  ·rename_i hv
   exact⟨_,none,PY.move (bc hv),trivial,h⟩
  ·cases h
 ·split at h
  ·rename_i hv
   exact⟨_,none,PY.assign (bc hv),trivial,h⟩
  ·cases h
 ·split at h
  ·rename_i hc
   split at h
   ·split at h
    ·rename_i hv
     exact⟨_,none,PY.Q5 (Ge hc) (bc hv),trivial,h⟩
    ·cases h
   ·split at h
    ·rename_i hv
     exact⟨_,none,PY.Q6 (Ge hc) (bc hv),trivial,h⟩
    ·cases h
  ·cases h
 ·split at h
  ·rename_i hx
   split at h
   ·rename_i b hb
    obtain⟨e1,⟨e,hu⟩,e2⟩:=KK hb s.ln
    subst e1
    split at h
    ·exact⟨_,none,PY.ptrEq (bc hx) e2 hu,trivial,h⟩
    ·exact⟨_,none,PY.Q3 (bc hx) e2 hu,trivial,h⟩
    ·cases h
   split at h
   ·rename_i b hb
    obtain⟨e1,⟨ms,hu⟩,e2⟩:=Pe hb s.ln
    subst e1
    have hx':=e2 _ (bc hx)
    split at h
    ·refine⟨.ae true .bool (b==false),none,PY.K4 (b:=b) false rfl hx' hu,trivial,?_⟩
     have:(b==false)=!b:=by cases b <;> rfl
     rw[this];exact h
    ·refine⟨.ae true .bool (b==true),none,PY.K4 (b:=b) true rfl hx' hu,trivial,?_⟩
     have:(b==true)=b:=by cases b <;> rfl
     rw[this];exact h
    ·cases h
   split at h
   ·rename_i hy
    obtain⟨v,h1,h2⟩:=PG (dst:=dst) (ty:=ty) (pos:=pos) (after:=after) (guard:=guard) hx hy h
    exact⟨v,none,h1,trivial,h2⟩
   ·cases h
  ·cases h
 ·split at h
  ·split at h
   ·rename_i hx
    exact⟨_,none,PY.un (Ge hx) rfl,trivial,h⟩
   ·cases h
  ·split at h
   ·rename_i hx
    exact⟨_,none,PY.un (kO hx) rfl,trivial,h⟩
   ·cases h
  ·cases h
 ·split at h
  ·rename_i hu
   split at h
   ·rename_i hu'
    split at h
    ·rename_i hx
     exact⟨_,none,PY.conv (kO hx) hu hu',trivial,h⟩
    ·cases h
   ·rename_i hu'
    split at h
    ·rename_i hx
     exact⟨_,none,PY.Rn (zi hx) hu hu',trivial,h⟩
    ·cases h
   ·cases h
  ·cases h
 ·split at h
  ·rename_i l hx
   split at h
   ·rename_i v hv
    refine⟨v,none,PY.extract (bc hx) ?_,trivial,h⟩
    rw[cS,ak,hv];rfl
   ·cases h
  ·cases h
 ·split at h
  ·rename_i hx
   split at h
   ·rename_i hv
    exact⟨_,none,Pk hx hv,trivial,h⟩
   ·cases h
  ·cases h
 ·split at h
  ·rename_i hx
   split at h
   ·rename_i hv
    exact⟨_,none,Pm hx hv,trivial,h⟩
   ·cases h
  ·cases h
 ·split at h
  ·rename_i hu
   split at h
   ·rename_i hy
    split at h
    ·rename_i hx
     split at h
     ·rename_i hz _
      obtain⟨a,ha,h⟩:=bind_some h
      exact⟨_,none,Pf hx hy hu hz ha,trivial,h⟩
     ·cases h
    ·rename_i hh τ hx
     split at h
     ·rename_i hz _
      split at h
      ·rename_i e m f τ' l ho
       split at h
       ·rename_i e' _
        subst e'
        obtain⟨a,ha,h⟩:=bind_some h
        obtain⟨h0,h1,h2⟩:=zR ha
        refine⟨_,some ⟨τ',a⟩,?_,⟨hh,_,e,m,f,τ',l,a,rfl,ho,rfl,h2⟩,h⟩
        refine PY.index (n:=s.ln hh) (bc hx) (kO hy) ?_ h0 (by rw[nS ho];exact h1) hu (cD hz)
        show(if S.sz τ'=S.sz τ' then _ else _)=_
        rw[if_pos rfl,cN];rfl
       ·cases h
      ·rename_i e m f dk τ' a ho
       obtain⟨u,hc,h⟩:=bind_some h
       obtain⟨c1,c2⟩:=cO hc
       refine⟨_,none,?_,trivial,h⟩
       refine PY.index (n:=s.ln hh) (bc hx) (kO hy) ?_ c1 (by rw[Hy ho];exact c2) hu (cD hz)
       show(if S.sz τ=S.sz τ then _ else _)=_
       rw[if_pos rfl,cN];rfl
      ·cases h
     ·cases h
    ·rename_i hh τ o n hx
     split at h
     ·rename_i hz _
      split at h
      ·rename_i e m f τ' l ho
       split at h
       ·rename_i e' _
        subst e'
        obtain⟨u,hc,h⟩:=bind_some h
        obtain⟨c1,c2⟩:=cO hc
        obtain⟨a,ha,h⟩:=bind_some h
        refine⟨_,some ⟨τ',a⟩,?_,⟨hh,_,e,m,f,τ',l,a,rfl,ho,rfl,ha⟩,h⟩
        refine PY.index (n:=n) (bc hx) (kO hy) ?_ c1 c2 hu (cD hz)
        show(if S.sz τ'=S.sz τ' then _ else _)=_
        rw[if_pos rfl]
        show _=some (G.loc hh ((o+_)*S.sz τ'+0),n)
        rw[fA,fG]
       ·cases h
      ·obtain⟨u,hc,h⟩:=bind_some h
       obtain⟨c1,c2⟩:=cO hc
       refine⟨_,none,?_,trivial,h⟩
       refine PY.index (n:=n) (bc hx) (kO hy) ?_ c1 c2 hu (cD hz)
       show(if S.sz τ=S.sz τ then _ else _)=_
       rw[if_pos rfl]
       show _=some (G.loc hh ((o+_)*S.sz τ+0),n)
       rw[fA,fG]
      ·cases h
     ·cases h
    ·rename_i hh τ j n hx
     split at h
     ·rename_i hz _
      obtain⟨u,hc,h⟩:=bind_some h
      obtain⟨c1,c2⟩:=cO hc
      refine⟨_,none,?_,trivial,h⟩
      refine PY.index (n:=n) (bc hx) (kO hy) ?_ c1 c2 hu (cD hz)
      show(if S.sz τ=S.sz τ then _ else _)=_
      rw[if_pos rfl,cN];rfl
     ·cases h
    ·cases h
   ·cases h
  ·rename_i n e hu
   split at h
   ·rename_i hy
    split at h
    ·rename_i hh off hx
     split at h
     ·rename_i ki hki
      split at h
      ·rename_i hz _
       obtain⟨u,hc,h⟩:=bind_some h
       obtain⟨c1,c2⟩:=cO hc
       refine⟨_,none,?_,trivial,h⟩
       have:=PY.M8 (P:=P) (dst:=dst) (ty:=ty) (pos:=pos) (after:=after) (guard:=guard) (bc hx) (kO hy) c1 c2 hu (cD hz)
       simpa[TV.er,dr.sz] using this
      ·cases h
     ·cases h
    ·cases h
   ·cases h
  ·cases h
 ·split at h
  ·rename_i hu
   split at h
   ·rename_i hx
    split at h
    ·rename_i hy
     obtain⟨c,hc,h⟩:=bind_some h
     obtain⟨h0,h1⟩:=LH hc
     exact⟨_,none,PY.Mj (zi hx) (kO hy) h0 h1 hu,trivial,h⟩
    ·cases h
   ·cases h
  ·cases h
 ·split at h
  ·obtain⟨v,h1,h2⟩:=OM (dst:=dst) (ty:=ty) (pos:=pos) (after:=after) (guard:=guard) h
   exact⟨v,none,h1,trivial,h2⟩
  ·split at h
   ·rename_i hx
    split at h
    ·rename_i hl
     split at h
     ·rename_i hh
      obtain⟨v,h1,h2⟩:=OL (dst:=dst) (ty:=ty) (pos:=pos) (after:=after) (guard:=guard) hx hl hh h
      exact⟨v,none,h1,trivial,h2⟩
     ·cases h
    ·cases h
   ·cases h
 ·obtain⟨v,h1,h2⟩:=ON (dst:=dst) (ty:=ty) (pos:=pos) (after:=after) (guard:=guard) h
  exact⟨v,none,h1,trivial,h2⟩
 ·split at h
  ·rename_i hf
   have:=B2 hf
   subst this
   split at h
   ·rename_i vs hv
    split at h
    ·rename_i hb
     exact⟨_,none,PY.makeFunc hb (lf hv).1,trivial,h⟩
    ·cases h
   ·cases h
  ·rename_i x hf
   have:=BZ hf
   subst this
   split at h
   ·rename_i hc
    have:=B2 hc
    subst this
    split at h
    ·rename_i v hv
     split at h
     ·rename_i hb
      exact⟨_,none,PY.KS hb (bc hv),trivial,h⟩
     ·cases h
    ·cases h
   ·cases h
  ·cases h
 ·split at h
  ·rename_i v hx
   split at h
   ·exact⟨_,none,PY.nilCheck (bc hx) rfl,trivial,h⟩
   ·exact⟨_,none,PY.nilCheck (bc hx) rfl,trivial,h⟩
   ·rename_i f τ a
    exact⟨_,none,PY.nilCheck (bc hx) (by cases f <;> rfl),trivial,h⟩
   ·exact⟨_,none,PY.nilCheck (bc hx) rfl,trivial,h⟩
   ·exact⟨_,none,PY.Dg (bc hx),trivial,h⟩
   ·rename_i b hh τ i j
    obtain⟨u,hc,h⟩:=bind_some h
    obtain rfl:=cO hc
    exact⟨_,none,PY.Dg (bc hx),trivial,h⟩
   ·rename_i f n o
    obtain⟨a,ha,h⟩:=bind_some h
    obtain rfl:o=some a:=ha
    refine⟨.ptr f (.st n) a,none,PY.nilCheck (g:=(TV.ptr f (.st n) a:TV S).er s.ln) ?_ (by cases f <;> rfl),trivial,h⟩
    rw[bc hx]
    cases f <;> rfl
   ·cases h
  ·cases h
 ·rename_i c
  obtain⟨cal,args,ats⟩:=c
  dsimp only at h
  split at h
  ·split at h
   ·rename_i h1 h2
    have h1:=BZ h1
    have h2:=BZ h2
    subst h1;subst h2
    split at h
    ·rename_i hu
     split at h
     ·rename_i hx
      split at h
      ·rename_i hn
       exact⟨_,none,PY.len (bc hx) (Cr hn) hu,trivial,h⟩
      ·cases h
     ·cases h
    ·rename_i hu
     split at h
     ·rename_i hx
      exact⟨_,none,PY.RN (zi hx) hu,trivial,h⟩
     ·cases h
    ·cases h
   ·cases h
  ·split at h
   ·rename_i h1
    have h1:=yv h1
    subst h1
    split at h
    ·rename_i hx hy
     exact⟨_,none,PY.min2 (kO hx) (kO hy),trivial,h⟩
    ·cases h
   ·cases h
  ·split at h
   ·rename_i h1
    have h1:=yv h1
    subst h1
    split at h
    ·rename_i hx hy
     exact⟨_,none,PY.max2 (kO hx) (kO hy),trivial,h⟩
    ·cases h
   ·cases h
  ·cases h
 ·split at h
  ·rename_i hu
   split at h
   ·rename_i z hz
    split at h
    ·rename_i places hp
     split at h
     ·rename_i vs hv
      split at h
      ·rename_i out ho
       refine⟨.agg out,none,PY.build (z:=z) hu ?_ hp (Hh hv) ?_,trivial,h⟩
       ·cases hq:P.info? _ with
        | none=>rw[hq] at hz;cases hz
        | some iq=>rw[hq] at hz;exact congrArg some hz
       ·have:=EP s.ln places ho
        rw[cS] at this
        rw[←this]
        congr 1
        rw[gS]
        exact fB fun v _=>(EK _ v).symm
      ·cases h
     ·cases h
    ·cases h
   ·cases h
  ·cases h
 ·cases h
end
end
end Go.DN
/-
 DN,part F:loads.
-/
namespace Go.DN
open Go.AM
section
variable {S:dr}
def I2 (x:Operand) (h:Nat):List (Nat×Nat×aY S.α)→Option (aY S.α)
 | []=>none
 | (d,h',y)::r=>match x with
  | .tmp t=>bif Nat.beq d t&&Nat.beq h' h then some y else I2 x h r
  | _=>none
theorem FE {x:Operand}{h:Nat}{y:aY S.α}:∀{l:List (Nat×Nat×aY S.α)},I2 x h l=some y→∃t,x=.tmp t∧(t,h,y)∈l
 | [],e=>by cases e
 | (d,h',y')::r,e=>by
  simp only[I2] at e
  split at e
  ·rename_i t
   cases hb:(Nat.beq d t&&Nat.beq h' h) with
   | true=>
    rw[hb] at e
    cases e
    simp only[ah] at hb
    obtain⟨h1,h2⟩:=hb
    have h1:=ab h1
    have h2:=ab h2
    subst h1;subst h2
    exact⟨_,rfl,aC⟩
   | false=>
    rw[hb] at e
    obtain⟨t',h1,h2⟩:=FE e
    exact⟨t',h1,aw _ h2⟩
  ·cases e
def Bo (s:ag S) (x:Operand) (h:Nat){τ:Ty}(l:List (S.D τ)) (i:Nat){A:Type}(k:aY S.α→Option A):Option A:=
 match I2 x h s.last with
 | some y=>k y
 | none=>(l[i]?).bind fun a=>k ⟨τ,a⟩
def Cz {A:Type}:(τ:Ty)→S.D τ→Ty→Nat→(Ty→Nat→Option A)→Option A
 | .list (.list t),ll,τ,i,k=>match decEq τ (.list t) with
  | isTrue _=>(ll[i]?).bind fun r=>k t (List.length r)
  | isFalse _=>none
 | _,_,_,_,_=>none
theorem Jr {A:Type}{r0:A}:∀{τ':Ty}{a:S.D τ'}{τ:Ty}{i:Nat}{k:Ty→Nat→Option A},Cz τ' a τ i k=some r0→
  ∃t n gs,τ=.list t∧(j0 τ' a).1=S.sz t∧(j0 τ' a).2[i]?=some (n,gs)∧k t n=some r0
 | .list (.list t),ll,τ,i,k,h=>by
  simp only[Cz] at h
  split at h
  ·rename_i e _
   obtain⟨r,h1,h2⟩:=bind_some h
   exact⟨t,List.length r,_,e,rfl,by show(List.map _ ll)[i]?=_;rw[ak,h1];rfl,h2⟩
  ·cases h
 | .list (.int _),_,_,_,_,h=>by cases h
 | .list .bool,_,_,_,_,h=>by cases h
 | .list .cQ,_,_,_,_,h=>by cases h
 | .list (.pt _),_,_,_,_,h=>by cases h
 | .list .str,_,_,_,_,h=>by cases h
 | .list (.st _),_,_,_,_,h=>by cases h
 | .int _,_,_,_,_,h=>by cases h
 | .bool,_,_,_,_,h=>by cases h
 | .cQ,_,_,_,_,h=>by cases h
 | .pt _,_,_,_,_,h=>by cases h
 | .str,_,_,_,_,h=>by cases h
 | .st _,_,_,_,_,h=>by cases h
 | .map,_,_,_,_,h=>by cases h
 | .list .map,_,_,_,_,h=>by cases h
def zU {A:Type}:(τ:Ty)→S.D τ→Ty→Nat→Nat→(TV S→Option A)→Option A
 | .list (.list t),ll,τ,i,j,k=>match t.gW with
  | true=>match decEq τ t with
   | isTrue _=>(ll[i]?).bind fun r=>(r[j]?).bind fun x=>k (.ae true t x)
   | isFalse _=>none
  | false=>none
 | _,_,_,_,_,_=>none
theorem Ha {A:Type}{r0:A}:∀{τ':Ty}{a:S.D τ'}{τ:Ty}{i j:Nat}{k:TV S→Option A},zU τ' a τ i j k=some r0→
  ∃(t:Ty) (x:S.D t) (n:Nat) (gs:List G),τ=t∧t.gW=true∧(j0 τ' a).2[i]?=some (n,gs)∧gs[j*S.sz t]?=some (da S t x)∧k (.ae true t x)=some r0
 | .list (.list t),ll,τ,i,j,k,h=>by
  simp only[zU] at h
  split at h
  ·rename_i hs
   split at h
   ·rename_i e _
    obtain⟨r,h1,h⟩:=bind_some h
    obtain⟨x,h2,h⟩:=bind_some h
    have hst:t.fq=false:=by cases t <;> first | rfl | cases hs
    refine⟨t,x,List.length r,List.flatMap (aP S t) r,e,hs,by show(List.map _ ll)[i]?=_;rw[ak,h1];rfl,?_,h⟩
    have:=@tJ _ (lX S t) r j x h2 0 (ES S t)
    exact this.trans (by show(aP S t x)[0]?=_;rw[jB S hst];rfl)
   ·cases h
  ·cases h
 | .list (.int _),_,_,_,_,_,h=>by cases h
 | .list .bool,_,_,_,_,_,h=>by cases h
 | .list .cQ,_,_,_,_,_,h=>by cases h
 | .list (.pt _),_,_,_,_,_,h=>by cases h
 | .list .str,_,_,_,_,_,h=>by cases h
 | .list (.st _),_,_,_,_,_,h=>by cases h
 | .int _,_,_,_,_,_,h=>by cases h
 | .bool,_,_,_,_,_,h=>by cases h
 | .cQ,_,_,_,_,_,h=>by cases h
 | .pt _,_,_,_,_,_,h=>by cases h
 | .str,_,_,_,_,_,h=>by cases h
 | .st _,_,_,_,_,_,h=>by cases h
 | .map,_,_,_,_,_,h=>by cases h
 | .list .map,_,_,_,_,_,h=>by cases h
def kq (ki:IntKind):List (TV S)→List Int
 | .ae _ (.int k) a::r=>match decEq k ki with
  | isTrue _=>a::kq ki r
  | isFalse _=>[]
 | _=>[]
theorem uz {ki:IntKind}:∀{cs:List (TV S)}{i:Nat}{a:Int},(kq ki cs)[i]?=some a→∃f,cs[i]?=some (.ae f (.int ki) a)
 | [],i,a,h=>by simp[kq] at h
 | v::r,i,a,h=>by
  unfold kq at h
  split at h
  ·rename_i f k b r' e
   cases e
   split at h
   ·rename_i e _
    subst e
    cases i with
    | zero=>cases h;exact⟨f,rfl⟩
    | succ i=>exact uz (cs:=r) (i:=i) (by simpa using h)
   ·simp at h
  ·simp at h
def A1 (q:IntKind) (h0:Nat):List (TV S)→List (Nat×Nat)
 | .ks h τ z n::r=>match decEq τ (.int q) with
  | isTrue _=>match decEq h h0 with
   | isTrue _=>(z,n)::A1 q h0 r
   | isFalse _=>[]
  | isFalse _=>[]
 | _=>[]
theorem HA {q:IntKind}{h0:Nat}:∀{cs:List (TV S)}{i:Nat}{a:Nat×Nat},(A1 q h0 cs)[i]?=some a→cs[i]?=some (.ks h0 (.int q) a.1 a.2)
 | [],i,a,h=>by simp[A1] at h
 | v::r,i,a,h=>by
  unfold A1 at h
  split at h
  ·rename_i h1 τ z n r' e
   cases e
   split at h
   ·rename_i e _
    subst e
    split at h
    ·rename_i e _
     subst e
     cases i with
     | zero=>cases h;rfl
     | succ i=>exact HA (cs:=r) (i:=i) (by simpa using h)
    ·simp at h
   ·simp at h
  ·simp at h
def Sc:List (TV S)→Option Nat
 | .ks h _ _ _::_=>some h
 | _=>none
def yE (i:Nat):List (Nat×List Int)→Option (List Int)
 | []=>none
 | (x,l)::r=>match l with
  | []=>yE i r
  | a::l'=>bif Nat.beq x i then some (a::l') else yE i r
def IS (i:Nat):List kS→Option (List Int)
 | []=>none
 | e::r=>match yE i e.f with
  | some l=>some l
  | none=>IS i r
def Rg (es:List kS) (z j:Nat):Option Int:=(IS z es).bind fun l=>l[j]?
theorem B7 (q:IntKind) (i:Nat):∀f:List (Nat×List Int),xx i (f.map fun p=>(p.1,nU q p.2))=(yE i f).map (nU q)
 | []=>rfl
 | (x,l)::r=>by
  cases l with
  | nil=>exact B7 q i r
  | cons a l'=>
   show(bif Nat.beq x i then some (nU q (a::l')) else xx i (r.map _))=(bif Nat.beq x i then some (a::l') else yE i r).map (nU q)
   cases Nat.beq x i with
   | true=>rfl
   | false=>exact B7 q i r
theorem Ho (q:IntKind) (i:Nat):∀es:List kS,zy i (es.map (kS.me q))=(IS i es).map (nU q)
 | []=>rfl
 | e::r=>by
  simp only[az,zy,IS]
  rw[show(kS.me q e).f=e.f.map fun p=>(p.1,nU q p.2) from rfl,B7]
  cases yE i e.f with
  | some l=>rfl
  | none=>exact Ho q i r
def IR:List kS→Nat→Option kS
 | [],_=>none
 | e::r,t=>bif Nat.beq e.t t then some e else IR r t
def Qo (es:List kS) (t j:Nat):Option (Nat×List Int):=(IR es t).bind fun e=>e.f[j]?
theorem J4 (q:IntKind) (t:Nat):∀es:List kS,Hg (es.map (kS.me q)) t=(IR es t).map (kS.me q)
 | []=>rfl
 | e::r=>by
  simp only[az,Hg,mG,IR]
  cases h:Nat.beq e.t t with
  | true=>simp[kS.me,h]
  | false=>
   have:=J4 q t r
   simp only[Hg] at this
   simp[kS.me,h] at this⊢
   exact this
theorem JO {P:Program}{t:TypeId}{z:Value}(h:(P.info? t).bind (·.zero)=some z):∀w,(zeroValue t).run P w=.ok z w:=by
 intro w
 cases hi:P.info? t with
 | none=>rw[hi] at h;cases h
 | some i=>
  rw[hi] at h
  have h:i.zero=some z:=h
  simp[zeroValue,typeInfo,hi,h]
theorem O4 {es:List kS}{t j z:Nat}{l:List Int}(h:Qo es t j=some (z,l)) (q:IntKind):∃e,Hg (es.map (kS.me q)) t=some e∧e.f[j]?=some (z,nU q l):=by
 obtain⟨e,h1,h2⟩:=bind_some h
 refine⟨kS.me q e,by rw[J4,h1];rfl,?_⟩
 show(e.f.map fun p=>(p.1,nU q p.2))[j]?=_
 rw[ak,h2];rfl
theorem M7 (q:IntKind) (l:List Int):(nU q l).length=l.length:=by unfold nU;simp
def I1 {A:Type}(P:Program) (W:List Nat) (s:ag S) (t:TypeId) (x y:Operand) (k:TV S→Option A):Option A:=
 none
def zt (k:ByteArray):List (aY S.α)→Bool
 | [⟨.str,x⟩,_]=>decide (x=k)
 | _=>false
def mM (n:Nat) (l:List (S.α n)) (k:ByteArray):Option (S.α n):=List.find? (fun a=>zt k (S.cells n a)) l
def EY (q:IntKind):List (aY S.α)→Int
 | [_,⟨.int q',v⟩]=>bif decide (q'=q) then v else 0
 | _=>0
def Ed (n:Nat) (q:IntKind):Option (S.α n)→Int
 | some a=>EY q (S.cells n a)
 | none=>0
theorem ye {n:Nat}{q:IntKind}(ht:S.cg n=[.str,.int q]) (a:S.α n):∃(x:ByteArray) (v:Int),S.cells n a=[⟨.str,x⟩,⟨.int q,v⟩]:=by
 have h:=S.l7 n a
 rw[ht] at h
 match hc:S.cells n a,h with
 | [⟨τ1,x⟩,⟨τ2,v⟩],h=>
  simp only[az,dE,List.cons.injEq,and_true] at h
  obtain⟨h1,h2⟩:=h
  have h1:τ1=.str:=h1
  have h2:τ2=.int q:=h2
  subst h1;subst h2
  exact⟨x,v,rfl⟩
theorem E0 {n:Nat}{q:IntKind}(ht:S.cg n=[.str,.int q]) (k:ByteArray):∀l:List (S.α n),iG (List.map (fun a=>pF (S.cells n a)) l) k=(mM n l k).map fun a=>.val (.int q (EY q (S.cells n a)))
 | []=>rfl
 | a::r=>by
  obtain⟨x,v,hc⟩:=ye ht a
  have ih:=E0 ht k r
  have e1:pF (S.cells n a)=(x,.val (.int q v)):=by rw[hc];rfl
  have e2:zt k (S.cells n a)=decide (x=k):=by rw[hc];rfl
  have e3:EY q (S.cells n a)=v:=by rw[hc];show(bif decide (q=q) then v else 0)=v;rw[decide_eq_true rfl];rfl
  unfold iG at ih⊢
  unfold mM at ih⊢
  show(List.find? _ (pF (S.cells n a)::List.map (fun a=>pF (S.cells n a)) r)).map _=_
  rw[e1]
  by_cases hx:x=k
  ·rw[List.find?_cons_of_pos (by simpa using hx),List.find?_cons_of_pos (by rw[e2];simpa using hx)]
   show some (G.val (.int q v))=some (G.val (.int q (EY q (S.cells n a))))
   rw[e3]
  ·rw[List.find?_cons_of_neg (by simpa using hx),List.find?_cons_of_neg (by rw[e2];simpa using hx)]
   exact ih
def I0 {A : Type} (P : Program) (W : List Nat) (s : ag S) (t : TypeId) (x y : Operand) (c : Bool) (k : TV S → Option A) : Option A :=
  match cq s x with
  | some (.mp h) => match W.contains h with
    | true => none
    | false => match aA s.a7 h with
      | some (.deep _ _ _ .sm (.st n0) a0) => match S.cells n0 a0 with
       | [⟨.list (.st n), l⟩] => match cq s y with
        | some (.ae _ .str ky) => match P.underlying t with
          | some (.map kt et) => match P.underlying kt with
            | some .string => match S.cg n with
              | [.str, .int q] => match (P.info? et).bind (·.zero) with
                | some (.int q' z) => match decide (q' = q), decide (z = 0) with
                  | true, true => k (bif c then .aT [.ae true (.int q) (Ed n q (mM n l ky)), .ae true .bool (mM n l ky).isSome] else .ae true (.int q) (Ed n q (mM n l ky)))
                  | _, _ => none
                | _ => none
              | _ => none
            | _ => none
          | _ => none
        | _ => none
       | _ => none
      | _ => none
  | _ => none
def PV (s:ag S) (x:Operand):Bool:=match cq s x with
 | some (.mp h)=>match aA s.a7 h with
  | some (.deep _ _ _ .sm _ _)=>true
  | _=>false
 | _=>false
def He (P:Program) (W:List Nat) (s:ag S) (op:Op){A:Type}(k:TV S→Option A):Option A:=
 match op with
 | .convert t t' x=>match cq s x with
  | some (.aM h (.int .u8))=>match W.contains h with
   | true=>none
   | false=>match aA s.a7 h with
    | some (.arr _ _ _ (.int .u8) l)=>match P.underlying t with
     | some (.slice e)=>match P.underlying e with
      | some (.int .u8)=>match P.underlying t' with
       | some .string=>k (.ae true .str (strOf l))
       | _=>none
      | _=>none
     | _=>none
    | _=>none
  | _=>none
 | .load t x=>match CO P t with
  | some false=>match cq s x with
   | some (.ptr f τ a)=>match τ.fq with
    | false=>k (.ae f τ a)
    | true=>none
   | some (.loc h off)=>match W.contains h with
    | true=>none
    | false=>match aA s.a7 h with
     | some (.box _ _ cs)=>match cs[off]? with
      | some v=>k v
      | none=>none
     | _=>none
   | some (.ia h τ i j)=>match W.contains h with
    | true=>none
    | false=>match aA s.a7 h with
     | some (.arr _ _ f τ' l)=>match decEq τ' τ with
      | isTrue _=>Bo s x h l i fun y=>match y with
       | ⟨.st n,a⟩=>match (S.cells n a)[j]? with
        | some z=>k (.ae f z.τ z.a)
        | none=>none
       | y=>match j with
        | 0=>k (.ae f y.τ y.a)
        | _=>none
      | isFalse _=>none
     | some (.deep _ _ _ (.tH _) τ' a)=>match j with
      | 0=>Cz τ' a τ i fun t n=>k (.ks h t i n)
      | _=>none
     | some (.box _ _ cs)=>match τ with
      | .int ki=>(cj (i<(kq ki (cs.drop j)).length)).bind fun _=>k (.ae true (.int ki) ((kq ki (cs.drop j)).getD i 0))
      | .list (.int q)=>match Sc (cs.drop j) with
       | some h1=>(cj (i<(A1 q h1 (cs.drop j)).length)).bind fun _=>k (.ks h1 (.int q) ((A1 q h1 (cs.drop j)).getD i (0,0)).1 ((A1 q h1 (cs.drop j)).getD i (0,0)).2)
       | none=>none
      | _=>none
     | _=>none
   | some (.kp h τ i j)=>match W.contains h with
    | true=>none
    | false=>match aA s.a7 h with
     | some (.deep _ _ _ (.tH _) τ' a)=>zU τ' a τ i j k
     | some (.deep _ _ _ (.map q _ _) .map d)=>match τ with
      | .list _=>(Qo d.es i j).bind fun p=>k (.ks h (.int q) p.1 (List.length p.2))
      | .int q'=>match decEq q' q with
       | isTrue _=>(Rg d.es i j).bind fun x=>k (.ae true (.int q) x)
       | isFalse _=>none
      | _=>none
     | _=>none
   | _=>none
  | some true=>match nc P t with
   | some z=>match cq s x with
    | some (.ptr f (.st n) a)=>match Nat.beq z (S.cg n).length with
     | true=>k (.ae f (.st n) a)
     | false=>none
    | some (.loc h off)=>match W.contains h with
     | true=>none
     | false=>match aA s.a7 h with
      | some (.box _ _ cs)=>match Nat.ble (off+z) cs.length with
       | true=>k (.agg ((cs.drop off).take z))
       | false=>none
      | _=>none
    | some (.ia h τ i j)=>match W.contains h with
     | true=>none
     | false=>match aA s.a7 h with
      | some (.arr _ _ f τ' l)=>match decEq τ' τ with
       | isTrue _=>match j with
        | 0=>match Nat.beq z (S.sz τ) with
         | true=>match τ with
          | .st _=>Bo s x h l i fun y=>k (.ae f y.τ y.a)
          | _=>none
         | false=>none
        | j+1=>none
       | isFalse _=>none
      | _=>none
    | _=>none
   | none=>none
  | none=>none
 | .lookup t x y c=>bif PV s x then I0 P W s t x y c k else bif c then I1 P W s t x y k else none
 | _=>none
section
variable {P:Program}{W:List Nat}{s:ag S}{dst:Option Tmp}{ty:TypeId}{pos:String}{after:Array Edge}{guard:Option (Nat×Bool)}
theorem zY {x:Operand}{h i:Nat}{bs:TypeId}{m f:Bool}{τ:Ty}{l:List (S.D τ)}{A:Type}{k:aY S.α→Option A}{r:A}(hl:aJ s) (hx:∃j,cq s x=some (.ia h τ i j)) (ho:aA s.a7 h=some (.arr bs m f τ l))
  (hk:Bo s x h l i k=some r):∃a,l[i]?=some a∧k ⟨τ,a⟩=some r:=by
 unfold Bo at hk
 split at hk
 ·rename_i y hla
  obtain⟨t,e0,hm⟩:=FE hla
  subst e0
  obtain⟨i',ety',m',f',τ',l',a,e1,e2,e3,e4⟩:=hl t h y hm
  rw[ho] at e2
  cases e2
  obtain⟨j,hx⟩:=hx
  simp only[cq] at hx
  rw[e1] at hx
  cases hx
  subst e3
  exact⟨a,e4,hk⟩
 ·exact bind_some hk
theorem dJ {h:Nat}{o:TO S}(ho:aA s.a7 h=some o):ay s.er.st h=some (o.er s.ln):=jA ho
theorem Hr (bs:TypeId) (m f:Bool) (τ:Ty) (l:List (S.D τ)) (ln:Nat→Nat){g:G}(hg:g.one=true) (hf:∀g',g≠.fr g'):((TO.arr bs m f τ l:TO S).er ln).out g=dc f g:=by
 cases g <;> first | rfl | (cases f <;> rfl)
theorem DL (τ:Ty) (a:S.D τ):∀g∈aP S τ a,∀g',g≠.fr g':=by
 intro g hg g' e
 subst e
 cases τ with
 | st n=>
  rw[fZ] at hg
  obtain⟨x,hx,e⟩:=gq.1 hg
  have h2:=kB n a _ hx
  obtain⟨τx,ax⟩:=x
  cases τx with
  | st _=>cases h2
  | pt _=>cases ax <;> cases e
  | _=>cases e
 | pt n=>cases a <;> simp[aP,xY] at hg
 | _=>simp[aP,xY] at hg
theorem MS {t:TypeId}{x y:Operand}{A:Type}{k:TV S→Option A}{r:A}(h:I1 P W s t x y k=some r):
  ∃v,fO P W s.er ⟨dst,.lookup t x y true,ty,pos,after,guard⟩ (v.er s.ln)∧k v=some r:=by
 unfold I1 at h
 cases h
theorem MR {t : TypeId} {x y : Operand} {c : Bool} {A : Type} {k : TV S → Option A} {r : A} (h : I0 P W s t x y c k = some r) :
    ∃ v, fO P W s.er ⟨dst, .lookup t x y c, ty, pos, after, guard⟩ (v.er s.ln) ∧ k v = some r := by
  unfold I0 at h
  split at h
  · rename_i hh hx
    split at h
    · cases h
    · rename_i hW
      split at h
      · rename_i e m f n0 a0 ho
        split at h
        rotate_left
        · cases h
        rename_i n l hcell
        split at h
        · rename_i fl ky hy
          split at h
          · rename_i kt et hu
            split at h
            · rename_i hk
              split at h
              · rename_i q ht
                split at h
                · rename_i q' z hz
                  split at h
                  · rename_i hq h0
                    have hq := of_decide_eq_true hq
                    have h0 := of_decide_eq_true h0
                    subst hq; subst h0
                    refine ⟨_, ?_, h⟩
                    have hy' : ev s.er y = some (.val (.string ky)) := by rw [bc hy]; cases fl <;> rfl
                    have hme : o8 (S := S) (.st n0) a0 = List.map (fun a => pF (S.cells n a)) l := by
                      show (match S.cells n0 a0 with | [⟨.list (.st n), l⟩] => List.map (fun a => pF (S.cells n a)) l | _ => []) = _
                      rw [hcell]
                    have hK : GU P kt Value.string := ⟨⟨.string, hk, fun k => by simp [MapKept.IsKey]⟩, fun k k' e => Value.string.inj e⟩
                    have := YL.iG (P := P) (W := W) (dst := dst) (ty := ty) (pos := pos) (after := after) (guard := guard) (key := Value.string) (ky := ky) (es := o8 (S := S) (.st n0) a0) (zv := .int q' 0) (c := c) (bc hx) hy' (dJ ho) rfl (fun _ e he => by
                      rw [hme] at he
                      obtain ⟨a, _, rfl⟩ := gq.1 he
                      obtain ⟨x, v, hc⟩ := ye ht a
                      exact ⟨_, by rw [hc]; rfl⟩) hu hK (JO hz) hW
                    rw [hme, E0 ht] at this
                    have e5 : ((bif c then .aT [.ae true (.int q') (Ed n q' (mM n l ky)), .ae true .bool (mM n l ky).isSome] else .ae true (.int q') (Ed n q' (mM n l ky))) : TV S).er s.ln = (bif c then .aT [((mM n l ky).map fun a => G.val (.int q' (EY q' (S.cells n a)))).getD (.val (.int q' 0)), .val (.bool ((mM n l ky).map fun a => G.val (.int q' (EY q' (S.cells n a)))).isSome)] else ((mM n l ky).map fun a => G.val (.int q' (EY q' (S.cells n a)))).getD (.val (.int q' 0))) := by
                      cases c <;> cases mM n l ky <;> rfl
                    rw [e5]
                    exact this
                  · cases h
                · cases h
              · cases h
            · cases h
          · cases h
        · cases h
      · cases h
  · cases h
theorem Aj {op:Op}{A:Type}{k:TV S→Option A}{r:A}(hl:aJ s) (h:He P W s op k=some r):
  ∃v,fO P W s.er ⟨dst,op,ty,pos,after,guard⟩ (v.er s.ln)∧k v=some r:=by
 unfold He at h
 split at h
 ·rename_i t t' x
  split at h
  ·rename_i hh hx
   split at h
   ·cases h
   ·rename_i hW
    split at h
    ·rename_i e m f l ho
     split at h
     ·rename_i e0 hu
      split at h
      ·rename_i he
       split at h
       ·rename_i hu'
        refine⟨_,?_,h⟩
        have hx':ev s.er x=some (.aM hh 1 0 (List.length l)):=by rw[bc hx];show some (G.aM _ _ _ (s.ln hh))=_;rw[nS ho];rfl
        refine YL.NG hx' (dJ ho) rfl ?_ rfl hu he hu' hW
        show List.flatMap (aP S (.int .u8)) l=_
        clear hx'
        generalize (show List Int from l)=l'
        induction l' with
        | nil=>rfl
        | cons x r ih=>rw[cP,ih];rfl
       ·cases h
      ·cases h
     ·cases h
    ·cases h
  ·cases h
 ·rename_i t x
  split at h
  ·rename_i ha
   split at h
   ·rename_i f τ a hx
    split at h
    ·rename_i hs
     refine⟨_,?_,h⟩
     rw[ot hs]
     have e0:=bc hx
     rw[Bj] at e0
     have e1:(aP S τ a)[0]?=some (da S τ a):=by rw[jB S hs];rfl
     cases f with
     | true=>exact YL.RG e0 e1 (eS ha) rfl
     | false=>exact YL.ptr e0 e1 (eS ha)
    ·cases h
   ·rename_i hh off hx
    split at h
    ·cases h
    ·rename_i hW
     split at h
     ·rename_i e m cs ho
      split at h
      ·rename_i v hv
       refine⟨v,?_,h⟩
       refine YL.wg (bc hx) (dJ ho) ?_ (eS ha) hW rfl
       show(TV.er.go s.ln cs)[off]?=_
       rw[cS,ak,hv];rfl
      ·cases h
     ·cases h
   ·rename_i hh τ i j hx
    split at h
    ·cases h
    ·rename_i hW
     split at h
     ·rename_i e m f τ' l ho
      split at h
      ·rename_i e1 _
       subst e1
       obtain⟨a,ha',h2⟩:=zY hl ⟨j,hx⟩ ho h
       replace h:=h2
       clear h2
       have key:∀(g:G),(aP S τ' a)[j]?=some g→fO P W s.er ⟨dst,.load t x,ty,pos,after,guard⟩ (dc f g):=by
        intro g hg
        have hm:=aQ hg
        refine YL.load (k:=(TO.arr e m f τ' l:TO S).er s.ln) (g:=g) (bc hx) (dJ ho) ?_ (eS ha) hW (Hr e m f τ' l _ (xZ S τ' a g hm) (DL τ' a g hm))
        have hj:j<S.sz τ':=by have:=(av.1 hg).1;rw[rm] at this;exact this
        have:=@tJ _ (lX S τ') l i a ha' j hj
        show(List.flatMap (aP S τ') l)[i*S.sz τ'+j]?=_
        exact this.trans hg
       split at h
       ·rename_i n a' he
        cases he
        split at h
        ·rename_i z hz
         refine⟨_,?_,h⟩
         rw[ot (kB n _ z (aQ hz))]
         exact key _ (by rw[fZ,ak,hz];rfl)
        ·cases h
       ·rename_i hns
        split at h
        ·refine⟨_,?_,h⟩
         have hs:τ'.fq=false:=by
          cases τ' with
          | st n=>exact absurd rfl (hns n a)
          | _=>rfl
         rw[ot hs]
         exact key _ (by rw[jB S hs];rfl)
        ·cases h
      ·cases h
     ·rename_i e m f kty τ' a ho
      split at h
      ·obtain⟨t',n,gs,e1,e2,e3,h2⟩:=Jr h
       subst e1
       refine⟨_,?_,h2⟩
       have:=YL.QE (P:=P) (W:=W) (dst:=dst) (ty:=ty) (pos:=pos) (after:=after) (guard:=guard) (t:=t) (x:=x) (h:=hh) (i:=i) (by rw[bc hx];simp[TV.er,dr.sz]) (dJ ho) rfl e3 (eS ha) hW
       rw[e2] at this
       exact this
      ·cases h
     ·rename_i e m cs ho
      split at h
      ·rename_i ki
       obtain⟨_,hc,h⟩:=bind_some h
       have hc:=cO hc
       refine⟨_,?_,h⟩
       obtain⟨f,hv⟩:=uz (ao hc)
       rw[bn] at hv
       have:=YL.wg (P:=P) (W:=W) (dst:=dst) (ty:=ty) (pos:=pos) (after:=after) (guard:=guard) (t:=t) (g:=.val (.int ki (kq ki (cs.drop j))[i])) (bc hx) (dJ ho) (by
        show(TV.er.go s.ln cs)[i*1+j]?=_
        rw[cS,ak,show i*1+j=j+i by omega,hv]
        exact congrArg some (tP f ki _)) (eS ha) hW rfl
       rw[ei,ao hc]
       exact this
      ·rename_i q
       split at h
       ·rename_i h1 _
        obtain⟨_,hc,h⟩:=bind_some h
        have hc:=cO hc
        refine⟨_,?_,h⟩
        have hv:=HA (ao hc)
        rw[bn] at hv
        have:=YL.wg (P:=P) (W:=W) (dst:=dst) (ty:=ty) (pos:=pos) (after:=after) (guard:=guard) (t:=t) (g:=.ks h1 (A1 q h1 (cs.drop j))[i].1 1 (A1 q h1 (cs.drop j))[i].2) (bc hx) (dJ ho) (by
         show(TV.er.go s.ln cs)[i*1+j]?=_
         rw[cS,ak,show i*1+j=j+i by omega,hv]
         rfl) (eS ha) hW rfl
        rw[ei,ao hc]
        exact this
       ·cases h
      ·cases h
     ·cases h
   ·rename_i hh τ i j hx
    split at h
    ·cases h
    ·rename_i hW
     split at h
     ·rename_i e m f kty τ' a ho
      obtain⟨t',x',n,gs,e1,e2,e3,e4,h2⟩:=Ha h
      subst e1
      refine⟨_,?_,h2⟩
      have:=YL.CA (P:=P) (W:=W) (dst:=dst) (ty:=ty) (pos:=pos) (after:=after) (guard:=guard) (t:=t) (x:=x) (bc hx) (dJ ho) rfl e3 e4 (eS ha) hW
      have e5:∀b,La b (da S τ x')=(TV.ae true τ x':TV S).er s.ln:=by
       intro b
       cases τ with
       | list _=>cases e2
       | st _=>cases e2
       | cQ=>cases e2
       | pt _=>cases e2
       | _=>rfl
      rw[e5] at this
      exact this
     ·rename_i e m f q kty tty d ho
      split at h
      ·rename_i τ
       obtain⟨⟨z,l⟩,h1,h⟩:=bind_some h
       refine⟨_,?_,h⟩
       obtain⟨e',h2,h3⟩:=O4 h1 q
       have:=YL.Qq (P:=P) (W:=W) (dst:=dst) (ty:=ty) (pos:=pos) (after:=after) (guard:=guard) (t:=t) (x:=x) (h:=hh) (tt:=i) (off:=j) (q:=q) (kty:=kty) (tty:=tty) (n:=d.n) (pd:=KF q d.pd) (by rw[bc hx];simp[TV.er,dr.sz]) (dJ ho) rfl h2 h3 (eS ha) hW
       rw[M7] at this
       exact this
      ·rename_i q'
       split at h
       ·rename_i e' _
        subst e'
        obtain⟨x',hc,h⟩:=bind_some h
        obtain⟨l,h1,h2⟩:=bind_some hc
        refine⟨_,?_,h⟩
        have:=YL.O6 (P:=P) (W:=W) (dst:=dst) (ty:=ty) (pos:=pos) (after:=after) (guard:=guard) (t:=t) (x:=x) (h:=hh) (z:=i) (off:=j) (q:=q') (kty:=kty) (tty:=tty) (n:=d.n) (pd:=KF q' d.pd) (es:=d.es.map (kS.me q')) (gs:=nU q' l) (u:=.int q' x')
         (by rw[bc hx];simp[TV.er,dr.sz]) (dJ ho) rfl (by rw[Ho,h1];rfl) (by unfold nU;rw[ak,h2];rfl) (eS ha) hW
        rw[ot rfl]
        exact this
       ·cases h
      ·cases h
     ·cases h
   ·cases h
  ·rename_i ha
   split at h
   ·rename_i z hz
    split at h
    ·rename_i f n a hx
     split at h
     ·rename_i hc
      have hc:=ab hc
      refine⟨_,?_,h⟩
      have e0:=bc hx
      rw[Bj] at e0
      have hlen:(aP S (.st n) a).length=z:=by rw[rm,hc];rfl
      show fO P W s.er _ (.agg ((aP S (.st n) a).map (dc f)))
      cases f with
      | true=>
       have:=YL.OT (P:=P) (W:=W) (dst:=dst) (ty:=ty) (pos:=pos) (after:=after) (guard:=guard) (sz:=z) e0 (by omega) (eS ha) (cD hz)
       rw[dz (by omega)] at this
       exact this
      | false=>
       have:=YL.P6 (P:=P) (W:=W) (dst:=dst) (ty:=ty) (pos:=pos) (after:=after) (guard:=guard) (sz:=z) e0 (by omega) (eS ha) (cD hz)
       rw[dz (by omega)] at this
       have e2:(aP S (.st n) a).map (dc false)=aP S (.st n) a:=by
        have:(dc false)=(id:G→G):=rfl
        rw[this,List.map_id]
       rw[e2]
       exact this
     ·cases h
    ·rename_i hh off hx
     split at h
     ·cases h
     ·rename_i hW
      split at h
      ·rename_i e m cs ho
       split at h
       ·rename_i hc
        refine⟨_,?_,h⟩
        have:=YL.Cq (P:=P) (W:=W) (dst:=dst) (ty:=ty) (pos:=pos) (after:=after) (guard:=guard) (sz:=z) (bc hx) (dJ ho) rfl (eS ha) (cD hz)
         (by show off+z≤(TV.er.go s.ln cs).length;rw[cS,aU];exact eN hc) hW
        show fO P W s.er _ (.agg (TV.er.go s.ln ((cs.drop off).take z)))
        rw[cS,List.map_take,List.map_drop,←cS]
        exact this
       ·cases h
      ·cases h
    ·rename_i hh τ i j hx
     split at h
     ·cases h
     ·rename_i hW
      split at h
      ·rename_i e m f τ' l ho
       split at h
       ·rename_i e1 _
        subst e1
        split at h
        ·split at h
         ·rename_i hc
          have hc:=ab hc
          split at h
          ·rename_i n _ _ _ _ _
           obtain⟨a,ha',h⟩:=zY hl ⟨_,hx⟩ ho h
           refine⟨_,?_,h⟩
           have hil:=(av.1 ha').1
           have:=YL.MT (P:=P) (W:=W) (dst:=dst) (ty:=ty) (pos:=pos) (after:=after) (guard:=guard) (sz:=z) (bc hx) (dJ ho) (eS ha) (cD hz)
            (by
             show i*S.sz _+0+z≤(List.flatMap (aP S _) l).length
             have:=@iA _ (lX S (.st n)) l
             rw[show(List.flatMap (aP S (.st n)) l).length=_ from this,hc]
             show i*S.sz _+0+S.sz _≤l.length*S.sz _
             have:(i+1)*S.sz (.st n)≤l.length*S.sz (.st n):=cJ _ hil
             rw[fA,Nat.one_mul] at this
             omega) hW
           show fO P W s.er _ (.agg ((aP S (.st n) a).map (dc f)))
           have e3:((List.flatMap (aP S (.st n)) l).drop (i*S.sz (.st n)+0)).take z=aP S (.st n) a:=by
            rw[hc,fG]
            exact @Gi _ (lX S (.st n)) l (i:Int) a (by unfold idx;rw[if_pos (by omega)];simpa using ha')
           have e4:((List.drop (i*S.sz (.st n)+0) (List.flatMap (aP S (.st n)) l)).take z).map (((TO.arr e m f (.st n) l:TO S).er s.ln).out)=(aP S (.st n) a).map (dc f):=by
            rw[e3]
            exact fB fun g hg=>Hr e m f (.st n) l _ (xZ S _ a g hg) (DL _ a g hg)
           rw[←e4]
           exact this
          ·cases h
         ·cases h
        ·cases h
       ·cases h
      ·cases h
    ·cases h
   ·cases h
  ·cases h
 ·rename_i t x y c
  cases hs:PV s x with
  | true=>rw[hs] at h;exact MR h
  | false=>
   rw[hs] at h
   cases c with
   | true=>exact MS h
   | false=>cases h
 ·cases h
end
end
end Go.DN
/-
 DN,part G:which handles are named;new ones;objects that change.
-/
namespace Go.DN
open Go.AM
section
variable {S:dr}
def TV.has (k:Nat):TV S→Bool
 | .loc h _=>Nat.beq h k
 | .ia h _ _ _=>Nat.beq h k
 | .aM h _=>Nat.beq h k
 | .sub h _ _ _=>Nat.beq h k
 | .agg l=>go k l
 | .aT l=>go k l
 | .aR _ l=>go k l
 | .cT h=>Nat.beq h k
 | .mp h=>Nat.beq h k
 | .ks h _ _ _=>Nat.beq h k
 | .kp h _ _ _=>Nat.beq h k
 | .gH b h _ _ _=>Nat.beq h k&&!b
 | .bP b h _=>Nat.beq h k&&!b
 | _=>false
where go (k:Nat):List (TV S)→Bool
 | []=>false
 | x::r=>x.has k||go k r
theorem Nx (k:Nat) (f:Bool) (τ:Ty) (a:S.D τ) (h:τ.fq=false):(dc f (da S τ a)).bR k=false:=by
 cases τ with
 | st n=>cases h
 | pt n=>cases a <;> cases f <;> rfl
 | _=>cases f <;> rfl
theorem Gm (k:Nat) (f:Bool) (τ:Ty) (a:S.D τ):(nh f τ a).bR k=false:=by
 cases τ with
 | st n=>
  show G.bR.go k ((aP S (.st n) a).map (dc f))=false
  rw[fZ]
  have:=kB n a
  generalize S.cells n a=l at this
  induction l with
  | nil=>rfl
  | cons x r ih=>
   simp only[az,G.bR.go,Nx k f x.τ x.a (this x aC),fx]
   exact ih fun y hy=>this y (aw _ hy)
 | pt n=>cases a <;> cases f <;> rfl
 | _=>cases f <;> rfl
mutual
theorem vr (ln:Nat→Nat) (k:Nat):∀v:TV S,(v.er ln).bR k=v.has k
 | .ae f τ a=>Gm k f τ a
 | .ptr f τ a=>by cases f <;> rfl
 | .agg l=>vq ln k l
 | .aT l=>vq ln k l
 | .aR _ l=>vq ln k l
 | .loc _ _=>rfl
 | .ia _ _ _ _=>rfl
 | .aM _ _=>rfl
 | .sub _ _ _ _=>rfl
 | .cT _=>rfl
 | .mp _=>rfl
 | .ks _ _ _ _=>rfl
 | .kp _ _ _ _=>rfl
 | .gH b h _ _ _=>by
  cases b with
  | true=>show false=(Nat.beq h k&&false);rw[Bool.and_false]
  | false=>show Nat.beq h k=(Nat.beq h k&&true);rw[jF]
 | .bP b h _=>by
  cases b with
  | true=>show false=(Nat.beq h k&&false);rw[Bool.and_false]
  | false=>show Nat.beq h k=(Nat.beq h k&&true);rw[jF]
 | .val _=>rfl
 | .any=>rfl
theorem vq (ln:Nat→Nat) (k:Nat):∀l:List (TV S),G.bR.go k (TV.er.go ln l)=TV.has.go k l
 | []=>rfl
 | x::r=>by simp only[TV.er.go,G.bR.go,TV.has.go,vr ln k x,vq ln k r]
end
mutual
theorem rk {ln ln':Nat→Nat}:∀v:TV S,(∀k,v.has k=true→ln k=ln' k)→v.er ln=v.er ln'
 | .ae f τ a,_=>rfl
 | .ptr f τ a,_=>rfl
 | .agg l,h=>congrArg G.agg (pP l h)
 | .aT l,h=>congrArg G.aT (pP l h)
 | .aR f l,h=>congrArg (G.aR f) (pP l h)
 | .loc _ _,_=>rfl
 | .ia _ _ _ _,_=>rfl
 | .aM h τ,hh=>congrArg (G.aM h (S.sz τ) 0) (hh h (aK h))
 | .sub _ _ _ _,_=>rfl
 | .cT _,_=>rfl
 | .mp _,_=>rfl
 | .ks _ _ _ _,_=>rfl
 | .kp _ _ _ _,_=>rfl
 | .gH _ _ _ _ _,_=>rfl
 | .bP _ _ _,_=>rfl
 | .val _,_=>rfl
 | .any,_=>rfl
theorem pP {ln ln':Nat→Nat}:∀l:List (TV S),(∀k,TV.has.go k l=true→ln k=ln' k)→TV.er.go ln l=TV.er.go ln' l
 | [],_=>rfl
 | x::r,h=>by
  simp only[TV.er.go]
  rw[rk x fun k hk=>h k (by simp[TV.has.go,hk]),pP r fun k hk=>h k (by simp[TV.has.go,hk])]
end
def fT (k:Nat):List (Nat×TV S)→Bool
 | []=>false
 | (_,v)::r=>v.has k||fT k r
def TO.has (k:Nat):TO S→Bool
 | .box _ _ cs=>TV.has.go k cs
 | .arr ..=>false
 | .lp _ _ cs=>TV.has.go k cs
 | .deep ..=>false
def cW (k:Nat):List (Nat×TO S)→Bool
 | []=>false
 | (_,o)::r=>o.has k||cW k r
def ag.free (s:ag S) (k:Nat):Bool:=(match aA s.a7 k with | none=>true | some _=>false)&&(!(fT k s.bN)&&(!(cW k s.a7)&&(!(TV.has.go k s.df)&&Nat.blt k 500)))
theorem HI (ln:Nat→Nat) (k:Nat):∀fr:List (Nat×TV S),xS k (jq ln fr)=!(fT k fr)
 | []=>rfl
 | (_,v)::r=>by simp only[jq,xS,fT,vr,HI ln k r,Bool.not_or]
theorem tu {ln:Nat→Nat}:∀{st:List (Nat×TO S)}{t:Nat},aA st t=none→ay (bA ln st) t=none
 | [],_,_=>rfl
 | (k,g)::r,t,h=>by
  simp only[aA] at h
  simp only[bA,ay]
  cases hk:Nat.beq k t with
  | true=>rw[hk] at h;cases h
  | false=>rw[hk] at h;exact tu h
theorem Hl (ln:Nat→Nat) (k:Nat):∀st:List (Nat×TO S),cW k st=false→vL k (bA ln st)=true
 | [],_=>rfl
 | (_,o)::r,h=>by
  simp only[cW,bO] at h
  simp only[bA,vL,ah,Hl ln k r h.2,and_true]
  cases o with
  | box e m cs=>simp only[TO.er,vq,fx];have:=h.1;simp only[TO.has] at this;simp[this]
  | arr e m f τ l=>rfl
  | lp l n cs=>simp only[TO.er,vq,fx];have:=h.1;simp only[TO.has] at this;simp[this]
  | deep=>rfl
theorem yP (ln:Nat→Nat) (k:Nat):∀l:List (TV S),oE k (TV.er.go ln l)=!(TV.has.go k l)
 | []=>rfl
 | x::r=>by simp only[TV.er.go,oE,TV.has.go,vr,yP ln k r,Bool.not_or]
theorem free_spec {s:ag S}{k:Nat}(h:s.free k=true):aA s.a7 k=none∧fT k s.bN=false∧cW k s.a7=false∧TV.has.go k s.df=false∧Nat.blt k 500=true:=by
 unfold ag.free at h
 simp only[ah,aZ] at h
 obtain⟨h1,h2,h3,h4,h5⟩:=h
 refine⟨?_,h2,h3,h4,h5⟩
 split at h1
 ·assumption
 ·cases h1
theorem iM {s:ag S}{k:Nat}(h:s.free k=true):fresh s.er k=true:=by
 obtain⟨h1,h2,h3,h4,h5⟩:=free_spec h
 unfold fresh
 have e1:=tu (ln:=s.ln) h1
 have e2:=HI s.ln k s.bN
 rw[h2] at e2
 have e3:=Hl s.ln k s.a7 h3
 have e4:=yP s.ln k s.df
 rw[h4] at e4
 have e5:Nat.blt k 1000=true:=by simp only[fU] at h5⊢;omega
 simp only[ah]
 exact⟨by show(ay (bA s.ln s.a7) k).isNone=true;rw[e1];rfl,e2,e3,e4,e5⟩
theorem uF {k:Nat}:∀{fr:List (Nat×TV S)}{t:Nat}{v:TV S},bd fr t=some v→fT k fr=false→v.has k=false
 | [],_,_,h,_=>by cases h
 | (t',v')::r,t,v,h,hf=>by
  simp only[fT,bO] at hf
  simp only[bd] at h
  cases hk:Nat.beq t' t with
  | true=>rw[hk] at h;cases h;exact hf.1
  | false=>rw[hk] at h;exact uF h hf.2
theorem OE {s:ag S}{x:Operand}{v:TV S}{k:Nat}(h:cq s x=some v) (hf:fT k s.bN=false):v.has k=false:=by
 cases x with
 | tmp t=>exact uF h hf
 | const u=>cases h;cases u <;> rfl
 | func f=>cases h;rfl
 | global _=>cases h
def j7 (ln ln':Nat→Nat) (k:Nat):Prop:=∀j,j≠k→ln j=ln' j
theorem xV {ln ln':Nat→Nat}{k:Nat}(h:j7 ln ln' k):∀fr:List (Nat×TV S),fT k fr=false→jq ln fr=jq ln' fr
 | [],_=>rfl
 | (t,v)::r,hf=>by
  simp only[fT,bO] at hf
  simp only[jq,xV h r hf.2]
  rw[rk v fun j hj=>h j fun e=>by subst e;rw[hf.1] at hj;cases hj]
theorem pp {ln ln':Nat→Nat}{k:Nat}(h:j7 ln ln' k) (l:List (TV S)) (hf:TV.has.go k l=false):TV.er.go ln l=TV.er.go ln' l:=
 pP l fun j hj=>h j fun e=>by subst e;rw[hf] at hj;cases hj
theorem rl {ln ln':Nat→Nat}{k:Nat}(h:j7 ln ln' k) (v:TV S) (hf:v.has k=false):v.er ln=v.er ln':=
 rk v fun j hj=>h j fun e=>by subst e;rw[hf] at hj;cases hj
theorem TO.rl {ln ln':Nat→Nat}{k:Nat}(h:j7 ln ln' k) (o:TO S) (hf:o.has k=false):o.er ln=o.er ln':=by
 cases o with
 | box e m cs=>simp only[TO.er,pp h cs hf]
 | arr e m f τ l=>rfl
 | lp l n cs=>simp only[TO.er,pp h cs hf]
 | deep=>rfl
theorem xU {ln ln':Nat→Nat}{k:Nat}(h:j7 ln ln' k):∀st:List (Nat×TO S),cW k st=false→bA ln st=bA ln' st
 | [],_=>rfl
 | (t,o)::r,hf=>by
  simp only[cW,bO] at hf
  simp only[bA,xU h r hf.2,TO.rl h o hf.1]
theorem FD {st:List (Nat×TO S)}(k:Nat) (o:TO S):j7 (bG st) (bG ((k,o)::st)) k:=by
 intro j hj
 unfold bG
 simp only[aA]
 have:Nat.beq k j=false:=by
  cases h:Nat.beq k j with
  | false=>rfl
  | true=>exact absurd (ab h).symm hj
 rw[this];rfl
theorem tD {st:List (Nat×TO S)}(k:Nat) (o:TO S):bG ((k,o)::st) k=o.len:=by
 unfold bG
 simp only[aA,aK,cond_true]
def ag.add (s:ag S) (k:Nat) (o:TO S):ag S:={s with st:=(k,o)::s.st,nx:=bif Nat.beq k s.nx then k+1 else s.nx}
def ag.cZ (s:ag S) (d:Nat):Nat:=bif s.free d then d else s.nx
theorem sf {s:ag S}{k:Nat}(h:s.free k=true) (o:TO S) (ho:o.has k=false):(s.add k o).er={fr:=s.er.fr,st:=(k,o.er s.ln)::s.er.st,df:=s.er.df}∧j7 s.ln (s.add k o).ln k:=by
 obtain⟨h1,h2,h3,h4,h5⟩:=free_spec h
 have hag:j7 s.ln (s.add k o).ln k:=FD k o
 refine⟨?_,hag⟩
 show St.mk (jq (s.add k o).ln s.bN) (bA (s.add k o).ln ((k,o)::s.a7)) (TV.er.go (s.add k o).ln s.df)=St.mk _ _ _
 rw[←xV hag s.bN h2,←pp hag s.df h4]
 simp only[bA]
 rw[←xU hag s.a7 h3,←TO.rl hag o ho]
 rfl
def qm:List (Nat×TO S)→Nat→TO S→List (Nat×TO S)
 | [],_,_=>[]
 | (k,g)::r,t,o=>bif Nat.beq k t then(k,o)::r else(k,g)::qm r t o
theorem Cf {st:List (Nat×TO S)}{h:Nat}{o o':TO S}(ho:aA st h=some o):aA (qm st h o') h=some o':=by
 induction st with
 | nil=>cases ho
 | cons x r ih=>
  obtain⟨y,g⟩:=x
  simp only[aA,qm] at ho⊢
  cases hy:Nat.beq y h with
  | true=>simp[aA,hy]
  | false=>simp only[hy,cond_false] at ho⊢;simp only[aA,hy,cond_false];exact ih ho
theorem uu {st:List (Nat×TO S)}{h h':Nat}{o:TO S}(hne:h'≠h):aA (qm st h o) h'=aA st h':=by
 induction st with
 | nil=>rfl
 | cons x r ih=>
  obtain⟨y,g⟩:=x
  simp only[aA,qm]
  cases hy:Nat.beq y h with
  | true=>
   have:y=h:=ab hy
   subst this
   have h2:Nat.beq y h'=false:=by
    cases h3:Nat.beq y h' with
    | false=>rfl
    | true=>exact absurd (ab h3).symm hne
   simp[aA,h2]
  | false=>simp only[cond_false,aA,ih]
theorem MU {st:List (Nat×TO S)}{h:Nat}{o o':TO S}(ho:aA st h=some o) (hl:o'.len=o.len):bG (qm st h o')=bG st:=by
 funext j
 unfold bG
 by_cases e:j=h
 ·subst e;rw[Cf ho,ho];exact hl
 ·rw[uu e]
theorem Gf (ln:Nat→Nat):∀(st:List (Nat×TO S)) (h:Nat) (o:TO S),bA ln (qm st h o)=eb (bA ln st) h (o.er ln)
 | [],_,_=>rfl
 | (k,g)::r,h,o=>by
  simp only[qm,bA,eb]
  cases Nat.beq k h with
  | true=>rfl
  | false=>simp only[cond_false,bA,Gf ln r h o]
def ag.set (s:ag S) (h:Nat) (o:TO S):ag S:={s with st:=qm s.st h o,last:=vb h s.last}
theorem MF {st st':List (Nat×TO S)}{h:Nat}{o:TO S}(ho:aA st h=some o):aA (st++st') h=some o:=by
 induction st with
 | nil=>cases ho
 | cons x r ih=>
  obtain⟨k,g⟩:=x
  simp only[ca,aA] at ho⊢
  cases hb:Nat.beq k h with
  | true=>rw[hb] at ho;exact ho
  | false=>rw[hb] at ho;exact ih ho
theorem Ft {st st':List (Nat×TO S)}{h:Nat}{o o':TO S}(ho:aA st h=some o):qm (st++st') h o'=qm st h o'++st':=by
 induction st with
 | nil=>cases ho
 | cons x r ih=>
  obtain⟨k,g⟩:=x
  simp only[ca,aA,qm] at ho⊢
  cases hb:Nat.beq k h with
  | true=>rfl
  | false=>rw[hb] at ho;simp only[cond_false,ca];rw[ih ho]
theorem gO {s:ag S}{h:Nat}{o:TO S}(ho:aA s.st h=some o):aA s.a7 h=some o:=MF ho
theorem rO {s:ag S}{h:Nat}{o o':TO S}(ho:aA s.st h=some o) (hl:o'.len=o.len):(s.set h o').er={fr:=s.er.fr,st:=eb s.er.st h (o'.er s.ln),df:=s.er.df}∧(s.set h o').ln=s.ln:=by
 have e0:(s.set h o').a7=qm s.a7 h o':=(Ft ho).symm
 have e:(s.set h o').ln=s.ln:=by show bG (s.set h o').a7=bG s.a7;rw[e0];exact MU (gO ho) hl
 refine⟨?_,e⟩
 show St.mk (jq (s.set h o').ln s.bN) (bA (s.set h o').ln (s.set h o').a7) (TV.er.go (s.set h o').ln s.df)=_
 rw[e,e0,Gf]
 rfl
def TV.kill (k:Nat) (v:TV S):TV S:=match v.has k with | true=>.any | false=>v
def kW (k:Nat):List (Nat×TV S)→List (Nat×TV S)
 | []=>[]
 | (t,v)::r=>(t,v.kill k)::kW k r
def TO.kill (k:Nat):TO S→TO S
 | .box e m cs=>.box e m (cs.map (TV.kill k))
 | .lp l n cs=>.lp l n (cs.map (TV.kill k))
 | o=>o
def jh (k:Nat):List (Nat×TO S)→List (Nat×TO S)
 | []=>[]
 | (t,o)::r=>(t,o.kill k)::jh k r
theorem HC (ln:Nat→Nat) (k:Nat) (v:TV S):(v.kill k).er ln=rC k (v.er ln):=by
 unfold TV.kill rC
 rw[vr]
 cases v.has k <;> rfl
theorem FO (k:Nat) (v:TV S):(v.kill k).has k=false:=by
 unfold TV.kill
 cases h:v.has k with
 | true=>rfl
 | false=>exact h
theorem FQ (ln:Nat→Nat) (k:Nat):∀fr:List (Nat×TV S),jq ln (kW k fr)=lU k (jq ln fr)
 | []=>rfl
 | (t,v)::r=>by simp only[kW,jq,lU,HC,FQ ln k r]
theorem Dw (k:Nat):∀fr:List (Nat×TV S),fT k (kW k fr)=false
 | []=>rfl
 | (t,v)::r=>by simp only[kW,fT,FO,Dw k r,Bool.or_self]
theorem wi (k:Nat):∀cs:List (TV S),TV.has.go k (cs.map (TV.kill k))=false
 | []=>rfl
 | v::r=>by simp only[az,TV.has.go,FO,wi k r,Bool.or_self]
theorem Du (ln:Nat→Nat) (k:Nat) (cs:List (TV S)):TV.er.go ln (cs.map (TV.kill k))=(TV.er.go ln cs).map (rC k):=by
 rw[cS,cS,gS,gS]
 exact fB fun v _=>HC ln k v
theorem FP (ln:Nat→Nat) (k:Nat):∀st:List (Nat×TO S),bA ln (jh k st)=fp k (bA ln st)
 | []=>rfl
 | (t,o)::r=>by
  simp only[jh,bA,fp,FP ln k r]
  congr 2
  cases o with
  | box e m cs=>simp only[TO.kill,TO.er,Du];rfl
  | arr e m f τ l=>rfl
  | lp l n cs=>simp only[TO.kill,TO.er,Du];rfl
  | deep=>rfl
theorem Dv (k:Nat):∀st:List (Nat×TO S),cW k (jh k st)=false
 | []=>rfl
 | (t,o)::r=>by
  simp only[jh,cW,Dv k r,di]
  cases o with
  | box e m cs=>exact wi k cs
  | arr e m f τ l=>rfl
  | lp l n cs=>exact wi k cs
  | deep=>rfl
theorem vX {k h:Nat}:∀{st:List (Nat×TO S)},aA (jh k st) h=(aA st h).map (TO.kill k)
 | []=>rfl
 | (t,o)::r=>by
  simp only[jh,aA]
  cases Nat.beq t h with
  | true=>rfl
  | false=>exact vX
theorem M1 (k:Nat) (o:TO S):(o.kill k).len=o.len:=by cases o <;> rfl
theorem KU (k:Nat) (st:List (Nat×TO S)):bG (jh k st)=bG st:=by
 funext j
 unfold bG
 rw[vX]
 cases aA st j with
 | none=>rfl
 | some o=>exact M1 k o
def ag.renew (s:ag S) (k:Nat) (o:TO S):ag S:={s with fr:=kW k s.fr,st:=(k,o)::jh k s.st,last:=vb k s.last}
theorem HB {k:Nat}{v:TV S}(h:v.has k=false):v.kill k=v:=by unfold TV.kill;rw[h]
theorem zO {k:Nat}:∀{fr:List (Nat×TV S)},fT k fr=false→kW k fr=fr
 | [],_=>rfl
 | (t,v)::r,h=>by
  simp only[fT,bO] at h
  simp only[kW,HB h.1,zO h.2]
theorem zN {k:Nat}:∀{l:List (TV S)},TV.has.go k l=false→l.map (TV.kill k)=l
 | [],_=>rfl
 | v::r,h=>by
  simp only[TV.has.go,bO] at h
  simp only[az,HB h.1,zN h.2]
theorem wj {k:Nat}:∀{st:List (Nat×TO S)},cW k st=false→jh k st=st
 | [],_=>rfl
 | (t,o)::r,h=>by
  simp only[cW,bO] at h
  simp only[jh,wj h.2]
  have:o.kill k=o:=by
   cases o with
   | box e m cs=>simp only[TO.kill];rw[zN h.1]
   | arr e m f τ l=>rfl
   | lp l n cs=>simp only[TO.kill];rw[zN h.1]
   | deep=>rfl
  rw[this]
theorem xM (k:Nat):∀(fr fr':List (Nat×TV S)),kW k (fr++fr')=kW k fr++kW k fr'
 | [],_=>rfl
 | (t,v)::r,fr'=>by simp only[ca,kW,xM k r fr']
theorem uy (k:Nat):∀(st st':List (Nat×TO S)),jh k (st++st')=jh k st++jh k st'
 | [],_=>rfl
 | (t,v)::r,st'=>by simp only[ca,jh,uy k r st']
theorem zz {s:ag S}{k:Nat}(o:TO S) (ho:o.has k=false) (hd:TV.has.go k s.df=false) (hlo:fT k s.lo=false) (hls:cW k s.bF=false):(s.renew k o).er={fr:=lU k s.er.fr,st:=(k,o.er s.ln)::fp k s.er.st,df:=s.er.df}∧j7 s.ln (s.renew k o).ln k∧(s.renew k o).ln k=o.len:=by
 have hag:j7 s.ln (s.renew k o).ln k:=by
  have:=FD (st:=jh k s.a7) k o
  rw[KU] at this
  have e:(s.renew k o).a7=(k,o)::jh k s.a7:=by
   show(k,o)::(jh k s.st++s.bF)=_
   unfold ag.a7
   rw[uy,wj hls]
  show j7 (bG s.a7) (bG (s.renew k o).a7) k
  rw[e]
  exact this
 have e1:(s.renew k o).a7=(k,o)::jh k s.a7:=by
  show(k,o)::(jh k s.st++s.bF)=_
  unfold ag.a7
  rw[uy,wj hls]
 have e2:(s.renew k o).bN=kW k s.bN:=by
  show kW k s.fr++s.lo=_
  unfold ag.bN
  rw[xM,zO hlo]
 refine⟨?_,hag,tD k o⟩
 show St.mk (jq (s.renew k o).ln (s.renew k o).bN) (bA (s.renew k o).ln (s.renew k o).a7) (TV.er.go (s.renew k o).ln s.df)=St.mk _ _ _
 rw[e1,e2,←xV hag _ (Dw k s.bN),←pp hag s.df hd,FQ]
 simp only[bA]
 rw[←xU hag _ (Dv k s.a7),←TO.rl hag o ho,FP]
 rfl
theorem jW {k t:Nat}(o:TO S) (st:List (Nat×TO S)) (h:t≠k):aA ((k,o)::st) t=aA st t:=by
 simp only[aA]
 cases hb:Nat.beq k t with
 | true=>exact absurd (ab hb).symm h
 | false=>rfl
theorem aJ.add {s:ag S}(h:aJ s){k:Nat}(o:TO S) (hf:s.free k=true):aJ (s.add k o):=by
 intro d hh x hm
 obtain⟨i,bs,m,f,τ,l,a,e1,e2,e3⟩:=h d hh x hm
 refine⟨i,bs,m,f,τ,l,a,e1,?_,e3⟩
 refine(jW o s.a7 ?_).trans e2
 intro e
 subst e
 rw[(free_spec hf).1] at e2
 cases e2
theorem aJ.set {s:ag S}(h:aJ s){k:Nat}{o0:TO S}(hk:aA s.st k=some o0) (o:TO S):aJ (s.set k o):=by
 have e0:(s.set k o).a7=qm s.a7 k o:=(Ft hk).symm
 intro d hh x hm
 obtain⟨h1,h2⟩:=sW hm
 obtain⟨i,bs,m,f,τ,l,a,e1,e2,e3⟩:=h d hh x h1
 exact⟨i,bs,m,f,τ,l,a,e1,by rw[e0];exact(uu h2).trans e2,e3⟩
theorem Ao {k t:Nat}{v:TV S}:∀{fr:List (Nat×TV S)},bd fr t=some v→bd (kW k fr) t=some (v.kill k)
 | [],h=>by cases h
 | (t',v')::r,h=>by
  simp only[bd,kW] at h⊢
  cases hb:Nat.beq t' t with
  | true=>rw[hb] at h;cases h;rfl
  | false=>rw[hb] at h;exact Ao h
theorem aJ.renew {s:ag S}(h:aJ s) (k:Nat) (o:TO S) (hlo:fT k s.lo=false) (hls:cW k s.bF=false):aJ (s.renew k o):=by
 have q1:(s.renew k o).a7=(k,o)::jh k s.a7:=by
  show(k,o)::(jh k s.st++s.bF)=_
  unfold ag.a7
  rw[uy,wj hls]
 have q2:(s.renew k o).bN=kW k s.bN:=by
  show kW k s.fr++s.lo=_
  unfold ag.bN
  rw[xM,zO hlo]
 intro d hh x hm
 obtain⟨h1,h2⟩:=sW hm
 obtain⟨i,bs,m,f,τ,l,a,e1,e2,e3⟩:=h d hh x h1
 refine⟨i,bs,m,f,τ,l,a,?_,?_,e3⟩
 ·have:=Ao (k:=k) e1
  rw[q2]
  refine this.trans ?_
  unfold TV.kill TV.has
  have:Nat.beq hh k=false:=by
   cases hb:Nat.beq hh k with
   | true=>exact absurd (ab hb) h2
   | false=>rfl
  rw[this]
 ·rw[q1]
  refine(jW o _ h2).trans ?_
  rw[vX,e2];rfl
end
end Go.DN
/-
 DN,part H:steps of the proof alone;boxes,blocks,stores.
-/
namespace Go.DN
open Go.AM
def Gh (s t:St):Prop:=∀(N:Nat) (cx:Cx) (μ:Mu) (a:Act) (w:World),Rel N cx μ s a w→
 ∃μ',Rel N cx μ' t a w∧∀h k c m y,ay t.st h=some k→μ' h=some (c,m)→In y c m→∃k0 c0 m0,ay s.st h=some k0∧μ h=some (c0,m0)∧In y c0 m0
theorem Gh.same {s t:St}{μ μ':Mu}(h:∀h k b m,ay t.st h=some k→μ' h=some (b,m)→∃k0,ay s.st h=some k0∧μ h=some (b,m)):
  ∀h k c m y,ay t.st h=some k→μ' h=some (c,m)→In y c m→∃k0 c0 m0,ay s.st h=some k0∧μ h=some (c0,m0)∧In y c0 m0:=
 fun x k c m y h1 h2 h3=>let ⟨k0,h4,h5⟩:=h x k c m h1 h2;⟨k0,c,m,h4,h5,h3⟩
theorem Gh.refl (s:St):Gh s s:=fun _ _ μ _ _ hr=>⟨μ,hr,Gh.same fun h k b m h1 h2=>⟨k,h1,h2⟩⟩
theorem Gh.trans {a b c:St}(h:Gh a b) (h':Gh b c):Gh a c:=fun N cx μ ac w hr=>by
 obtain⟨μ1,h1,h2⟩:=h N cx μ ac w hr
 obtain⟨μ2,h3,h4⟩:=h' N cx μ1 ac w h1
 refine⟨μ2,h3,fun x k c m y h5 h6 h7=>?_⟩
 obtain⟨k0,c0,m0,h8,h9,h10⟩:=h4 x k c m y h5 h6 h7
 exact h2 x k0 c0 m0 y h8 h9 h10
theorem Gh.of {s t:St}(h:∀(N:Nat) (cx:Cx) (μ:Mu) (a:Act) (w:World),Rel N cx μ s a w→Rel N cx μ t a w) (hd:∀x k,ay t.st x=some k→∃k0,ay s.st x=some k0):Gh s t:=fun N cx μ a w hr=>
 ⟨μ,h N cx μ a w hr,Gh.same fun x k b m h1 h2=>let ⟨k0,h3⟩:=hd x k h1;⟨k0,h3,h2⟩⟩
section
variable {P:Program}{N:Nat}{cx:Cx}{ops:Array Oper}{Q:Exit→St→Prop}{s t:St}
theorem GW.gh {c:Code}(h:Gh s t) (k:GW P N cx c Q t):GW P N cx c Q s:=fun μ a w hr=>by
 obtain⟨μ',h1,_⟩:=h N cx μ a w hr
 exact k μ' a w h1
theorem GL.gh {rest:List Oper}(h:Gh s t) (k:GL P N cx ops Q rest t):GL P N cx ops Q rest s:=fun μ a w hr=>by
 obtain⟨μ',h1,_⟩:=h N cx μ a w hr
 exact k μ' a w h1
theorem eX.gh {W:List Nat}{bi:Nat}{listed:Array Bool}(h:Gh s t) (k:eX P N cx ops Q W bi listed t):eX P N cx ops Q W bi listed s:=fun ws Wb μ a w hr hS hW=>by
 obtain⟨μ',h1,h2⟩:=h N cx μ a w hr
 refine k ws Wb μ' a w h1 hS fun x k c m y h3 h4 h5 h6=>?_
 obtain⟨k0,c0,m0,h7,h8,h9⟩:=h2 x k c m y h4 h5 h6
 exact hW x k0 c0 m0 y h3 h7 h8 h9
end
section
variable {S:dr}
def eU (P:Program) (W:List Nat) (s:ag S) (o:Oper){A:Type}(k:ag S→Option A) (r:A):Prop:=
 ∃T:St→Prop,bW P W s.er o T∧∀s',T s'→∃t:ag S,Gh s' t.er∧aJ t∧bj s t∧k t=some r
theorem eU.one {P:Program}{W:List Nat}{s:ag S}{o:Oper}{A:Type}{k:ag S→Option A}{r:A}{s1:St}(t:ag S) (he:bW P W s.er o (·=s1)) (hg:Gh s1 t.er) (hl:aJ t) (hkp:bj s t) (hk:k t=some r):eU P W s o k r:=
 ⟨_,he,fun s' e=>by subst e;exact⟨t,hg,hl,hkp,hk⟩⟩
theorem K7 {k:Nat}(v:TV S) (h:v.has k=false):TV.has.go k (dH v)=false:=by
 cases v with
 | ae f τ a=>
  cases τ with
  | st n=>
   show TV.has.go k (split f n a)=false
   unfold split
   generalize S.cells n a=l
   induction l with
   | nil=>rfl
   | cons x r ih=>simp only[az,TV.has.go,TV.has,fx];exact ih
  | _=>rfl
 | agg l=>exact h
 | _=>simpa[dH,TV.has.go] using h
def Qb:TV S→Bool
 | .ae _ τ _=>!τ.fq
 | .val u=>u.oneCell'
 | .agg _=>false
 | .aT _=>false
 | .any=>false
 | _=>true
theorem MC {v:TV S}(h:Qb v=true) (ln:Nat→Nat):(v.er ln).one=true:=by
 cases v with
 | ae f τ a=>cases τ with
  | st n=>cases h
  | pt n=>cases a <;> cases f <;> rfl
  | _=>cases f <;> rfl
 | ptr f τ a=>cases f <;> rfl
 | gH b h τ i j=>cases b <;> rfl
 | bP b h off=>cases b <;> rfl
 | val u=>exact h
 | agg l=>cases h
 | aT l=>cases h
 | any=>cases h
 | _=>rfl
def AH:List (TV S)→Bool
 | []=>true
 | v::r=>Qb v&&AH r
theorem oe (ln:Nat→Nat):∀{l:List (TV S)},AH l=true→(TV.er.go ln l).all G.one=true
 | [],_=>rfl
 | v::r,h=>by
  simp only[AH,ah] at h
  simp only[TV.er.go,List.all_cons,MC h.1 ln,oe ln h.2,eV]
section
variable {P:Program}{W:List Nat}{s:ag S}{ty:TypeId}{pos:String}{after:Array Edge}{guard:Option (Nat×Bool)}{A:Type}{k:ag S→Option A}{r:A}
def NL (s:ag S) (d:Nat) (t:TypeId) (x:Operand){A:Type}(k:ag S→Option A):Option A:=
 match s.free (s.cZ d) with
 | true=>match cq s x with
  | some v=>match okV v with
   | true=>k ((s.add (s.cZ d) (.box t true (dH v))).put d (.loc (s.cZ d) 0))
   | false=>none
  | none=>none
 | false=>none
theorem PD {d:Nat}{t:TypeId}{x:Operand}(hl:aJ s) (h:NL s d t x k=some r):eU P W s ⟨some d,.box t x,ty,pos,after,guard⟩ k r:=by
 unfold NL at h
 split at h
 ·rename_i hf
  split at h
  ·rename_i v hv
   split at h
   ·rename_i ho
    have hn:TV.has.go (s.cZ d) (dH v)=false:=K7 v (OE hv (free_spec hf).2.1)
    obtain⟨e1,_⟩:=sf hf (.box t true (dH v)) hn
    refine .one _ (EF.box (s.cZ d) (bc hv) (rb ho s.ln) (iM hf)) ?_ ((hl.add _ hf).put _ _) ⟨rfl,rfl,rfl⟩ h
    rw[hP,e1]
    rw[ur ho s.ln]
    exact Gh.refl _
   ·cases h
  ·cases h
 ·cases h
def GK (P:Program) (s:ag S) (d:Nat) (t:TypeId){A:Type}(k:ag S→Option A):Option A:=
 match s.free (s.cZ d) with
 | true=>match (P.info? t).bind (·.zero) with
  | some z=>k ((s.add (s.cZ d) (.box t true (z.cells.toList.map tj))).put d (.loc (s.cZ d) 0))
  | none=>none
 | false=>none
theorem J3 (k:Nat) (l:List Value):TV.has.go k (l.map (tj (S:=S)))=false:=by
 induction l with
 | nil=>rfl
 | cons v r ih=>simp only[az,TV.has.go,ih,di];cases v <;> rfl
theorem Mc (ln:Nat→Nat) (l:List Value):TV.er.go ln (l.map (tj (S:=S)))=l.map .val:=by
 rw[cS,gS]
 exact fB fun v _=>EK ln v
theorem LX {t:TypeId}{z:Value}(h:(P.info? t).bind (·.zero)=some z):∀w,(zeroValue t).run P w=.ok z w:=by
 intro w
 cases hi:P.info? t with
 | none=>rw[hi] at h;cases h
 | some i=>
  rw[hi] at h
  have h:i.zero=some z:=h
  simp[zeroValue,typeInfo,hi,h]
theorem LO {d:Nat}{t:TypeId}(hl:aJ s) (h:GK P s d t k=some r):eU P W s ⟨some d,.alloc t,ty,pos,after,guard⟩ k r:=by
 unfold GK at h
 split at h
 ·rename_i hf
  split at h
  ·rename_i z hz
   obtain⟨e1,_⟩:=sf hf (.box t true (z.cells.toList.map tj)) (J3 _ _)
   refine .one _ (EF.alloc (s.cZ d) (LX hz) (iM hf)) ?_ ((hl.add _ hf).put _ _) ⟨rfl,rfl,rfl⟩ h
   rw[hP,e1]
   simp only[TO.er,Mc]
   exact Gh.refl _
  ·cases h
 ·cases h
def H6 (τ:Ty) (z:Value):Option (S.D τ):=
 match τ with
 | .st n=>match Aq (.st n) (.agg (z.cells.toList.map tj)) with
  | some x=>some x.2
  | none=>none
 | τ=>match nK τ (tj z) with
  | some x=>match z.cells.toList with
   | [_]=>some x.2
   | _=>none
  | none=>none
theorem ER {τ:Ty}{u:Value}{f:Bool}{a:S.D τ}(h:nK τ (tj u)=some (f,a)):ny u=da S τ a:=by
 unfold nK at h
 split at h
 ·rename_i f' τ' a' e
  split at h
  ·cases h
  ·split at h
   ·rename_i b hb
    cases h
    have:=dW hb
    cases this
    cases u <;> simp only[tj] at e <;> cases e <;> rfl
   ·cases h
 ·rename_i e
  split at h
  ·cases h
   cases u <;> simp only[tj] at e <;> cases e
   rfl
  ·cases h
 ·rename_i e
  split at h
  ·cases h
   cases u <;> simp only[tj] at e <;> cases e
   rfl
  ·cases h
 ·cases h
theorem J7:∀{ts:List Ty}{us:List Value}{f:Bool}{l:List (aY S.α)},zq ts (us.map tj)=some (f,l)→us.map ny=l.map fun x=>da S x.τ x.a
 | [],[],_,_,h=>by cases h;rfl
 | τ::ts,u::us,f,l,h=>by
  simp only[az,zq] at h
  split at h
  ·rename_i f1 a h1
   split at h
   ·rename_i g l' h2
    cases h
    simp only[az,ER h1,J7 h2]
   ·cases h
  ·cases h
 | [],_::_,_,_,h=>by cases h
 | _::_,[],_,_,h=>by cases h
theorem LY {τ:Ty}{z:Value}{a:S.D τ}(h:H6 τ z=some a):z.cells.toList.map ny=aP S τ a∧z.cells.size=S.sz τ:=by
 have key:z.cells.toList.map ny=aP S τ a:=by
  unfold H6 at h
  split at h
  ·rename_i n
   split at h
   ·rename_i x hx
    cases h
    unfold Aq at hx
    dsimp only at hx
    split at hx
    ·rename_i f l h1
     split at hx
     ·rename_i a h2
      cases hx
      rw[fZ,S.hU _ _ _ h2]
      exact J7 h1
     ·cases hx
    ·cases hx
   ·cases h
  ·rename_i hns
   split at h
   ·rename_i x hx
    obtain⟨f,x⟩:=x
    split at h
    ·rename_i u hu
     cases h
     have hs:τ.fq=false:=by
      cases τ with
      | st n=>exact absurd rfl (hns n)
      | _=>rfl
     have hzu:z=u:=by
      have h3:=(ER hx)
      cases z with
      | agg cs=>simp[tj,nK] at hx
      | _=>simpa[Value.cells] using hu
     rw[hu,az,dE,jB S hs,←hzu,ER hx]
    ·cases h
   ·cases h
 refine⟨key,?_⟩
 have:=congrArg List.length key
 rw[aU,rm,bE] at this
 exact this
def AT (P:Program) (s:ag S) (d:Nat) (t:TypeId) (x y:Operand){A:Type}(k:ag S→Option A):Option A:=
 match s.free (s.cZ d) with
 | true=>match P.underlying t with
  | some (.slice e)=>match S.N2 e with
   | some τ=>match P.info? e with
    | some i=>match i.zero with
     | some z=>match H6 τ z with
      | some a=>match cq s x with
       | some (.ae _ (.int _) n)=>match cq s y with
        | some (.ae _ (.int _) c)=>match decEq i.size (S.sz τ) with
         | isTrue _=>(cj (0≤n∧n≤c∧(i.bytes:Int)*c≤281474976710656∧c≤9223372036854775807)).bind fun _=>
          k ((s.add (s.cZ d) (.arr e true true τ (List.replicate (Int.toNat n) a))).put d (.aM (s.cZ d) τ))
         | isFalse _=>none
        | _=>none
       | _=>none
      | none=>none
     | none=>none
    | none=>none
   | none=>none
  | _=>none
 | false=>none
theorem MN {d:Nat}{t:TypeId}{x y:Operand}(hl:aJ s) (h:AT P s d t x y k=some r):eU P W s ⟨some d,.makeSlice t x y,ty,pos,after,guard⟩ k r:=by
 unfold AT at h
 split at h
 ·rename_i hf
  split at h
  ·rename_i e hu
   split at h
   ·rename_i τ _
    split at h
    ·rename_i i hi
     split at h
     ·rename_i z hz
      split at h
      ·rename_i a ha
       split at h
       ·rename_i n hx
        split at h
        ·rename_i c hy
         split at h
         ·rename_i hs _
          obtain⟨u,hc,h⟩:=bind_some h
          obtain⟨c1,c2,c3,c4⟩:=cO hc
          obtain⟨z1,z2⟩:=LY ha
          obtain⟨e1,hag⟩:=sf hf (.arr e true true τ (List.replicate (Int.toNat n) a)) rfl
          letI:=lX S τ
          refine .one _ (ET.AT (α:=S.D τ) (x:=a) (sz:=S.sz τ) (bt:=i.bytes) (s.cZ d) (kO hx) (kO hy) hu (by rw[hi,bY,hz,hs]) z2 rfl z1 c1 c2 c3 c4 (iM hf)) ?_ ((hl.add _ hf).put _ _) ⟨rfl,rfl,rfl⟩ h
          rw[hP,e1]
          have e2:(TV.aM (s.cZ d) τ:TV S).er (s.add (s.cZ d) (.arr e true true τ (List.replicate (Int.toNat n) a))).ln=.aM (s.cZ d) (S.sz τ) 0 (List.replicate (Int.toNat n) a).length:=by
           show G.aM _ _ _ ((s.add (s.cZ d) _).ln (s.cZ d))=_
           rw[show(s.add (s.cZ d) (.arr e true true τ (List.replicate (Int.toNat n) a))).ln (s.cZ d)=_ from tD _ _]
           rfl
          rw[e2]
          exact Gh.refl _
         ·cases h
        ·cases h
       ·cases h
      ·cases h
     ·cases h
    ·cases h
   ·cases h
  ·cases h
 ·cases h
end
end
end Go.DN
/-
 DN,part I:values as plain data,cell by cell;slices built;stores.
-/
namespace Go.DN
open Go.AM
def Pl (m:G):Prop:=(∃u,m=.val u)∨(∃n cs,m=.sl n cs)∨(∃b,m=.cQ b)∨∃cs,m=.ptr cs
theorem HJ {O:Nat→Prop}{base:Nat}{w:World}{μ:Mu}{f:Bool}{m:G}{v:Value}(hm:Pl m) (h:aN O base w μ (dc f m) v):bp (bif f then gm O base else O) w m v:=by
 rcases hm with ⟨u,rfl⟩ | ⟨n,cs,rfl⟩ | ⟨b,rfl⟩ | ⟨cs,rfl⟩
 ·have:dc f (.val u)=.val u:=by cases f <;> rfl
  rw[this] at h
  cases h with
  | aD h=>cases h;exact .val _
 ·cases f with
  | true=>cases h with
   | aD h=>cases h
   | fr h=>exact h
  | false=>cases h with
   | aD h=>exact h
 ·cases f with
  | true=>cases h with
   | aD h=>cases h
   | fr h=>exact h
  | false=>cases h with
   | aD h=>exact h
 ·cases f with
  | true=>cases h with
   | aD h=>cases h
   | fr h=>exact h
  | false=>cases h with
   | aD h=>exact h
section
variable {S:dr}
theorem vB {τ:Ty}(h:τ.fq=false) (a:S.D τ):Pl (da S τ a):=by
 cases τ with
 | st n=>cases h
 | list t=>exact .inr (.inl ⟨_,_,rfl⟩)
 | cQ=>exact .inr (.inr (.inl ⟨_,rfl⟩))
 | pt n=>cases a with
  | none=>exact .inl ⟨_,rfl⟩
  | some a=>exact .inr (.inr (.inr ⟨_,rfl⟩))
 | _=>exact .inl ⟨_,rfl⟩
theorem rW (τ:Ty) (a:S.D τ):∀m∈aP S τ a,Pl m:=by
 intro m hm
 cases τ with
 | st n=>
  rw[fZ] at hm
  obtain⟨x,hx,rfl⟩:=gq.1 hm
  exact vB (kB n a x hx) x.a
 | _=>rw[jB S rfl] at hm;simp at hm;subst hm;exact vB rfl a
theorem Pt (τ:Ty) (l:List (S.D τ)):∀m∈List.flatMap (aP S τ) l,Pl m:=by
 intro m hm
 obtain⟨a,_,h⟩:=ob.1 hm
 exact rW τ a m h
def uQ (gs:List G) (f:Bool) (ms:List G):Prop:=gs.length=ms.length∧∀(j:Nat) (m:G),ms[j]?=some m→∃g,gs[j]?=some g∧RW g (dc f m)
theorem uQ.flag {gs ms:List G}{f f':Bool}(h:uQ gs f ms) (hf:f'=true→f=true):uQ gs f' ms:=⟨h.1,fun j m hm=>let ⟨g,h1,h2⟩:=h.2 j m hm;⟨g,h1,h2.trans (RW.dc _ _ _ hf)⟩⟩
theorem uQ.append {gs ms gs' ms':List G}{f:Bool}(h:uQ gs f ms) (h':uQ gs' f ms'):uQ (gs++gs') f (ms++ms'):=by
 refine⟨by simp[h.1,h'.1],fun j m hm=>?_⟩
 rw[bC] at hm⊢
 rw[h.1]
 split at hm
 ·rename_i hj;rw[if_pos hj];exact h.2 j m hm
 ·rename_i hj;rw[if_neg hj];exact h'.2 _ m hm
theorem C4 {τ:Ty}{v:TV S}{f:Bool}{a:S.D τ}(h:Aq τ v=some (f,a)) (ln:Nat→Nat):uQ (cC (v.er ln)) f (aP S τ a):=by
 unfold Aq at h
 split at h
 ·rename_i f' τ' a'
  split at h
  ·rename_i b hb
   cases h
   have:=dW hb
   cases this
   cases τ with
   | st n=>
    have e:(f'||(Ty.st n).gW)=f':=by cases f' <;> rfl
    rw[e]
    refine⟨by show((aP S (.st n) a).map (dc f')).length=_;rw[aU],fun j m hm=>⟨dc f' m,?_,RW.refl _⟩⟩
    show((aP S (.st n) a).map (dc f'))[j]?=_
    rw[ak,hm];rfl
   | list t=>
    have e:(f'||(Ty.list t).gW)=f':=by cases f' <;> rfl
    rw[e,jB S rfl]
    refine⟨by cases f' <;> rfl,fun j m hm=>⟨dc f' m,?_,RW.refl _⟩⟩
    cases j with
    | zero=>cases hm;cases f' <;> rfl
    | succ j=>cases hm
   | cQ=>
    have e:(f'||Ty.cQ.gW)=f':=by cases f' <;> rfl
    rw[e,jB S rfl]
    refine⟨by cases f' <;> rfl,fun j m hm=>⟨dc f' m,?_,RW.refl _⟩⟩
    cases j with
    | zero=>cases hm;cases f' <;> rfl
    | succ j=>cases hm
   | pt n=>
    have e:(f'||(Ty.pt n).gW)=f':=by cases f' <;> rfl
    rw[e,jB S rfl]
    refine⟨by cases a <;> cases f' <;> rfl,fun j m hm=>⟨dc f' m,?_,RW.refl _⟩⟩
    cases j with
    | zero=>cases hm;cases a <;> cases f' <;> rfl
    | succ j=>cases hm
   | _=>
    rw[jB S rfl]
    refine⟨by cases f' <;> rfl,fun j m hm=>⟨dc f' m,?_,?_⟩⟩
    ·cases j with
     | zero=>cases hm;cases f' <;> rfl
     | succ j=>cases hm
    ·cases j with
     | zero=>cases hm;cases f' <;> exact RW.refl _
     | succ j=>cases hm
  ·cases h
 ·split at h
  ·cases h
   refine⟨rfl,fun j m hm=>⟨.val (.slice none 0 0),?_,?_⟩⟩
   ·cases j with
    | zero=>rfl
    | succ j=>cases hm
   ·cases j with
    | zero=>cases hm;exact RW.nil
    | succ j=>cases hm
  ·cases h
 ·split at h
  ·rename_i n
   cases h
   refine⟨rfl,fun j m hm=>⟨.val (.pointer none),?_,?_⟩⟩
   ·cases j with
    | zero=>rfl
    | succ j=>cases hm
   ·cases j with
    | zero=>cases hm;exact RW.refl _
    | succ j=>cases hm
  ·cases h
 ·split at h
  ·rename_i _ vs _ n
   split at h
   ·rename_i f1 l h1
    split at h
    ·rename_i a1 h2
     cases h
     obtain⟨i1,i2⟩:=yw ln h1
     have h3:=S.hU n l a h2
     rw[fZ,h3]
     show uQ (TV.er.go ln vs) _ _
     rw[cS]
     refine⟨by simp[i1],fun j m hm=>?_⟩
     rw[ak] at hm
     obtain⟨x,hx,rfl⟩:=au.1 hm
     obtain⟨v,h4,h5⟩:=i2 j x hx
     exact⟨v.er ln,by rw[ak,h4];rfl,h5⟩
    ·cases h
   ·cases h
  ·cases h
 ·cases h
theorem Gh.pure {s:St}{h:Nat}{k:aq}{cs:List G}{f:Bool}(hk:ay s.st h=some k) (hp:k.pure=false) (hlp:k.lp=none) (hpl:∀m∈cs,Pl m) (hc:uQ k.cells f cs):
  Gh s {fr:=s.fr,st:=eb s.st h {k with pure:=true,fresh:=f,cells:=cs},df:=s.df}:=by
 refine Gh.of (fun N cx μ a w hr=>hr.B9 hk rfl rfl rfl (by dsimp only;rw[hc.1];exact ar _) hlp hlp fun j g' hg'=>?_) fun x k1 hx=>?_
 ·obtain⟨g,h1,h2⟩:=hc.2 j g' hg'
  refine⟨g,h1,fun v hv=>?_⟩
  unfold cF at hv⊢
  rw[hp] at hv
  exact HJ (hpl g' (aQ hg')) (h2 _ _ _ _ _ hv)
 ·rcases dy hk hx with ⟨e,_⟩ | ⟨_,h1⟩
  ·subst e;exact⟨k,hk⟩
  ·exact⟨k1,h1⟩
def Im (τ:Ty):List (TV S)→Option (Bool×List (S.D τ))
 | []=>some (true,[])
 | v::r=>match okV v with
  | true=>match Aq τ v with
   | some (f,a)=>match Im τ r with
    | some (g,l)=>some (f&&g,a::l)
    | none=>none
   | none=>none
  | false=>none
theorem Hj {τ:Ty}(ln:Nat→Nat):∀{vs:List (TV S)}{f:Bool}{l:List (S.D τ)},Im τ vs=some (f,l)→
  s6 (S.sz τ) (TV.er.go ln vs)=true∧l.length=vs.length∧uQ ((TV.er.go ln vs).flatMap cC) f (List.flatMap (aP S τ) l)
 | [],_,_,h=>by cases h;exact⟨rfl,rfl,rfl,fun j m h=>by simp at h⟩
 | v::r,f,l,h=>by
  simp only[Im] at h
  split at h
  ·rename_i ho
   split at h
   ·rename_i f1 a h1
    split at h
    ·rename_i g l' h2
     cases h
     obtain⟨i1,i2,i3⟩:=Hj ln h2
     have h3:=C4 h1 ln
     refine⟨?_,by simp[i2],?_⟩
     ·simp only[TV.er.go,s6,ah]
      refine⟨⟨rb ho ln,?_⟩,i1⟩
      rw[h3.1,rm];exact aK _
     ·simp only[TV.er.go,cP]
      exact(h3.flag fun h=>by simp at h;exact h.1).append (i3.flag fun h=>by simp at h;exact h.2)
    ·cases h
   ·cases h
  ·cases h
def xC (s:ag S):List (Nat×Operand)→Nat→Option (List (TV S))
 | [],_=>some []
 | (i,x)::r,j=>match Nat.beq i j with
  | true=>match cq s x with
   | some v=>match xC s r (j+1) with
    | some vs=>some (v::vs)
    | none=>none
   | none=>none
  | false=>none
theorem Dc {s:ag S}:∀{l:List (Nat×Operand)}{j:Nat}{vs:List (TV S)},xC s l j=some vs→Gb s.er l j=some (TV.er.go s.ln vs)
 | [],_,_,h=>by cases h;rfl
 | (i,x)::r,j,vs,h=>by
  simp only[xC] at h
  split at h
  ·rename_i hb
   split at h
   ·rename_i v hv
    split at h
    ·rename_i vs' hr
     cases h
     simp only[Gb,hb,bc hv,Dc hr,TV.er.go]
    ·cases h
   ·cases h
  ·cases h
section
variable {P:Program}{W:List Nat}{s:ag S}{ty:TypeId}{pos:String}{after:Array Edge}{guard:Option (Nat×Bool)}{A:Type}{k:ag S→Option A}{r:A}
def NK (P:Program) (s:ag S) (d:Nat) (t:TypeId) (n:Nat) (parts:Array (Nat×Operand)){A:Type}(k:ag S→Option A):Option A:=
 match s.free (s.cZ d) with
 | true=>match P.underlying t with
  | some (.slice e)=>match S.N2 e with
   | some τ=>match P.info? e with
    | some i=>match i.zero with
     | some _=>match decEq i.size (S.sz τ) with
      | isTrue _=>match parts.toList with
       | []=>match n with
        | 0=>k ((s.add (s.cZ d) (.arr e true true τ [])).put d (.aM (s.cZ d) τ))
        | _=>none
       | p::ps=>match xC s (p::ps) 0 with
        | some vs=>match Im τ vs with
         | some (f,l)=>match Nat.beq vs.length n&&(Nat.ble (n*S.sz τ) 16777216&&Nat.blt 0 n) with
          | true=>k ((s.add (s.cZ d) (.arr e true f τ l)).put d (.aM (s.cZ d) τ))
          | false=>none
         | none=>none
        | none=>none
      | isFalse _=>none
     | none=>none
    | none=>none
   | none=>none
  | _=>none
 | false=>none
theorem Fs {s:ag S}{h:Nat}{e:TypeId}{m f:Bool}{τ:Ty}{l:List (S.D τ)}:(TV.aM h τ:TV S).er (s.add h (.arr e m f τ l)).ln=.aM h (S.sz τ) 0 l.length:=by
 show G.aM _ _ _ ((s.add h _).ln h)=_
 rw[show(s.add h (.arr e m f τ l)).ln h=_ from tD _ _]
 rfl
theorem Kl {h:Nat}{k k':aq}{r:List (Nat×aq)}:eb ((h,k)::r) h k'=(h,k')::r:=by
 simp only[eb,aK,cond_true]
theorem PB {d:Nat}{t:TypeId}{n:Nat}{parts:Array (Nat×Operand)}(hl:aJ s) (h:NK P s d t n parts k=some r):eU P W s ⟨some d,.buildSlice t n parts,ty,pos,after,guard⟩ k r:=by
 unfold NK at h
 split at h
 ·rename_i hf
  split at h
  ·rename_i e hu
   split at h
   ·rename_i τ _
    split at h
    ·rename_i i hi
     split at h
     ·rename_i z hz
      split at h
      ·rename_i hs _
       have hinfo:(P.info? e).map (fun i=>(i.zero,i.size,i.bytes))=some (some z,S.sz τ,i.bytes):=by rw[hi,bY,hz,hs]
       split at h
       ·rename_i hp
        have:=B2 hp
        subst this
        split at h
        ·obtain⟨e1,_⟩:=sf hf (.arr e true true τ ([]:List (S.D τ))) rfl
         refine .one _ (EF.Hd (s.cZ d) hu hinfo (iM hf)) ?_ ((hl.add _ hf).put _ _) ⟨rfl,rfl,rfl⟩ h
         rw[hP,e1,Fs]
         exact Gh.refl _
        ·cases h
       ·rename_i p ps hp
        split at h
        ·rename_i vs hv
         split at h
         ·rename_i f l ht
          split at h
          ·rename_i hc
           simp only[ah] at hc
           obtain⟨c1,c2,c3⟩:=hc
           have c1:=ab c1
           have c2:=eN c2
           have c3:0<n:=by simpa[fU] using c3
           obtain⟨i1,i2,i3⟩:=Hj s.ln ht
           obtain⟨e1,_⟩:=sf hf (.arr e true f τ l) rfl
           refine .one _ (EF.buildSlice (sz:=S.sz τ) (z:=z) (bt:=i.bytes) (s.cZ d) (gs:=TV.er.go s.ln vs) (by rw[hp];exact Dc hv) (by rw[cS,aU,c1]) hu hinfo (Nat.mul_pos c3 (ES S τ)) c2 i1 (iM hf)) ?_ ((hl.add _ hf).put _ _) ⟨rfl,rfl,rfl⟩ h
           rw[hP,e1,Fs,i2,c1]
           have:=Gh.pure (s:={fr:=(d,.aM (s.cZ d) (S.sz τ) 0 n)::s.er.fr,st:=(s.cZ d,⟨e,false,true,false,S.sz τ,(TV.er.go s.ln vs).flatMap cC,none⟩)::s.er.st,df:=s.er.df}) (h:=s.cZ d)
            (dv _ _ _) rfl rfl (Pt τ l) i3
           rw[Kl] at this
           exact this
          ·cases h
         ·cases h
        ·cases h
      ·cases h
     ·cases h
    ·cases h
   ·cases h
  ·cases h
 ·cases h
end
end
end Go.DN
/-
 DN,part J:stores.
-/
namespace Go.DN
open Go.AM
section
variable {P:Program}{W:List Nat}{s:St}{ty:TypeId}{pos:String}{after:Array Edge}{guard:Option (Nat×Bool)}
theorem EF.Hk {t:TypeId}{x y:Operand}{h off sz:Nat}{k:aq}{g:G}{gs ms cells':List G}{f:Bool}(hx:ev s x=some (.loc h off)) (hy:ev s y=some g) (hk:ay s.st h=some k) (hp:k.pure=true)
  (hok:A8 g=true) (hgs:cC g=gs) (hone:gs.all G.one=true) (hl:gs.length=sz) (hsz:∀w,(sizeOf t).run P w=.ok sz w) (hoff:off+sz≤k.cells.length) (hW:W.contains h=true)
  (hms:uQ gs f ms) (hpl:∀m∈ms,Pl m)
  (hc':k.cells.take off++ms++k.cells.drop (off+sz)=cells') (hlp:k.lp=none):
  bW P W s ⟨none,.store t x y,ty,pos,after,guard⟩ (·={fr:=s.fr,st:=eb s.st h {k with fresh:=k.fresh&&f,cells:=cells'},df:=s.df}):=by
 refine bW.skip rfl (fun _ h=>by cases h) ?_
 intro N cx μ a w hr
 obtain⟨b,m,e1,hm⟩:=hr.loc hx
 obtain⟨cs,h1,h2,h3,h4,hbt,h5⟩:=hr.own hk hm hlp
 obtain⟨hvl,hvc⟩:=(hr.ev hy).cells hok
 rw[hgs] at hvl hvc
 have hml:ms.length=sz:=hms.1▸hl
 have hlen:(a.eval y).cells.toList.length=sz:=by rw[bE,hvl,hl]
 have hrun:=run_storeCells_at P b off k.bs (a.eval y).cells.toList 0 cs w h1 (by rw[hlen];omega) (fun v hv=>by
  obtain⟨j,hj⟩:=eZ hv
  have hjl:j<gs.length:=by
   have:=(av.1 hj).1
   omega
  obtain⟨u,hu,hru⟩:=hvc j gs[j] (ao hjl)
  rw[ba] at hj
  rw[hj] at hu
  cases hu
  exact hru.one (cu.1 hone _ (kD hjl)))
 rw[fG,hlen] at hrun
 refine⟨μ,w.setRow b (cs.toList.take off++(a.eval y).cells.toList++cs.toList.drop (off+sz)).toArray,?_,?_⟩
 ·simp only[execOp,Instr.storeAt,Instr.sureAddr,e1,storeVar,hsz,Sem.run_bind,Sem.run_pure,Result.andThen_ok]
  rw[if_neg (by rw[hvl,hl];simp)]
  rw[hrun]
  rfl
 ·subst hc'
  refine hr.write (k':={k with fresh:=k.fresh&&f,cells:=k.cells.take off++ms++k.cells.drop (off+sz)}) hk hm (pi h1) ?_ (setRow_size _ _ _) (fun b' hb'=>setRow_other w b b' _ hb') rfl rfl rfl id ?_ hbt ?_ W hW hlp
  ·simp only[lg,al,bH,dF,bE,hvl,hl];omega
  ·simp only[al,bH,dF,hml];omega
  ·intro j g' hg'
   have ke:∀(j:Nat),(cs.toList.take off++(a.eval y).cells.toList++cs.toList.drop (off+sz)).toArray[j]?=if j<off then cs[j]? else if j<off+sz then(a.eval y).cells[j-off]? else cs[j]?:=by
    intro j
    rw[List.getElem?_toArray,aL,bC,bH,bE,gR (by omega:off≤cs.size)]
    split
    ·rename_i hj;rw[bg,if_pos hj,ba]
    ·rw[bC,hlen]
     split
     ·rename_i hj1 hj2;rw[if_pos (by omega),ba]
     ·rename_i hj1 hj2;rw[if_neg (by omega),bn,ba];congr 1;omega
   dsimp only at hg'
   rw[aL,bC,bH,gR (by omega:off≤k.cells.length)] at hg'
   rw[ke]
   split at hg'
   ·rename_i hj
    rw[if_pos hj]
    rw[bg,if_pos hj] at hg'
    obtain⟨v,hv,hrv⟩:=h5 j g' hg'
    refine⟨v,hv,?_⟩
    unfold cF at hrv⊢
    dsimp only
    rw[hp] at hrv⊢
    exact hrv.flag fun h=>by simp at h;exact h.1
   ·rename_i hj
    rw[if_neg hj]
    rw[bC,hml] at hg'
    split at hg'
    ·rename_i hj2
     rw[if_pos (by omega)]
     obtain⟨g0,hg0,hw0⟩:=hms.2 _ g' hg'
     obtain⟨v,hv,hrv⟩:=hvc _ g0 hg0
     refine⟨v,hv,?_⟩
     unfold cF
     dsimp only
     rw[hp]
     exact(HJ (hpl g' (aQ hg')) (hw0 _ _ _ _ _ hrv)).flag fun h=>by simp at h;exact h.2
    ·rename_i hj2
     rw[if_neg (by omega)]
     rw[bn] at hg'
     have:off+sz+(j-off-sz)=j:=by omega
     rw[this] at hg'
     obtain⟨v,hv,hrv⟩:=h5 j g' hg'
     refine⟨v,hv,?_⟩
     unfold cF at hrv⊢
     dsimp only
     rw[hp] at hrv⊢
     exact hrv.flag fun h=>by simp at h;exact h.1
end
section
variable {S:dr}
theorem jP (τ:Ty) (l:List (S.D τ)):(List.flatMap (aP S τ) l).length=l.length*S.sz τ:=@iA _ (lX S τ) l
theorem Bl (τ:Ty) (l:List (S.D τ)) (n:Nat):(List.flatMap (aP S τ) l).take (n*S.sz τ)=List.flatMap (aP S τ) (l.take n):=@xW _ (lX S τ) l n
theorem Bm (τ:Ty) (l:List (S.D τ)) (n:Nat):(List.flatMap (aP S τ) l).drop (n*S.sz τ)=List.flatMap (aP S τ) (l.drop n):=@xX _ (lX S τ) l n
theorem tK (τ:Ty) (l m:List (S.D τ)):List.flatMap (aP S τ) (l++m)=List.flatMap (aP S τ) l++List.flatMap (aP S τ) m:=List.flatMap_append
theorem Lj (τ:Ty){l:List (S.D τ)}{i:Nat}{a b:S.D τ}(hi:l[i]?=some b):List.flatMap (aP S τ) (l.set i a)=(List.flatMap (aP S τ) l).take (i*S.sz τ)++aP S τ a++(List.flatMap (aP S τ) l).drop (i*S.sz τ+S.sz τ):=by
 have hlt:=(av.1 hi).1
 rw[eB,if_pos hlt,tK,cP,Bl]
 have:i*S.sz τ+S.sz τ=(i+1)*S.sz τ:=by rw[fA,Nat.one_mul]
 rw[this,Bm,aL]
theorem DF (n:Nat){l:List (S.α n)}{i j:Nat}{a b:S.α n}{x:aY S.α}(hi:l[i]?=some b) (hj:j<(S.cells n b).length) (ha:S.cells n a=(S.cells n b).set j x):
  List.flatMap (aP S (.st n)) (l.set i a)=(List.flatMap (aP S (.st n)) l).take (i*S.sz (.st n)+j)++[da S x.τ x.a]++(List.flatMap (aP S (.st n)) l).drop (i*S.sz (.st n)+j+1):=by
 have hlt:=(av.1 hi).1
 have hlen:(S.cells n b).length=S.sz (.st n):=by
  have:=congrArg List.length (S.l7 n b)
  rw[aU] at this
  exact this
 have hsplit:List.flatMap (aP S (.st n)) l=List.flatMap (aP S (.st n)) (l.take i)++((S.cells n b).map (fun x=>da S x.τ x.a)++List.flatMap (aP S (.st n)) (l.drop (i+1))):=by
  have e:l=l.take i++b::l.drop (i+1):=by
   have:=(av.1 hi).2
   rw[←this,List.getElem_cons_drop,List.take_append_drop]
  conv=>lhs;rw[e]
  rw[tK,cP]
  show _++(aP S (.st n) b++_)=_
  rw[fZ]
 have hset:List.flatMap (aP S (.st n)) (l.set i a)=List.flatMap (aP S (.st n)) (l.take i)++((S.cells n a).map (fun x=>da S x.τ x.a)++List.flatMap (aP S (.st n)) (l.drop (i+1))):=by
  rw[eB,if_pos hlt,tK,cP]
  show _++(aP S (.st n) a++_)=_
  rw[fZ]
 have hpre:(List.flatMap (aP S (.st n)) (l.take i)).length=i*S.sz (.st n):=by
  rw[jP,bH,gR (Nat.le_of_lt hlt)]
 rw[hset,hsplit,ha]
 generalize List.flatMap (aP S (.st n)) (l.take i)=pre at hpre
 generalize List.flatMap (aP S (.st n)) (l.drop (i+1))=post
 generalize S.cells n b=cb at hj
 have e1:(pre++(cb.map (fun x=>da S x.τ x.a)++post)).take (i*S.sz (.st n)+j)=pre++(cb.map (fun x=>da S x.τ x.a)).take j:=by
  rw[List.take_append,hpre,dz (by omega),List.take_append]
  have:i*S.sz (.st n)+j-i*S.sz (.st n)=j:=by omega
  rw[this]
  have:j-(cb.map (fun x=>da S x.τ x.a)).length=0:=by rw[aU];omega
  rw[this,kH,cH]
 have e2:(pre++(cb.map (fun x=>da S x.τ x.a)++post)).drop (i*S.sz (.st n)+j+1)=(cb.map (fun x=>da S x.τ x.a)).drop (j+1)++post:=by
  rw[List.drop_append,hpre,List.drop_of_length_le (by omega),jd,List.drop_append]
  have:i*S.sz (.st n)+j+1-i*S.sz (.st n)=j+1:=by omega
  rw[this]
  have:j+1-(cb.map (fun x=>da S x.τ x.a)).length=0:=by rw[aU];omega
  rw[this,iC]
 rw[e1,e2,p9,eB,if_pos (by rw[aU];exact hj)]
 simp only[aL,ca,jd]
theorem Lt {τ:Ty}(hs:τ.gW=true) (x:S.D τ):∃u,da S τ x=.val u:=by
 cases τ with
 | list _=>cases hs
 | st _=>cases hs
 | cQ=>cases hs
 | pt _=>cases hs
 | _=>exact⟨_,rfl⟩
theorem Nt {f:Bool}{τ:Ty}(hs:τ.gW=true){x:S.D τ}{u:Value}(hu:da S τ x=.val u):nh f τ x=.val u:=by
 rw[←hu]
 cases τ with
 | list _=>cases hs
 | st _=>cases hs
 | cQ=>cases hs
 | pt _=>cases hs
 | _=>cases f <;> rfl
theorem Lq {f:Bool}{τ:Ty}(hs:τ.gW=true){x:S.D τ}:dH (TV.ae f τ x:TV S)=[.ae f τ x]:=by
 cases τ with
 | list _=>cases hs
 | st _=>cases hs
 | cQ=>cases hs
 | pt _=>cases hs
 | _=>rfl
def Cy {A:Type}:(τ':Ty)→S.D τ'→Ty→Nat→Nat→TV S→(S.D τ'→Option A)→Option A
 | .list (.list t),ll,τ,i,j,vy,k=>match t.gW with
  | true=>match decEq τ t with
   | isTrue _=>match nK t vy with
    | some x=>(ll[i]?).bind fun r=>(cj (j<List.length r)).bind fun _=>k (List.set ll i (List.set r j x.2))
    | none=>none
   | isFalse _=>none
  | false=>none
 | _,_,_,_,_,_,_=>none
theorem Jq {A:Type}{r0:A}:∀{τ':Ty}{a:S.D τ'}{τ:Ty}{i j:Nat}{vy:TV S}{k:S.D τ'→Option A},Cy τ' a τ i j vy k=some r0→
  ∃(u:Value) (n:Nat) (gs:List G) (a':S.D τ'),S.sz τ=1∧(∀ln,vy.er ln=.val u)∧dH vy=[vy]∧(j0 τ' a).2[i]?=some (n,gs)∧j<gs.length∧k a'=some r0∧uS τ' a'=uS τ' a∧
   (j0 τ' a').1=(j0 τ' a).1∧(j0 τ' a').2=(j0 τ' a).2.set i (n,gs.set j (.val u))
 | .list (.list t),ll,τ,i,j,vy,k,h=>by
  simp only[Cy] at h
  split at h
  ·rename_i hs
   split at h
   ·rename_i e _
    subst e
    split at h
    ·rename_i x hx
     obtain⟨r,h1,h⟩:=bind_some h
     obtain⟨_,h2,h⟩:=bind_some h
     have h2:=cO h2
     obtain⟨f,x⟩:=x
     have hst:τ.fq=false:=by cases τ <;> first | rfl | cases hs
     have hv:∃u,da S τ x=.val u∧(∀ln,vy.er ln=.val u)∧dH vy=[vy]:=by
      unfold nK at hx
      split at hx
      ·split at hx
       ·cases hx
       ·rename_i hns
        split at hx
        ·rename_i b hb
         cases hx
         have:=dW hb
         cases this
         obtain⟨u,hu⟩:=Lt hs x
         exact⟨u,hu,fun _=>Nt hs hu,Lq hs⟩
        ·cases hx
      ·split at hx
       ·cases hs
       ·cases hx
      ·split at hx
       ·cases hs
       ·cases hx
      ·cases hx
     obtain⟨u,hu,hv1,hv2⟩:=hv
     have hsz:S.sz τ=1:=by cases τ <;> first | rfl | cases hs
     have hone:∀l:List (S.D τ),List.flatMap (aP S τ) l=l.map (da S τ):=by
      intro l
      induction l with
      | nil=>rfl
      | cons y r ih=>rw[cP,ih,jB S hst];rfl
     refine⟨u,List.length r,List.flatMap (aP S τ) r,_,hsz,hv1,hv2,by show(List.map _ ll)[i]?=_;rw[ak,h1];rfl,?_,h,?_,rfl,?_⟩
     ·rw[hone,aU];exact h2
     ·show(List.set ll i _).length=ll.length
      exact lc
     ·show List.map _ (List.set ll i _)=List.set (List.map _ ll) i _
      rw[p9]
      congr 1
      show(List.length (List.set r j x),List.flatMap (aP S τ) (List.set r j x))=_
      rw[lc,hone,hone,p9,hu]
    ·cases h
   ·cases h
  ·cases h
 | .list (.int _),_,_,_,_,_,_,h=>by cases h
 | .list .bool,_,_,_,_,_,_,h=>by cases h
 | .list .cQ,_,_,_,_,_,_,h=>by cases h
 | .list (.pt _),_,_,_,_,_,_,h=>by cases h
 | .list .str,_,_,_,_,_,_,h=>by cases h
 | .list (.st _),_,_,_,_,_,_,h=>by cases h
 | .int _,_,_,_,_,_,_,h=>by cases h
 | .bool,_,_,_,_,_,_,h=>by cases h
 | .cQ,_,_,_,_,_,_,h=>by cases h
 | .pt _,_,_,_,_,_,_,h=>by cases h
 | .str,_,_,_,_,_,_,h=>by cases h
 | .st _,_,_,_,_,_,_,h=>by cases h
def zA (ki:IntKind) (l:List Int) (i:Nat) (v:Int):List (TV S):=(List.range l.length).map fun m=>.ae true (.int ki) ((l.set i v).getD m 0)
theorem OS (ki:IntKind) (cs:List (TV S)) (j i:Nat) (v:Int) (hi:i<(kq ki (cs.drop j)).length) (ln:Nat→Nat):
  (cs.take j++zA ki (kq ki (cs.drop j)) i v++cs.drop (j+(kq ki (cs.drop j)).length)).map (TV.er ln)=(cs.map (TV.er ln)).set (j+i) (.val (.int ki v)):=by
 generalize hl:kq ki (cs.drop j)=l at hi
 have hg:∀m,m<l.length→∃f,cs[j+m]?=some (.ae f (.int ki) (l.getD m 0)):=fun m hm=>by
  have h1:(kq ki (cs.drop j))[m]?=some (l.getD m 0):=by rw[hl,ei,ao hm];rfl
  obtain⟨f,h2⟩:=uz h1
  exact⟨f,by rwa[bn] at h2⟩
 have hjl:j+l.length≤cs.length:=by
  obtain⟨f,h⟩:=hg (l.length-1) (by omega)
  have:=(av.1 h).1
  omega
 have htl:(cs.take j).length=j:=by rw[bH];omega
 have hpl:(zA (S:=S) ki l i v).length=l.length:=by unfold zA;simp
 apply jT
 intro q
 rw[ak,gD,aU]
 by_cases h1:q<j
 ·rw[fc (by rw[al,htl];omega),fc (by omega),bg,if_pos h1,if_neg (by omega),ak]
 ·by_cases h2:q<j+l.length
  ·obtain⟨m,rfl⟩:∃m,q=j+m:=⟨q-j,by omega⟩
   have hm:m<l.length:=by omega
   rw[fc (by rw[al,htl,hpl];omega),iB (by omega),htl,show j+m-j=m by omega]
   unfold zA
   rw[ak,iZ hm,bY,bY]
   show some (nh true (.int ki) _)=_
   rw[tP]
   by_cases h3:m=i
   ·subst h3
    rw[if_pos rfl,if_pos (by omega),ei,List.getElem?_set_self hm]
    rfl
   ·rw[if_neg (by omega),ei,List.getElem?_set_ne (fun e=>h3 e.symm),←ei]
    obtain⟨f,h4⟩:=hg m hm
    rw[ak,h4]
    exact congrArg some (tP f ki _).symm
  ·rw[iB (by rw[al,htl,hpl];omega),al,htl,hpl,bn,show j+l.length+(q-(j+l.length))=q by omega,if_neg (by omega),ak]
def M6 (ki:IntKind):TV S→Option Int
 | .ae _ (.int k) a=>match decEq k ki with
  | isTrue _=>some a
  | isFalse _=>none
 | _=>none
theorem Pd {ki:IntKind}{v:TV S}{a:Int}(h:M6 ki v=some a):∃f,v=.ae f (.int ki) a:=by
 unfold M6 at h
 split at h
 ·rename_i f k b
  split at h
  ·rename_i e _
   subst e
   cases h
   exact⟨f,rfl⟩
  ·cases h
 ·cases h
def xt (P:Program) (ok:Nat→Bool) (s:ag S) (t:TypeId) (x y:Operand){A:Type}(k:ag S→Option A):Option A:=
 match cq s y with
 | some vy=>match okV vy&&AH (dH vy) with
  | true=>match decEq (nc P t) (some (dH vy).length) with
   | isTrue _=>match cq s x with
    | some (.loc h off)=>match ok h with
     | true=>match aA s.st h with
      | some (.box e m cs)=>match Nat.ble (off+(dH vy).length) cs.length with
       | true=>k (s.set h (.box e m (cs.take off++dH vy++cs.drop (off+(dH vy).length))))
       | false=>none
      | _=>none
     | false=>none
    | some (.ia h τ i j)=>match ok h with
     | true=>match aA s.st h with
      | some (.arr e m f τ' l)=>match decEq τ' τ with
       | isTrue _=>Bo s x h l i fun y=>match Nat.beq (dH vy).length (S.sz τ') with
        | true=>match j with
         | 0=>match Aq τ' vy with
          | some (fy,a)=>k (s.set h (.arr e m (f&&fy) τ' (l.set i a)))
          | none=>none
         | _=>none
        | false=>match τ',l,y with
         | .st n,l,⟨.st n',b⟩=>match decEq n' n with
          | isTrue hn=>match (S.cg n)[j]? with
           | some τj=>match nK τj vy with
            | some (fy,a)=>match S.put n ((S.cells n' b).set j ⟨τj,a⟩) with
             | some b'=>k (s.set h (.arr e m (f&&fy) (.st n) (l.set i b')))
             | none=>none
            | none=>none
           | none=>none
          | isFalse _=>none
         | _,_,_=>none
       | isFalse _=>none
      | some (.box e m cs)=>match τ with
       | .int ki=>match M6 ki vy with
        | some v=>(cj (i<(kq ki (cs.drop j)).length)).bind fun _=>k (s.set h (.box e m (cs.take j++zA ki (kq ki (cs.drop j)) i v++cs.drop (j+(kq ki (cs.drop j)).length))))
        | none=>none
       | _=>none
      | _=>none
     | false=>none
    | some (.kp h τ i j)=>match ok h with
     | true=>match aA s.st h with
      | some (.deep e m f (.tH kty) τ' a)=>Cy τ' a τ i j vy fun a'=>k (s.set h (.deep e m f (.tH kty) τ' a'))
      | _=>none
     | false=>none
    | _=>none
   | isFalse _=>none
  | false=>none
 | none=>none
theorem Io {τ:Ty}{v:TV S}{f:Bool}{a:S.D τ}(h:nK τ v=some (f,a)) (ln:Nat→Nat):uQ (cC (v.er ln)) f [da S τ a]∧dH v=[v]:=by
 have ⟨h1,h2⟩:=B3 h ln
 have hc:dH v=[v]:=by
  cases v with
  | ae f' τ' a'=>
   cases τ' with
   | st n=>simp[nK,Ty.fq] at h
   | _=>rfl
  | agg l=>simp[nK] at h
  | _=>rfl
 refine⟨?_,hc⟩
 have hg:cC (v.er ln)=[v.er ln]:=by
  cases v with
  | ae f' τ' a'=>
   cases τ' with
   | st n=>simp[nK,Ty.fq] at h
   | pt n=>cases a' <;> cases f' <;> rfl
   | _=>cases f' <;> rfl
  | val u=>
   unfold nK at h
   split at h
   ·rename_i e;cases e
   ·rename_i e;cases e;rfl
   ·rename_i e;cases e;rfl
   ·cases h
  | _=>simp[nK] at h
 rw[hg]
 refine⟨rfl,fun j m hm=>?_⟩
 cases j with
 | zero=>cases hm;exact⟨_,rfl,h2⟩
 | succ j=>cases hm
section
variable {P:Program}{W:List Nat}{s:ag S}{ty:TypeId}{pos:String}{after:Array Edge}{guard:Option (Nat×Bool)}{A:Type}{k:ag S→Option A}{r:A}
theorem Ka {t:TypeId}{x y:Operand}{hh n i j:Nat}{e:TypeId}{m f fy:Bool}{l:List (S.D (.st n))}{b b2:S.D (.st n)}{vy:TV S}{τj:Ty}{a:S.D τj}(hl:aJ s) (hx:cq s x=some (.ia hh (.st n) i j)) (hy:cq s y=some vy) (hok:okV vy=true) (hones:AH (dH vy)=true)
  (hsz:nc P t=some (dH vy).length) (hW:W.contains hh=true) (ho:aA s.st hh=some (.arr e m f (.st n) l)) (hb:l[i]?=some b) (hj:(S.cg n)[j]?=some τj) (ha:nK τj vy=some (fy,a)) (hp:S.put n ((S.cells n b).set j ⟨τj,a⟩)=some b2)
  (h:k (s.set hh (.arr e m (f&&fy) (.st n) (l.set i b2)))=some r):eU P W s ⟨none,.store t x y,ty,pos,after,guard⟩ k r:=by
 have hg:=ur hok s.ln
 have hil:=(av.1 hb).1
 have htot:(i+1)*S.sz (.st n)≤l.length*S.sz (.st n):=cJ _ hil
 rw[fA,Nat.one_mul] at htot
 obtain⟨hcs,ht1⟩:=Io ha s.ln
 have hlen:(S.cells n b).length=S.sz (.st n):=by
  have:=congrArg List.length (S.l7 n b)
  rw[aU] at this
  exact this
 have hjl:j<S.sz (.st n):=(av.1 hj).1
 rw[ht1] at hsz hones hg
 have hcell:=S.hU _ _ _ hp
 have hset:=DF n hb (by rw[hlen];exact hjl) hcell
 obtain⟨e2,_⟩:=rO (o':=.arr e m (f&&fy) (.st n) (l.set i b2)) ho (by show(l.set i b2).length=l.length;exact lc)
 refine .one _ (EF.Hk (f:=fy) (ms:=[da S τj a]) (bc hx) (bc hy) (dJ (gO ho)) rfl (rb hok s.ln) hg (oe s.ln hones) (by rw[cS,aU]) (cD hsz)
  (by show i*S.sz (.st n)+j+1≤(List.flatMap (aP S (.st n)) l).length;rw[jP];omega) hW (hg▸hcs) (fun m hm=>by simp at hm;subst hm;exact vB (B3 ha s.ln).1 a) rfl rfl) ?_ (hl.set ho _) ⟨rfl,rfl,rfl⟩ h
 rw[e2]
 have:(TO.arr e m (f&&fy) (.st n) (l.set i b2):TO S).er s.ln=⟨e,true,m,f&&fy,S.sz (.st n),(List.flatMap (aP S (.st n)) l).take (i*S.sz (.st n)+j)++[da S τj a]++(List.flatMap (aP S (.st n)) l).drop (i*S.sz (.st n)+j+1),none⟩:=by
  simp only[TO.er]
  rw[hset]
 rw[this]
 exact Gh.refl _
theorem xr {ok:Nat→Bool}(hokW:∀h,ok h=true→W.contains h=true){t:TypeId}{x y:Operand}(hl:aJ s) (h:xt P ok s t x y k=some r):eU P W s ⟨none,.store t x y,ty,pos,after,guard⟩ k r:=by
 unfold xt at h
 split at h
 ·rename_i vy hy
  split at h
  ·rename_i hov
   simp only[ah] at hov
   obtain⟨hok,hones⟩:=hov
   have hg:=ur hok s.ln
   split at h
   ·rename_i hsz _
    split at h
    ·rename_i hh off hx
     split at h
     ·rename_i hW
      split at h
      ·rename_i e m cs ho
       split at h
       ·rename_i hb
        have hb:=eN hb
        obtain⟨e1,_⟩:=rO (o':=.box e m (cs.take off++dH vy++cs.drop (off+(dH vy).length))) ho rfl
        refine .one _ (EF.tn (bc hx) (bc hy) (dJ (gO ho)) rfl (rb hok s.ln) hg (oe s.ln hones) (by rw[cS,aU]) (cD hsz) (by show _≤(TV.er.go s.ln cs).length;rw[cS,aU];exact hb) (hokW _ hW) rfl) ?_ (hl.set ho _) ⟨rfl,rfl,rfl⟩ h
        rw[e1]
        have:(TO.box e m (cs.take off++dH vy++cs.drop (off+(dH vy).length)):TO S).er s.ln={(TO.box e m cs:TO S).er s.ln with cells:=((TO.box e m cs:TO S).er s.ln).cells.take off++TV.er.go s.ln (dH vy)++((TO.box e m cs:TO S).er s.ln).cells.drop (off+(dH vy).length)}:=by
         simp only[TO.er,cS,gk,List.map_take,List.map_drop]
        rw[this]
        exact Gh.refl _
       ·cases h
      ·cases h
     ·cases h
    ·rename_i hh τ i j hx
     split at h
     ·rename_i hW
      split at h
      ·rename_i e m f τ' l ho
       split at h
       ·rename_i e1 _
        subst e1
        obtain⟨b,hb,h2⟩:=zY hl ⟨j,hx⟩ (gO ho) h
        replace h:=h2
        clear h2
        have hil:=(av.1 hb).1
        have htot:(i+1)*S.sz τ'≤l.length*S.sz τ':=cJ _ hil
        rw[fA,Nat.one_mul] at htot
        split at h
        ·rename_i hc
         have hc:=ab hc
         split at h
         ·split at h
          ·rename_i fy a ha
           have hcs:=C4 ha s.ln
           obtain⟨e2,_⟩:=rO (o':=.arr e m (f&&fy) τ' (l.set i a)) ho (by show(l.set i a).length=l.length;simp)
           refine .one _ (EF.Hk (f:=fy) (ms:=aP S τ' a) (bc hx) (bc hy) (dJ (gO ho)) rfl (rb hok s.ln) hg (oe s.ln hones) (by rw[cS,aU]) (cD hsz) (by show _≤(List.flatMap (aP S τ') l).length;rw[jP,hc];omega) (hokW _ hW) (hg▸hcs) (rW τ' a) rfl rfl) ?_ (hl.set ho _) ⟨rfl,rfl,rfl⟩ h
           rw[e2]
           have:(TO.arr e m (f&&fy) τ' (l.set i a):TO S).er s.ln=⟨e,true,m,f&&fy,S.sz τ',(List.flatMap (aP S τ') l).take (i*S.sz τ'+0)++aP S τ' a++(List.flatMap (aP S τ') l).drop (i*S.sz τ'+0+(dH vy).length),none⟩:=by
            simp only[TO.er]
            rw[Lj τ' hb,hc,fG]
           rw[this]
           exact Gh.refl _
          ·cases h
         ·cases h
        ·rename_i hc
         split at h
         ·rename_i n l' n' b' _ _ _
          split at h
          ·rename_i hn _
           subst hn
           split at h
           ·rename_i τj hj
            split at h
            ·rename_i fy a ha
             split at h
             ·rename_i b2 hp
              have he:=‹({τ:=Ty.st n,a:=b}:aY S.α)={τ:=Ty.st n,a:=l'}›
              cases he
              exact Ka hl hx hy hok hones hsz (hokW _ hW) ho hb hj ha hp h
             ·cases h
            ·cases h
           ·cases h
          ·cases h
         ·cases h
       ·cases h
      ·rename_i e m cs ho
       split at h
       ·rename_i ki
        split at h
        ·rename_i v hiv
         obtain⟨fv,rfl⟩:=Pd hiv
         ·obtain⟨_,hc,h⟩:=bind_some h
          have hc:=cO hc
          obtain⟨f0,hv0⟩:=uz (ao hc)
          rw[bn] at hv0
          have hjl:=(av.1 hv0).1
          obtain⟨e1,_⟩:=rO (o':=.box e m (cs.take j++zA ki (kq ki (cs.drop j)) i v++cs.drop (j+(kq ki (cs.drop j)).length))) ho rfl
          refine .one _ (EF.tn (bc hx) (bc hy) (dJ (gO ho)) rfl (rb hok s.ln) hg (oe s.ln hones) (by rw[cS,aU]) (cD hsz) (by
           show i*1+j+1≤(TV.er.go s.ln cs).length
           rw[cS,aU];omega) (hokW _ hW) rfl) ?_ (hl.set ho _) ⟨rfl,rfl,rfl⟩ h
          rw[e1]
          have:(TO.box e m (cs.take j++zA ki (kq ki (cs.drop j)) i v++cs.drop (j+(kq ki (cs.drop j)).length)):TO S).er s.ln={(TO.box e m cs:TO S).er s.ln with cells:=((TO.box e m cs:TO S).er s.ln).cells.take (i*1+j)++TV.er.go s.ln (dH (.ae fv (.int ki) v:TV S))++((TO.box e m cs:TO S).er s.ln).cells.drop (i*1+j+1)}:=by
           simp only[TO.er,cS]
           rw[OS ki cs j i v hc s.ln,eB,if_pos (by rw[aU];omega),show i*1+j=j+i by omega]
           have:(dH (.ae fv (.int ki) v:TV S)).map (TV.er s.ln)=[.val (.int ki v)]:=congrArg (fun g=>[g]) (tP fv ki v)
           rw[this]
           simp
          rw[this]
          exact Gh.refl _
        ·cases h
       ·cases h
      ·cases h
     ·cases h
    ·rename_i hh τ i j hx
     split at h
     ·rename_i hW
      split at h
      ·rename_i e m f kty τ' a ho
       obtain⟨u,n,gs,a',hsz1,hv1,hv2,h1,h2,h0,h3,h4,h5⟩:=Jq h
       rw[hv2] at hsz
       obtain⟨e1,_⟩:=rO (o':=.deep e m f (.tH kty) τ' a') ho h3
       refine .one _ (EF.CA (f:=true) (g:=.val u) (g':=.val u) (by rw[bc hx];rfl) (by rw[bc hy,hv1]) (dJ (gO ho)) rfl h1 (by rw[hsz1,nI];exact h2) rfl (by
        have:=oe s.ln hones
        rw[hv2] at this
        simpa[TV.er.go,hv1] using this) (cD hsz) (hokW _ hW)) ?_ (hl.set ho _) ⟨rfl,rfl,rfl⟩ h0
       rw[e1,hsz1,nI]
       have:(TO.deep e m f (.tH kty) τ' a':TO S).er s.ln=⟨e,true,m,f&&true,1,[],some (.deep (rF e kty (j0 τ' a).1 ((j0 τ' a).2.set i (n,gs.set j (.val u)))))⟩:=by
        show aq.mk _ _ _ _ _ _ (some (.deep (rF e kty (j0 τ' a').1 (j0 τ' a').2)))=_
        rw[h4,h5,jF]
       rw[this]
       exact Gh.refl _
      ·cases h
     ·cases h
    ·cases h
   ·cases h
  ·cases h
 ·cases h
end
end
end Go.DN
/-
 DN,part K:append.
-/
namespace Go.DN
open Go.AM
theorem bW.gh {P:Program}{W:List Nat}{s t:St}{o:Oper}{T:St→Prop}(h:Gh s t) (he:bW P W t o T):bW P W s o T:=by
 refine⟨he.1,fun N cx μ a w hr hd K Q hK=>?_⟩
 obtain⟨μ',h1,h2⟩:=h N cx μ a w hr
 refine he.2 N cx μ' a w h1 hd K Q fun μ2 s' a' w' hr' ht hst=>hK μ2 s' a' w' hr' ht ⟨hst.size,fun b hb hn=>hst.block b hb fun x k c m hx hk hm hi=>?_,fun x k' c m' b hx hk hm hi=>?_⟩
 ·obtain⟨k0,c0,m0,h3,h4,h5⟩:=h2 x k c m b hk hm hi
  exact hn x k0 c0 m0 hx h3 h4 h5
 ·rcases hst.hand x k' c m' b hx hk hm hi with ⟨h0,k,c1,m,h3,h4,h5,h5i⟩ | h3
  ·obtain⟨k0,c0,m0,h6,h7,h8⟩:=h2 h0 k c1 m b h4 h5 h5i
   exact .inl ⟨h0,k0,c0,m0,h3,h6,h7,h8⟩
  ·exact .inr h3
theorem Gh.rI {s:St}{t:Nat}(hd:Nat) (k:aq) (hg:get s.fr t=some (.val (.slice none 0 0))) (hf:fresh s hd=true) (hk:k.cells=[]) (hlp:k.lp=none):
  Gh s {fr:=(t,.aM hd k.sz 0 0)::s.fr,st:=(hd,k)::s.st,df:=s.df}:=fun N cx μ a w h=>by
 obtain⟨h1,h2,h3,h5,h6⟩:=iL hf
 obtain⟨h4,hO⟩:=h.st.AP h1 h3 (lr h6) hk hlp
 refine⟨mJ μ hd none,{st:=h4,nd:=(h.nd.mono (Kept.refl _ _) (fun b _=>hO b)).jg (fun g hg y hy=>bh fun e=>by subst e;rw[rq h5 hg] at hy;cases hy),sz:=h.sz,fr:=fun t' g hg'=>?_},Gh.same fun x k1 b m hx hm=>?_⟩
 ·rw[fF] at hg'
  cases hb:Nat.beq t t' with
  | true=>
   rw[hb] at hg'
   cases hg'
   have:=ab hb
   subst this
   obtain⟨v,hv,hr⟩:=h.fr t _ hg
   cases hr with
   | aD hr=>cases hr;exact⟨_,hv,.gX hd k.sz (cz _ _ _)⟩
  | false=>
   rw[hb] at hg'
   obtain⟨v,hv,hr⟩:=h.fr t' g hg'
   refine⟨v,hv,(hr.mono (Kept.refl _ _) (fun b _=>hO b) (ar _)).jg fun y hy=>bh ?_⟩
   intro e
   subst e
   rw[pq h2 hg'] at hy
   cases hy
 ·by_cases e:x=hd
  ·subst e;rw[cz] at hm;cases hm
  ·rw[bh e] at hm
   exact⟨k1,by rw[←aG k _ e];exact hx,hm⟩
section
variable {S:dr}
def Mn (s:ag S) (h:Nat) (τ:Ty):TV S→Option (Bool×List (S.D τ))
 | .ae f (.list τ') m=>match iN (.list τ') (.list τ) m with
  | some m=>some (f,m)
  | none=>none
 | .aM h2 τ2=>match Nat.beq h2 h with
  | true=>none
  | false=>match aA s.a7 h2 with
   | some (.arr _ _ f τ' m)=>match decEq τ' τ2 with
    | isTrue _=>match iN (.list τ') (.list τ) m with
     | some m=>some (f,m)
     | none=>none
    | isFalse _=>none
   | _=>none
 | .sub h2 τ2 o n=>match Nat.beq h2 h with
  | true=>none
  | false=>match aA s.a7 h2 with
   | some (.arr _ _ f τ' m)=>match decEq τ' τ2 with
    | isTrue _=>match iN (.list τ') (.list τ) m with
     | some m=>some (f,(m.drop o).take n)
     | none=>none
    | isFalse _=>none
   | _=>none
 | .val (.slice none 0 0)=>some (true,[])
 | _=>none
def Mo (s:ag S) (v:TV S){A:Type}(k:Option A):Option A:=
 match v with
 | .sub h2 τ2 o n=>match aA s.a7 h2 with
  | some (.arr _ _ _ _ m)=>(cj (o+n≤m.length)).bind fun _=>k
  | _=>none
 | _=>k
theorem NH (b:ByteArray):List.flatMap (aP S (.int .u8)) (aF b)=tm b:=by
 unfold aF tm
 generalize b.data.toList=l
 induction l with
 | nil=>rfl
 | cons x r ih=>rw[az,cP,ih,az];rfl
def NS (P:Program) (ok:Nat→Bool) (s:ag S) (d:Nat) (t t' h:Nat) (b:ByteArray){A:Type}(k:ag S→Option A):Option A:=
 match ok h&&(Nat.blt h 1000&&(!(TV.has.go h s.df)&&(!(fT h s.lo)&&!(cW h s.bF)))) with
 | true=>match aA s.st h with
  | some (.arr e m f (.int .u8) l)=>match P.underlying t with
   | some (.slice e')=>match decEq e e' with
    | isTrue _=>match P.underlying t' with
     | some .string=>match (P.info? e).map (fun i=>(i.zero,i.size,i.bytes)) with
      | some (some (Value.int IntKind.u8 0),1,1)=>(cj (List.length l+b.size≤140737488355328)).bind fun _=>k ((s.renew h (.arr e m f (.int .u8) (List.append l (aF b)))).put d (.aM h (.int .u8)))
      | _=>none
     | _=>none
    | isFalse _=>none
   | _=>none
  | _=>none
 | false=>none
def JL (P:Program) (ok:Nat→Bool) (s:ag S) (d:Nat) (t h:Nat) (τ:Ty) (vy:TV S){A:Type}(k:ag S→Option A):Option A:=
 match ok h&&(Nat.blt h 1000&&(!(TV.has.go h s.df)&&(!(fT h s.lo)&&!(cW h s.bF)))) with
 | true=>match aA s.st h with
  | some (.arr e m f τ' l)=>match decEq τ' τ with
   | isTrue _=>match P.underlying t with
    | some (.slice e')=>match decEq e e' with
     | isTrue _=>match P.info? e with
      | some i=>match i.zero with
       | some z=>match decEq i.size (S.sz τ),decEq z.cells.size (S.sz τ) with
        | isTrue _,isTrue _=>match Mn s h τ' vy with
         | some (fy,ml)=>Mo s vy ((cj (List.length l+List.length ml≤maxLen∧(List.length l+List.length ml)*i.bytes≤140737488355328)).bind fun _=>
          k ((s.renew h (.arr e m (f&&(fy||τ'.gW)) τ' (l++ml))).put d (.aM h τ')))
         | none=>none
        | _,_=>none
       | none=>none
      | none=>none
     | isFalse _=>none
    | _=>none
   | isFalse _=>none
  | _=>none
 | false=>none
theorem Gh.gW {s:St}{h:Nat}{k:aq}{τ:Ty}{l:List (S.D τ)}(hs:τ.gW=true) (hk:ay s.st h=some k) (hc:k.cells=List.flatMap (aP S τ) l) (hp:k.pure=true) (hlp:k.lp=none):
  Gh s {fr:=s.fr,st:=eb s.st h {k with fresh:=true},df:=s.df}:=by
 letI:=lX S τ
 haveI:Flat (S.D τ):=⟨fun a g hg=>by
  have hg:g∈aP S τ a:=hg
  cases τ with
  | int _=>exact⟨_,kI.1 hg⟩
  | bool=>exact⟨_,kI.1 hg⟩
  | str=>exact⟨_,kI.1 hg⟩
  | list _=>cases hs
  | st _=>cases hs
  | map=>cases hs
  | cQ=>cases hs
  | pt _=>cases hs⟩
 refine Gh.of (fun N cx μ a w hr=>hr.OQ (l:=l) hk hc hp hlp) fun x k' hx=>?_
 rcases dy hk hx with ⟨rfl,_⟩ | ⟨_,h2⟩
 ·exact⟨k,hk⟩
 ·exact⟨k',h2⟩
theorem Ir {h:Nat}{k k':aq}{r:List (Nat×aq)}:eb ((h,k)::r) h k'=(h,k')::r:=by
 simp[eb]
theorem Gh.Q1 {fr:List (Nat×G)}{r:List (Nat×aq)}{df:List G}{h:Nat}{e:TypeId}{m f fy:Bool}{n:Nat}{τ:Ty}{l:List (S.D τ)}:
  Gh ⟨fr,(h,⟨e,true,m,f&&fy,n,List.flatMap (aP S τ) l,none⟩)::r,df⟩ ⟨fr,(h,⟨e,true,m,f&&(fy||τ.gW),n,List.flatMap (aP S τ) l,none⟩)::r,df⟩:=by
 cases hs:τ.gW with
 | false=>rw[di];exact Gh.refl _
 | true=>
  cases f with
  | false=>exact Gh.refl _
  | true=>
   rw[Bool.or_true,lD]
   have hk:ay ((h,(⟨e,true,m,fy,n,List.flatMap (aP S τ) l,none⟩:aq))::r) h=some ⟨e,true,m,fy,n,List.flatMap (aP S τ) l,none⟩:=by simp[ay]
   have:=Gh.gW (s:=⟨fr,(h,⟨e,true,m,fy,n,List.flatMap (aP S τ) l,none⟩)::r,df⟩) hs hk rfl rfl rfl
   rw[Ir] at this
   exact this
theorem qC {τ' τ:Ty}{m:List (S.D τ')}{m':List (S.D τ)}(h:iN (α:=S.α) (.list τ') (.list τ) m=some m'):∃e:τ'=τ,e▸m=m':=by
 have:=dW h
 cases this
 exact⟨rfl,rfl⟩
theorem OI {s:ag S}{h:Nat}{τ:Ty}{v:TV S}{f:Bool}{m:List (S.D τ)}{A:Type}{k:Option A}{r:A}(ht:Mn s h τ v=some (f,m)) (hc:Mo s v k=some r):
  wu s.er.st (S.sz τ) (v.er s.ln)=some (List.flatMap (aP S τ) m,m.length,f)∧v.has h=false∧k=some r:=by
 unfold Mn at ht
 split at ht
 ·rename_i f' τ' m'
  split at ht
  ·rename_i m2 hm
   cases ht
   obtain⟨e,hm⟩:=qC hm
   subst e
   cases hm
   refine⟨?_,rfl,hc⟩
   rw[td]
   cases f <;> rfl
  ·cases ht
 ·rename_i h2 τ2
  split at ht
  ·cases ht
  ·rename_i hb
   split at ht
   ·rename_i e mm f' τ' m' ho
    split at ht
    ·rename_i e' _
     subst e'
     split at ht
     ·rename_i m2 hm
      cases ht
      obtain⟨e,hm⟩:=qC hm
      subst e
      cases hm
      refine⟨?_,hb,hc⟩
      show wu s.er.st (S.sz τ') (.aM h2 (S.sz τ') 0 (s.ln h2))=_
      simp only[wu,dJ ho,TO.er]
      rw[nS ho,iC,dz (by rw[jP];exact ar _)]
     ·cases ht
    ·cases ht
   ·cases ht
 ·rename_i h2 τ2 o n
  split at ht
  ·cases ht
  ·rename_i hb
   split at ht
   ·rename_i e mm f' τ' m' ho
    split at ht
    ·rename_i e' _
     subst e'
     split at ht
     ·rename_i m2 hm
      cases ht
      obtain⟨e,hm⟩:=qC hm
      subst e
      cases hm
      unfold Mo at hc
      dsimp only at hc
      rw[ho] at hc
      obtain⟨u,h1,h2'⟩:=bind_some hc
      have h1:=cO h1
      refine⟨?_,hb,h2'⟩
      show wu s.er.st (S.sz τ') (.aM h2 (S.sz τ') (o*S.sz τ') n)=_
      simp only[wu,dJ ho,TO.er]
      rw[Bm,Bl,bH,dF,gR (by omega)]
     ·cases ht
    ·cases ht
   ·cases ht
 ·cases ht
  exact⟨rfl,rfl,hc⟩
 ·cases ht
section
variable {P:Program}{W:List Nat}{s:ag S}{ty:TypeId}{pos:String}{after:Array Edge}{guard:Option (Nat×Bool)}{A:Type}{k:ag S→Option A}{r:A}
theorem Hs {s:ag S}{h:Nat}{e:TypeId}{m f:Bool}{τ:Ty}{l:List (S.D τ)}:(TV.aM h τ:TV S).er (s.renew h (.arr e m f τ l)).ln=.aM h (S.sz τ) 0 l.length:=by
 show G.aM _ _ _ ((s.renew h _).ln h)=_
 rw[show(s.renew h (.arr e m f τ l)).ln h=_ from tD _ _]
 rfl
theorem H3 {ok:Nat→Bool}(hokW:∀h,ok h=true→W.contains h=true){d t h:Nat}{τ:Ty}{x y:Operand}{vy:TV S}(hl:aJ s) (hx:cq s x=some (.aM h τ)) (hy:cq s y=some vy) (hk:JL P ok s d t h τ vy k=some r):
  eU P W s ⟨some d,.call ⟨.builtin .append,#[x,y],#[t,t]⟩,ty,pos,after,guard⟩ k r:=by
 unfold JL at hk
 split at hk
 ·rename_i hc
  simp only[ah,aZ] at hc
  obtain⟨hW,hpn,hdf,hlo,hls⟩:=hc
  split at hk
  ·rename_i e m f τ' l ho
   split at hk
   ·rename_i e1 _
    subst e1
    split at hk
    ·rename_i e' hu
     split at hk
     ·rename_i e2 _
      subst e2
      split at hk
      ·rename_i i hi
       split at hk
       ·rename_i z hz
        split at hk
        ·rename_i hs hzs _ _
         split at hk
         ·rename_i fy ml hsr
          obtain⟨g1,g2,hk⟩:=OI hsr hk
          obtain⟨u,hck,hk⟩:=bind_some hk
          obtain⟨c1,c2⟩:=cO hck
          letI:=lX S τ'
          have ho':=dJ (gO ho)
          have hpin:pinned h=false:=lr hpn
          have hdf':oE h s.er.df=true:=by
           show oE h (TV.er.go s.ln s.df)=true
           rw[yP,hdf];rfl
          have hinfo:(P.info? e).map (fun i=>(i.zero,i.size,i.bytes))=some (some z,S.sz τ',i.bytes):=by rw[hi,bY,hz,hs]
          have hx':ev s.er x=some (.aM h (S.sz τ') 0 l.length):=by rw[bc hx];show some (G.aM _ _ _ (s.ln h))=_;rw[nS (gO ho)]
          obtain⟨e1,_,_⟩:=zz (.arr e m (f&&(fy||τ'.gW)) τ' (l++ml)) rfl hdf hlo hls
          refine .one _ (ET.append (α:=S.D τ') (m:=ml) hx' (bc hy) ho' rfl rfl rfl rfl g1 (by rw[vr];exact g2) hu hinfo hzs c1 c2 (hokW h hW) rfl hpin hdf') ?_ ((hl.renew h _ hlo hls).put _ _) ⟨rfl,rfl,rfl⟩ hk
          rw[hP,e1,Hs]
          exact Gh.Q1 (h:=h) (e:=e) (m:=m) (f:=f) (fy:=fy) (τ:=τ') (l:=l++ml) (n:=S.sz τ')
         ·cases hk
        ·cases hk
       ·cases hk
      ·cases hk
     ·cases hk
    ·cases hk
   ·cases hk
  ·cases hk
 ·cases hk
theorem PM {ok:Nat→Bool}(hokW:∀h,ok h=true→W.contains h=true){d t t' h:Nat}{x y:Operand}{b:ByteArray}{f:Bool}(hl:aJ s) (hx:cq s x=some (.aM h (.int .u8))) (hy:cq s y=some (.ae f .str b)) (hk:NS P ok s d t t' h b k=some r):
  eU P W s ⟨some d,.call ⟨.builtin .append,#[x,y],#[t,t']⟩,ty,pos,after,guard⟩ k r:=by
 unfold NS at hk
 split at hk
 ·rename_i hc
  simp only[ah,aZ] at hc
  obtain⟨hW,hpn,hdf,hlo,hls⟩:=hc
  split at hk
  ·rename_i e m f2 l ho
   split at hk
   ·rename_i e' hu
    split at hk
    ·rename_i e2 _
     subst e2
     split at hk
     ·rename_i hu'
      split at hk
      ·rename_i hi
       obtain⟨u,hck,hk⟩:=bind_some hk
       have c1:=cO hck
       have ho':=dJ (gO ho)
       have hpin:pinned h=false:=lr hpn
       have hdf':oE h s.er.df=true:=by
        show oE h (TV.er.go s.ln s.df)=true
        rw[yP,hdf];rfl
       have hx':ev s.er x=some (.aM h 1 0 (List.length l)):=by rw[bc hx];show some (G.aM _ _ _ (s.ln h))=_;rw[nS (gO ho)];rfl
       obtain⟨e1,_,_⟩:=zz (.arr e m f2 (.int .u8) (List.append l (aF b))) rfl hdf hlo hls
       refine .one _ (EF.LK hx' (zi hy) ho' rfl rfl rfl (by show(List.flatMap (aP S (.int .u8)) l).length=_;rw[jP];exact nI _) hu hu' hi c1 (hokW h hW) rfl hpin hdf') ?_ ((hl.renew h _ hlo hls).put _ _) ⟨rfl,rfl,rfl⟩ hk
       rw[hP,e1,Hs]
       have e3:List.flatMap (aP S (.int .u8)) (List.append l (aF b))=List.flatMap (aP S (.int .u8)) l++tm b:=by rw[←NH (S:=S) b];exact List.flatMap_append
       have e4:List.length (List.append l (aF b))=List.length l+b.size:=by rw[←bI b];exact al
       show Gh _ {fr:=(d,.aM h 1 0 (List.length (List.append l (aF b))))::lU h s.er.fr,st:=(h,⟨e,true,m,f2,1,List.flatMap (aP S (.int .u8)) (List.append l (aF b)),none⟩)::fp h s.er.st,df:=s.er.df}
       rw[e3,e4]
       exact Gh.refl _
      ·cases hk
     ·cases hk
    ·cases hk
   ·cases hk
  ·cases hk
 ·cases hk
def ag.rI (s:ag S) (hd t:Nat) (e:TypeId) (τ:Ty):ag S:={s.add hd (.arr e true true τ []) with fr:=(t,.aM hd τ)::s.fr,last:=E9 t s.last}
theorem Ah {hd t:Nat}{e:TypeId}{τ:Ty}(hl:aJ s) (hx:bd s.bN t=some (.val (.slice none 0 0))) (hf:s.free hd=true):Gh s.er (s.rI hd t e τ).er∧aJ (s.rI hd t e τ):=by
 obtain⟨e1,_⟩:=sf hf (.arr e true true τ ([]:List (S.D τ))) rfl
 have h1:=Gh.rI (s:=s.er) (t:=t) hd ⟨e,true,true,true,S.sz τ,[],none⟩ (fe hx) (iM hf) rfl rfl
 have e2:(s.rI hd t e τ).er=((s.add hd (.arr e true true τ [])).put t (.aM hd τ)).er:=rfl
 refine⟨?_,(hl.add (.arr e true true τ []) hf).put t (.aM hd τ)⟩
 rw[e2,hP,e1,Fs]
 exact h1
def NT (P:Program) (ok:Nat→Bool) (s:ag S) (d:Nat) (c:Call){A:Type}(k:ag S→Option A):Option A:=
 match c.args.toList,c.argTypes.toList with
 | [x,y],[t,t']=>match decEq t t' with
  | isTrue _=>match cq s x with
   | some (.aM h τ)=>match cq s y with
    | some vy=>JL P ok s d t h τ vy k
    | none=>none
   | some (.val (.slice none 0 0))=>match x with
    | .tmp tx=>match s.free (s.cZ d) with
     | true=>match P.underlying t with
      | some (.slice e)=>match S.N2 e with
       | some τ=>match cq (s.rI (s.cZ d) tx e τ) y with
        | some vy=>match cq (s.rI (s.cZ d) tx e τ) x with
         | some (.aM h τ2)=>JL P ok (s.rI (s.cZ d) tx e τ) d t h τ2 vy k
         | _=>none
        | none=>none
       | none=>none
      | _=>none
     | false=>none
    | _=>none
   | _=>none
  | isFalse _=>match cq s x with
   | some (.aM h (.int .u8))=>match cq s y with
    | some (.ae _ .str b)=>NS P ok s d t t' h b k
    | _=>none
   | _=>none
 | _,_=>none
theorem eU.gh {s t:ag S}{o:Oper}(hg:Gh s.er t.er) (hkp:bj s t) (h:eU P W t o k r):eU P W s o k r:=by
 obtain⟨T,h1,h2⟩:=h
 exact⟨T,bW.gh hg h1,fun s' ht=>let ⟨u,a1,a2,a3,a4⟩:=h2 s' ht;⟨u,a1,a2,hkp.trans a3,a4⟩⟩
theorem PN {ok:Nat→Bool}(hokW:∀h,ok h=true→W.contains h=true){d:Nat}{args:Array Operand}{ts:Array TypeId}(hl:aJ s) (h:NT P ok s d ⟨.builtin .append,args,ts⟩ k=some r):
  eU P W s ⟨some d,.call ⟨.builtin .append,args,ts⟩,ty,pos,after,guard⟩ k r:=by
 unfold NT at h
 dsimp only at h
 split at h
 ·rename_i h1 h2
  have h1:=yv h1
  have h2:=yv h2
  subst h1;subst h2
  split at h
  ·rename_i e _
   subst e
   split at h
   ·rename_i hx
    split at h
    ·rename_i hy
     exact H3 hokW hl hx hy h
    ·cases h
   ·rename_i hx
    split at h
    ·rename_i tx
     split at h
     ·rename_i hf
      split at h
      ·split at h
       ·split at h
        ·rename_i hy
         split at h
         ·rename_i hx'
          exact eU.gh (Ah hl hx hf).1 ⟨rfl,rfl,rfl⟩ (H3 hokW (Ah hl hx hf).2 hx' hy h)
         ·cases h
        ·cases h
       ·cases h
      ·cases h
     ·cases h
    ·cases h
   ·cases h
  ·split at h
   ·rename_i hx
    split at h
    ·rename_i hy
     exact PM hokW hl hx hy h
    ·cases h
   ·cases h
 ·cases h
theorem EF.Od {s:St}{d:Nat}{op:BinOp}{t t' e:TypeId}{x:Operand}{g:G}{n:Int}(hx:ev s x=some g) (hn:I7 g=some n) (ht:P.underlying t=some (.slice e)) (hop:op=.eql∨op=.neq):
  bW P W s ⟨some d,.binOp op t x (.const (.slice none 0 0)) t',ty,pos,after,guard⟩ (fun s'=>∃b:Bool,(b=true→n=0)∧s'=s.put d (.val (.bool (match op with | .eql=>b | _=>!b)))):=by
 refine⟨fun _ h=>(by cases h),?_⟩
 intro N cx μ a w hr hd K Q hK
 obtain⟨b,m,c,e1,e2,e3⟩:=aN.Mr (hr.ev hx) hn
 have hst:Step W s.st μ s.st μ w w:=⟨ar _,fun _ _ _=>rfl,fun h k' c m' b hw h1 h2 hi=>.inl ⟨h,k',c,m',hw,h1,h2,hi⟩⟩
 have hb:b.isNone=true→n=0:=fun h=>e3 (Option.isNone_iff_eq_none.1 h)
 unfold Oper.wp
 rcases hop with rfl | rfl
 ·have hrun:(execOp a.eval ⟨some d,.binOp .eql t x (.const (.slice none 0 0)) t',ty,pos,after,guard⟩).run P w=.ok (.value (.bool b.isNone)) w:=by
   have:=Kq (P:=P) ht x (.const (.slice none 0 0)) b m c w
   simp only[execOp,e1,show a.eval (.const (.slice none 0 0))=.slice none 0 0 from rfl,Sem.run_bind,this,Result.andThen_ok,Sem.run_pure]
  rw[hrun]
  exact hK μ _ _ w (hr.put (d:=d) (hd d rfl) (.aD (.val _))) ⟨b.isNone,hb,rfl⟩ hst
 ·have hrun:(execOp a.eval ⟨some d,.binOp .neq t x (.const (.slice none 0 0)) t',ty,pos,after,guard⟩).run P w=.ok (.value (.bool (!b.isNone))) w:=by
   have:=Kp (P:=P) ht x (.const (.slice none 0 0)) b m c w
   simp only[execOp,e1,show a.eval (.const (.slice none 0 0))=.slice none 0 0 from rfl,Sem.run_bind,this,Result.andThen_ok,Sem.run_pure]
  rw[hrun]
  exact hK μ _ _ w (hr.put (d:=d) (hd d rfl) (.aD (.val _))) ⟨b.isNone,hb,rfl⟩ hst
noncomputable def MI (P:Program) (s:ag S) (d:Nat) (op:BinOp) (t:TypeId) (x y:Operand){A:Type}(k:ag S→Option A):Option A:=
 match y with
 | .const (.slice none 0 0)=>match P.underlying t with
  | some (.slice _)=>match cq s x with
   | some v=>match I6 s v with
    | some n=>match op with
     | .eql=>IM n (k (s.put d (.ae true .bool true))) (k (s.put d (.ae true .bool false)))
     | .neq=>IM n (k (s.put d (.ae true .bool false))) (k (s.put d (.ae true .bool true)))
     | _=>none
    | none=>none
   | none=>none
  | _=>none
 | _=>none
theorem O2 {d:Nat}{op:BinOp}{t t':TypeId}{x y:Operand}(hl:aJ s) (h:MI P s d op t x y k=some r):eU P W s ⟨some d,.binOp op t x y t',ty,pos,after,guard⟩ k r:=by
 unfold MI at h
 split at h
 ·split at h
  ·rename_i hu
   split at h
   ·rename_i hx
    split at h
    ·rename_i hn
     have hb:∀b:Bool,(s.put d (.ae true .bool b)).er=s.er.put d (.val (.bool b)):=fun b=>by rw[hP];exact congrArg _ (gJ true b)
     split at h
     ·obtain⟨h1,h2⟩:=Df h
      refine⟨_,EF.Od (bc hx) (Cr hn) hu (.inl rfl),fun s' ⟨b,hb0,e⟩=>?_⟩
      subst e
      refine⟨s.put d (.ae true .bool b),by rw[hb];exact Gh.refl _,hl.put _ _,⟨rfl,rfl,rfl⟩,?_⟩
      cases b with
      | true=>exact h1 (hb0 rfl)
      | false=>exact h2
     ·obtain⟨h1,h2⟩:=Df h
      refine⟨_,EF.Od (bc hx) (Cr hn) hu (.inr rfl),fun s' ⟨b,hb0,e⟩=>?_⟩
      subst e
      refine⟨s.put d (.ae true .bool (!b)),by rw[hb];exact Gh.refl _,hl.put _ _,⟨rfl,rfl,rfl⟩,?_⟩
      cases b with
      | true=>exact h1 (hb0 rfl)
      | false=>exact h2
     ·cases h
    ·cases h
   ·cases h
  ·cases h
 ·cases h
end
end
end Go.DN
/-
 DN,part Kb:a state told in another way:less of it,aj as plain data,blocks that are written no more.
-/
namespace Go.DN
open Go.AM
def CV (st st':List (Nat×aq)) (g g':G):Prop:=∀(cx:Cx) (μ:Mu) (w:World) (v:Value),cd cx μ st w→(∀b,b<w.heap.size→¬cx.O st μ b→¬cx.O st' μ b)→
 aN (cx.O st μ) cx.base w μ g v→aN (cx.O st' μ) cx.base w μ g' v
theorem CV.rw {st st':List (Nat×aq)}{g g':G}(h:RW g g'):CV st st' g g':=fun cx μ w v _ hO hv=>h _ _ _ _ _ (hv.mono (Kept.refl _ _) hO (ar _))
theorem CV.refl (st st':List (Nat×aq)) (g:G):CV st st' g g:=CV.rw (RW.refl g)
theorem CV.any (st st':List (Nat×aq)) (g:G):CV st st' g .any:=fun _ _ _ v _ _ _=>.aD (.any v)
theorem CV.fz {st st':List (Nat×aq)}{g g':G}(hd:∀x k,ay st' x=some k→∃k0,ay st x=some k0) (h:hZ st st' g=some g'):CV st st' g g':=fun cx μ w v hst _ hv=>zT hst hd hv h
def LV (st st':List (Nat×aq)) (gs gs':List G):Prop:=gs'.length=gs.length∧∀(j:Nat) (g':G),gs'[j]?=some g'→∃g,gs[j]?=some g∧CV st st' g g'
theorem CV.agg {st st':List (Nat×aq)}{gs gs':List G}(h:LV st st' gs gs'):CV st st' (.agg gs) (.agg gs'):=fun cx μ w v hst hO hv=>by
 cases hv with
 | aD hv=>cases hv with
  | agg _ us h1 h2=>exact .agg _ us (h1.trans h.1.symm) fun j g' v hg' hv=>(by
    obtain⟨g,hg,hw⟩:=h.2 j g' hg'
    exact hw cx μ w _ hst hO (.aD (h2 j g v hg hv)))
 | agg _ us h1 h2=>exact .agg _ us (h1.trans h.1.symm) fun j g' v hg' hv=>(by
   obtain⟨g,hg,hw⟩:=h.2 j g' hg'
   exact hw cx μ w _ hst hO (h2 j g v hg hv))
theorem CV.aT {st st':List (Nat×aq)}{gs gs':List G}(h:LV st st' gs gs'):CV st st' (.aT gs) (.aT gs'):=fun cx μ w v hst hO hv=>by
 cases hv with
 | aD hv=>cases hv
 | aT _ us h1 h2=>exact .aT _ us (h1.trans h.1.symm) fun j g' v hg' hv=>(by
   obtain⟨g,hg,hw⟩:=h.2 j g' hg'
   exact hw cx μ w _ hst hO (h2 j g v hg hv))
theorem CV.aR {st st':List (Nat×aq)}{f:FuncId}{gs gs':List G}(h:LV st st' gs gs'):CV st st' (.aR f gs) (.aR f gs'):=fun cx μ w v hst hO hv=>by
 cases hv with
 | aD hv=>cases hv
 | aR _ _ us h1 h2=>exact .aR f _ us (h1.trans h.1.symm) fun j g' v hg' hv=>(by
   obtain⟨g,hg,hw⟩:=h.2 j g' hg'
   exact hw cx μ w _ hst hO (h2 j g v hg hv))
structure uR (st st':List (Nat×aq)) (k k':aq):Prop where
 bs:k'.bs=k.bs
 dC:k'.dC=true→k.dC=true
 sz:k'.sz=k.sz
 lp:k'.lp=k.lp
 pure:k'.pure=k.pure
 len:k'.cells.length=k.cells.length
 cells:(k.pure=true∧k'.cells=k.cells∧(k'.fresh=true→k.fresh=true∨(k.lp=none∧∀g,g∈k.cells→∃v,g=.val v)∨∃d,k.lp=some (.deep d)∧∀(O O':Nat→Prop) (w:World) (b:Nat) (m:Mm),d.φ O w b m→d.φ O' w b m))∨(k.pure=false∧∀(j:Nat) (g':G),k'.cells[j]?=some g'→∃g,k.cells[j]?=some g∧CV st st' g g')
theorem uR.refl (st st':List (Nat×aq)) (k:aq):uR st st' k k:=by
 refine⟨rfl,id,rfl,rfl,rfl,rfl,?_⟩
 cases h:k.pure with
 | true=>exact .inl ⟨rfl,rfl,.inl⟩
 | false=>exact .inr ⟨rfl,fun j g hg=>⟨g,hg,CV.refl _ _ g⟩⟩
theorem Gh.gen {s t:St}(hfr:∀d g',get t.fr d=some g'→∃g,get s.fr d=some g∧CV s.st t.st g g') (hst:∀x k',ay t.st x=some k'→∃k,ay s.st x=some k∧uR s.st t.st k k') (hdf:s.df=t.df):Gh s t:=by
 have hdom:∀x k,ay t.st x=some k→∃k0,ay s.st x=some k0:=fun x k hk=>let ⟨k0,h1,_⟩:=hst x k hk;⟨k0,h1⟩
 refine Gh.of (fun N cx μ a w h=>?_) hdom
 have hO:∀b,b<w.heap.size→¬cx.O s.st μ b→¬cx.O t.st μ b:=fun b _ hn ho=>hn (ho.imp id fun ⟨x,k,c,m,h1,h2,hi⟩=>let ⟨k0,h3⟩:=hdom x k h1;⟨x,k0,c,m,h3,h2,hi⟩)
 have hE:∀{g g':G}{v:Value},CV s.st t.st g g'→aN (cx.O s.st μ) cx.base w μ g v→aN (cx.O t.st μ) cx.base w μ g' v:=by
  intro g g' v hz hv
  exact hz cx μ w v h.st hO hv
 refine {st:={ey:=?_,dA:=?_,cv:=?_,fK:=?_,fo:=h.st.fo,hb:=h.st.hb,os:=h.st.os,tape:=h.st.tape,output:=h.st.output,gl:=h.st.gl,ec:=h.st.ec},nd:=hdf▸h.nd.mono (Kept.refl _ _) hO,sz:=h.sz,fr:=fun d g' hg'=>?_}
 ·intro x k' hk'
  obtain⟨k,hk,c⟩:=hst x k' hk'
  have hb:=h.st.ey x k hk
  cases hm:μ x with
  | none=>
   rw[hm] at hb
   exact hb.xG (by rw[hb.1];exact aX (by rw[c.len,hb.1];rfl)) c.lp c.pure
  | some bm=>
   obtain⟨b,m⟩:=bm
   rw[hm] at hb
   cases hlp:k.lp with
   | none=>
    obtain⟨cs,h1,h2,h3,h4,h5,h6⟩:=hb.cells hlp
    refine .mk (c.lp.trans hlp) (hb.mn hlp) ⟨cs,by rw[c.bs];exact h1,h2,by rw[c.len];exact h3,fun hmn=>h4 (c.dC hmn),by rw[c.sz];exact h5,fun j g' hg'=>?_⟩
    rcases c.cells with ⟨hp,e,hf⟩ | ⟨hp,e⟩
    ·rw[e] at hg'
     obtain⟨v,hv,hr⟩:=h6 j g' hg'
     refine⟨v,hv,?_⟩
     have:=hr.mono (Kept.refl _ _) hO
     unfold cF at this⊢
     rw[c.pure]
     rw[hp] at this⊢
     by_cases hk2:k'.fresh=true→k.fresh=true
     ·exact this.flag hk2
     ·rcases Classical.em (k'.fresh=true) with hq | hq
      ·rcases hf hq with hf | ⟨_,hf⟩ | ⟨d,hd,_⟩
       ·exact this.flag fun _=>hf
       rotate_left
       ·rw[hlp] at hd;cases hd
       ·obtain⟨u,rfl⟩:=hf g' (aQ hg')
        revert this
        show bp _ w (.val u) v→bp _ w (.val u) v
        intro this
        cases this
        exact .val _
      ·exact absurd (fun h=>absurd h hq) hk2
    ·obtain⟨g,hg,hz⟩:=e j g' hg'
     obtain⟨v,hv,hr⟩:=h6 j g hg
     refine⟨v,hv,?_⟩
     unfold cF at hr⊢
     rw[c.pure]
     simp only[hp] at hr⊢
     exact hE hz hr
   | some kd=>
    cases kd with
    | loop lp=>
     obtain⟨D,vs,h1,h2,h3,h4,h5⟩:=(aS.loop hlp).1 hb
     refine(aS.loop (c.lp.trans hlp)).2 ⟨D,vs,h1,h2,(by cases hq:k'.dC with | false=>rfl | true=>rw[c.dC hq] at h3;cases h3),c.pure.trans h4,fun j t g' ht hg'=>?_⟩
     rcases c.cells with ⟨hp,_⟩ | ⟨_,e⟩
     ·rw[h4] at hp;cases hp
     ·obtain⟨g,hg,hz⟩:=e j g' hg'
      obtain⟨v,hv,hr⟩:=h5 j t g ht hg
      exact⟨v,hv,hE hz hr⟩
    | deep d=>
     obtain⟨h1,h2,h3,h4⟩:=((aS.deep hlp).1 hb).mono (fun _ _=>rfl) (Kept.refl _ _) hO
     refine(aS.deep (c.lp.trans hlp)).2 ⟨?_,c.pure.trans h2,aX (by rw[c.len,h3];rfl),fun hmn=>h4 (c.dC hmn)⟩
     rcases c.cells with ⟨_,_,hf⟩ | ⟨hp,_⟩
     ·cases hkf:k.fresh with
      | true=>
       rw[hkf] at h1
       cases k'.fresh with
       | true=>exact h1
       | false=>exact d.mono h1 (Kept.refl _ _) (fun x _ hn ho=>hn (.inr ho)) (fun _ _=>rfl)
      | false=>
       rw[hkf] at h1
       cases hq:k'.fresh with
       | false=>exact h1
       | true=>
        rcases hf hq with hf | ⟨hf,_⟩ | ⟨d',hd,hany⟩
        ·rw[hkf] at hf;cases hf
        ·rw[hlp] at hf;cases hf
        ·rw[hlp] at hd;cases hd;exact hany _ _ _ _ _ h1
     ·rw[h2] at hp;cases hp
 ·intro x x' k1 k2 y b m b' m' h1 h2
  obtain⟨k1',h1'⟩:=hdom x k1 h1
  obtain⟨k2',h2'⟩:=hdom x' k2 h2
  exact h.st.dA x x' k1' k2' y b m b' m' h1' h2'
 ·intro x k1 b m y h1 h2 hi
  obtain⟨k,hk,c⟩:=hst x k1 h1
  obtain⟨a1,a2,a3,a4⟩:=h.st.cv x k b m y hk h2 hi
  exact⟨a1,a2,a3,fun hm=>a4 (c.dC hm)⟩
 ·intro x k1 h1 h2
  obtain⟨k1',h1'⟩:=hdom x k1 h1
  exact h.st.fK x k1' h1' h2
 ·obtain⟨g,hg,hz⟩:=hfr d g' hg'
  obtain⟨v,hv,hr⟩:=h.fr d g hg
  exact⟨v,hv,hE hz hr⟩
section
variable {S:dr}
inductive Fz (S:dr) where
 | sl (f:Bool) (τ:Ty) (l:List (S.D τ))
 | bx (f:Bool) (n:Nat) (a:S.α n)
def Fz.aM:Fz S→Ty→TV S
 | .sl f τ l,τ'=>match decEq τ' τ with
  | isTrue _=>.ae f (.list τ) l
  | isFalse _=>.any
 | .bx _ _ _,_=>.any
def Fz.loc:Fz S→Nat→TV S
 | .bx f n a,o=>match Nat.beq o 0 with
  | true=>.ae f (.pt n) (some a:Option (S.α n))
  | false=>.any
 | .sl _ _ _,_=>.any
def TV.fz (h:Nat) (z:Fz S):TV S→TV S
 | .aM h' τ'=>match Nat.beq h' h with
  | true=>z.aM τ'
  | false=>.aM h' τ'
 | .agg vs=>.agg (go h z vs)
 | .aT vs=>.aT (go h z vs)
 | .aR g vs=>.aR g (go h z vs)
 | .sub h' τ' o n=>match Nat.beq h' h with
  | true=>.any
  | false=>.sub h' τ' o n
 | .ia h' τ' i j=>match Nat.beq h' h with
  | true=>.any
  | false=>.ia h' τ' i j
 | .loc h' o=>match Nat.beq h' h with
  | true=>z.loc o
  | false=>.loc h' o
 | .cT h'=>match Nat.beq h' h with
  | true=>.any
  | false=>.cT h'
 | .mp h'=>match Nat.beq h' h with
  | true=>.any
  | false=>.mp h'
 | v=>v
where go (h:Nat) (z:Fz S):List (TV S)→List (TV S)
 | []=>[]
 | v::r=>v.fz h z::go h z r
def Bb (h:Nat) (z:Fz S):List (Nat×TV S)→List (Nat×TV S)
 | []=>[]
 | (t,v)::r=>(t,v.fz h z)::Bb h z r
def TO.fz (h:Nat) (z:Fz S):TO S→TO S
 | .box e m cs=>.box e m (TV.fz.go h z cs)
 | .lp p n cs=>.lp p n (TV.fz.go h z cs)
 | o=>o
def tF (h:Nat) (z:Fz S):List (Nat×TO S)→List (Nat×TO S)
 | []=>[]
 | (t,o)::r=>match Nat.beq t h with
  | true=>tF h z r
  | false=>(t,o.fz h z)::tF h z r
def yM (s:ag S) (h:Nat):Option (ag S):=
 match aA s.st h with
 | some (.arr e true f τ l)=>match !(fT h s.lo)&&(!(cW h s.bF)&&(!(TV.has.go h s.df)&&(match aA s.bF h with | none=>true | some _=>false))) with
  | true=>some {s with fr:=Bb h (.sl f τ l) s.fr,st:=tF h (.sl f τ l) s.st,last:=vb h s.last}
  | false=>none
 | some (.box bs true cs)=>match S.ty bs with
  | some n=>match zq (S.cg n) cs with
   | some (f,ls)=>match S.put n ls with
    | some a=>match !(fT h s.lo)&&(!(cW h s.bF)&&(!(TV.has.go h s.df)&&(match aA s.bF h with | none=>true | some _=>false))) with
     | true=>some {s with fr:=Bb h (.bx f n a) s.fr,st:=tF h (.bx f n a) s.st,last:=vb h s.last}
     | false=>none
    | none=>none
   | none=>none
  | none=>none
 | _=>none
theorem zJ {h:Nat}{z:Fz S}:∀{st:List (Nat×TO S)}{x:Nat}{o:TO S},aA (tF h z st) x=some o→x≠h∧∃o0,aA st x=some o0∧o=o0.fz h z
 | [],_,_,e=>by cases e
 | (t,o0)::r,x,o,e=>by
  simp only[tF] at e
  cases hb:Nat.beq t h with
  | true=>
   rw[hb] at e
   obtain⟨h1,o1,h2,h3⟩:=zJ e
   refine⟨h1,o1,?_,h3⟩
   have:=ab hb
   subst this
   rw[jW _ _ h1];exact h2
  | false=>
   rw[hb] at e
   simp only[aA] at e⊢
   cases hx:Nat.beq t x with
   | true=>
    rw[hx] at e
    cases e
    refine⟨?_,o0,rfl,rfl⟩
    intro e
    subst e
    have:=ab hx
    subst this
    rw[aK] at hb;cases hb
   | false=>rw[hx] at e;exact zJ e
theorem D4 {h:Nat}{z:Fz S}:∀(st:List (Nat×TO S)),aA (tF h z st) h=none:=by
 intro st
 cases e:aA (tF h z st) h with
 | none=>rfl
 | some o=>exact absurd rfl (zJ e).1
theorem Qz (h:Nat) (z:Fz S) (o:TO S):(o.fz h z).len=o.len:=by cases o <;> rfl
theorem uX {h:Nat}{z:Fz S}{x:Nat}(hx:x≠h):∀{st:List (Nat×TO S)},aA (tF h z st) x=(aA st x).map (TO.fz h z)
 | []=>rfl
 | (t,o0)::r=>by
  simp only[tF,aA]
  cases hb:Nat.beq t h with
  | true=>
   have:=ab hb
   subst this
   have:Nat.beq t x=false:=by
    cases h2:Nat.beq t x with
    | true=>exact absurd (ab h2).symm hx
    | false=>rfl
   rw[this]
   exact uX hx
  | false=>
   simp only[aA]
   cases Nat.beq t x with
   | true=>rfl
   | false=>exact uX hx
theorem EO {h:Nat}{z:Fz S}:∀{fr:List (Nat×TV S)}{t:Nat},bd (Bb h z fr) t=(bd fr t).map (TV.fz h z)
 | [],_=>rfl
 | (t',v)::r,t=>by
  simp only[Bb,bd]
  cases Nat.beq t' t with
  | true=>rfl
  | false=>exact EO
theorem pg {fr fr':List (Nat×TV S)}{t:Nat}:bd (fr++fr') t=match bd fr t with | some v=>some v | none=>bd fr' t:=by
 induction fr with
 | nil=>rfl
 | cons x r ih=>
  obtain⟨k,g⟩:=x
  simp only[ca,bd]
  cases Nat.beq k t with
  | true=>rfl
  | false=>exact ih
theorem eo {st st':List (Nat×TO S)}{t:Nat}:aA (st++st') t=match aA st t with | some v=>some v | none=>aA st' t:=by
 induction st with
 | nil=>rfl
 | cons x r ih=>
  obtain⟨k,g⟩:=x
  simp only[ca,aA]
  cases Nat.beq k t with
  | true=>rfl
  | false=>exact ih
mutual
theorem Jk {h:Nat}{z:Fz S}:∀v:TV S,v.has h=false→v.fz h z=v
 | .ae _ _ _,_=>rfl
 | .ptr _ _ _,_=>rfl
 | .agg vs,e=>congrArg TV.agg (vu vs e)
 | .aT vs,e=>congrArg TV.aT (vu vs e)
 | .aR g vs,e=>congrArg (TV.aR g) (vu vs e)
 | .loc h' o,e=>by simp only[TV.has] at e;simp only[TV.fz,e]
 | .ia h' _ _ _,e=>by simp only[TV.has] at e;simp only[TV.fz,e]
 | .aM h' _,e=>by simp only[TV.has] at e;simp only[TV.fz,e]
 | .sub h' _ _ _,e=>by simp only[TV.has] at e;simp only[TV.fz,e]
 | .cT h',e=>by simp only[TV.has] at e;simp only[TV.fz,e]
 | .mp h',e=>by simp only[TV.has] at e;simp only[TV.fz,e]
 | .ks _ _ _ _,_=>rfl
 | .kp _ _ _ _,_=>rfl
 | .gH _ _ _ _ _,_=>rfl
 | .bP _ _ _,_=>rfl
 | .val _,_=>rfl
 | .any,_=>rfl
theorem vu {h:Nat}{z:Fz S}:∀vs:List (TV S),TV.has.go h vs=false→TV.fz.go h z vs=vs
 | [],_=>rfl
 | v::r,e=>by
  simp only[TV.has.go,bO] at e
  simp only[TV.fz.go,Jk v e.1,vu r e.2]
end
structure CW (st st':List (Nat×aq)) (ln ln':Nat→Nat) (h:Nat) (z:Fz S):Prop where
 get:match z with
  | .sl f τ l=>ln h=l.length∧∃bs,ay st h=some ⟨bs,true,true,f,S.sz τ,List.flatMap (aP S τ) l,none⟩
  | .bx f n a=>∃bs sz,ay st h=some ⟨bs,true,true,f,sz,aP S (.st n) a,none⟩
 gone:ay st' h=none
 QH:∀x k,ay st' x=some k→∃k0,ay st x=some k0
 agree:j7 ln ln' h
theorem Qx {st st':List (Nat×aq)}{ln ln':Nat→Nat}{h:Nat}{f:Bool}{τ:Ty}{l:List (S.D τ)}(H:CW (S:=S) st st' ln ln' h (.sl f τ l)):hZ st st' (.aM h (S.sz τ) 0 (ln h))=some ((TV.ae f (.list τ) l:TV S).er ln'):=by
 obtain⟨h1,bs,h2⟩:=H.get
 rw[td]
 simp only[hZ,H.gone,h2,h1,iC]
 rw[dz (by rw[jP];exact ar _)]
 cases f <;> rfl
theorem Qy {st st':List (Nat×aq)}{ln ln':Nat→Nat}{h:Nat}{f:Bool}{n:Nat}{a:S.α n}(H:CW (S:=S) st st' ln ln' h (.bx f n a)):hZ st st' (.loc h 0)=some ((TV.ae f (.pt n) (some a:Option (S.α n)):TV S).er ln'):=by
 obtain⟨bs,sz,h2⟩:=H.get
 simp only[hZ,H.gone,h2,Jd,cond_true,iC]
 cases f <;> rfl
mutual
theorem Om {st st':List (Nat×aq)}{ln ln':Nat→Nat}{h:Nat}{z:Fz S}(H:CW (S:=S) st st' ln ln' h z):∀v:TV S,CV st st' (v.er ln) ((v.fz h z).er ln')
 | .ae _ _ _=>CV.refl _ _ _
 | .ptr _ _ _=>CV.refl _ _ _
 | .agg vs=>CV.agg (rV H vs)
 | .aT vs=>CV.aT (rV H vs)
 | .aR g vs=>CV.aR (rV H vs)
 | .loc h' o=>by
  simp only[TV.fz]
  cases hb:Nat.beq h' h with
  | true=>
   have:=ab hb
   subst this
   cases z with
   | sl f τ l=>exact CV.any _ _ _
   | bx f n a=>
    dsimp only[Fz.loc]
    cases ho:Nat.beq o 0 with
    | true=>
     have:=ab ho
     subst this
     exact CV.fz H.QH (Qy H)
    | false=>exact CV.any _ _ _
  | false=>exact CV.refl _ _ _
 | .ia h' _ _ _=>by
  simp only[TV.fz]
  cases Nat.beq h' h with
  | true=>exact CV.any _ _ _
  | false=>exact CV.refl _ _ _
 | .aM h' τ'=>by
  simp only[TV.fz]
  cases hb:Nat.beq h' h with
  | true=>
   have:=ab hb
   subst this
   cases z with
   | bx f n a=>exact CV.any _ _ _
   | sl f τ l=>
    dsimp only[Fz.aM]
    split
    ·rename_i e _
     subst e
     exact CV.fz H.QH (Qx H)
    ·exact CV.any _ _ _
  | false=>
   show CV st st' (.aM h' _ 0 (ln h')) (.aM h' _ 0 (ln' h'))
   rw[H.agree h' fun e=>by subst e;rw[aK] at hb;cases hb]
   exact CV.refl _ _ _
 | .sub h' _ _ _=>by
  simp only[TV.fz]
  cases Nat.beq h' h with
  | true=>exact CV.any _ _ _
  | false=>exact CV.refl _ _ _
 | .cT h'=>by
  simp only[TV.fz]
  cases Nat.beq h' h with
  | true=>exact CV.any _ _ _
  | false=>exact CV.refl _ _ _
 | .mp h'=>by
  simp only[TV.fz]
  cases Nat.beq h' h with
  | true=>exact CV.any _ _ _
  | false=>exact CV.refl _ _ _
 | .ks _ _ _ _=>CV.refl _ _ _
 | .kp _ _ _ _=>CV.refl _ _ _
 | .gH _ _ _ _ _=>CV.refl _ _ _
 | .bP _ _ _=>CV.refl _ _ _
 | .val _=>CV.refl _ _ _
 | .any=>CV.refl _ _ _
theorem rV {st st':List (Nat×aq)}{ln ln':Nat→Nat}{h:Nat}{z:Fz S}(H:CW (S:=S) st st' ln ln' h z):∀vs:List (TV S),LV st st' (TV.er.go ln vs) (TV.er.go ln' (TV.fz.go h z vs))
 | []=>⟨rfl,fun j g' hg'=>by simp[TV.fz.go,TV.er.go] at hg'⟩
 | v::r=>by
  obtain⟨h1,h2⟩:=rV H r
  refine⟨by simp only[TV.fz.go,TV.er.go,bl,h1],fun j g' hg'=>?_⟩
  simp only[TV.fz.go,TV.er.go] at hg'⊢
  cases j with
  | zero=>cases hg';exact⟨_,rfl,Om H v⟩
  | succ j=>exact h2 j g' hg'
end
theorem QC {st st':List (Nat×aq)}{ln ln':Nat→Nat}{h:Nat}{z:Fz S}(H:CW (S:=S) st st' ln ln' h z) (o:TO S):uR st st' (o.er ln) ((o.fz h z).er ln'):=by
 cases o with
 | box e m cs=>exact⟨rfl,id,rfl,rfl,rfl,(rV H cs).1,.inr ⟨rfl,(rV H cs).2⟩⟩
 | arr e m f τ l=>exact uR.refl _ _ _
 | lp p n cs=>exact⟨rfl,id,rfl,rfl,rfl,(rV H cs).1,.inr ⟨rfl,(rV H cs).2⟩⟩
 | deep=>exact uR.refl _ _ _
theorem uj {k:Nat}:∀{st:List (Nat×TO S)}{x:Nat}{o:TO S},aA st x=some o→cW k st=false→o.has k=false
 | [],_,_,h,_=>by cases h
 | (t,o')::r,x,o,h,hf=>by
  simp only[cW,bO] at hf
  simp only[aA] at h
  cases hb:Nat.beq t x with
  | true=>rw[hb] at h;cases h;exact hf.1
  | false=>rw[hb] at h;exact uj h hf.2
theorem QA {h:Nat}{z:Fz S}{o:TO S}(e:o.has h=false):o.fz h z=o:=by
 cases o with
 | box e' m cs=>simp only[TO.fz];rw[vu cs e]
 | arr e m f τ l=>rfl
 | lp p n cs=>simp only[TO.fz];rw[vu cs e]
 | deep=>rfl
theorem zS {ln:Nat→Nat}:∀{fr:List (Nat×TV S)}{t:Nat}{g:G},AM.get (jq ln fr) t=some g→∃v,bd fr t=some v∧g=v.er ln
 | [],_,_,h=>by cases h
 | (k,v)::r,t,g,h=>by
  simp only[jq,AM.get] at h
  simp only[bd]
  cases hk:Nat.beq k t with
  | true=>rw[hk] at h;cases h;exact⟨v,rfl,rfl⟩
  | false=>rw[hk] at h;exact zS h
theorem ul {ln:Nat→Nat}:∀{st:List (Nat×TO S)}{t:Nat}{k:aq},ay (bA ln st) t=some k→∃o,aA st t=some o∧k=o.er ln
 | [],_,_,h=>by cases h
 | (x,o)::r,t,k,h=>by
  simp only[bA,ay] at h
  simp only[aA]
  cases hk:Nat.beq x t with
  | true=>rw[hk] at h;cases h;exact⟨o,rfl,rfl⟩
  | false=>rw[hk] at h;exact ul h
theorem Gh.typed {s t:ag S}(hfr:∀d v',bd t.bN d=some v'→∃v,bd s.bN d=some v∧CV s.er.st t.er.st (v.er s.ln) (v'.er t.ln)) (hst:∀x o',aA t.a7 x=some o'→∃o,aA s.a7 x=some o∧uR s.er.st t.er.st (o.er s.ln) (o'.er t.ln))
  (hdf:TV.er.go s.ln s.df=TV.er.go t.ln t.df):Gh s.er t.er:=by
 refine Gh.gen (fun d g' hg'=>?_) (fun x k' hk'=>?_) hdf
 ·obtain⟨v',h1,rfl⟩:=zS hg'
  obtain⟨v,h2,h3⟩:=hfr d v' h1
  exact⟨_,fe h2,h3⟩
 ·obtain⟨o',h1,rfl⟩:=ul hk'
  obtain⟨o,h2,h3⟩:=hst x o' h1
  exact⟨_,jA h2,h3⟩
theorem Ol {s:ag S}{s1:St}{h:Nat}{z:Fz S}(hl:aJ s) (c1:fT h s.lo=false) (c2:cW h s.bF=false) (c3:TV.has.go h s.df=false) (hlst:aA s.bF h=none)
  (e1:s1.fr=s.er.fr) (e2:∀x,x≠h→ay s1.st x=ay s.er.st x) (e3:s1.df=s.er.df)
  (ke:match z with
   | .sl f τ l=>s.ln h=l.length∧∃bs,ay s1.st h=some ⟨bs,true,true,f,S.sz τ,List.flatMap (aP S τ) l,none⟩
   | .bx f n a=>∃bs sz,ay s1.st h=some ⟨bs,true,true,f,sz,aP S (.st n) a,none⟩):
  Gh s1 ({s with fr:=Bb h z s.fr,st:=tF h z s.st,last:=vb h s.last}:ag S).er∧aJ ({s with fr:=Bb h z s.fr,st:=tF h z s.st,last:=vb h s.last}:ag S):=by
 generalize ht:({s with fr:=Bb h z s.fr,st:=tF h z s.st,last:=vb h s.last}:ag S)=t
 have hgone:aA t.a7 h=none:=by
  subst ht
  show aA (tF h z s.st++s.bF) h=none
  rw[eo,D4];exact hlst
 have hother:∀{x:Nat},x≠h→∃g:TO S→TO S,(∀o,(g o).len=o.len)∧aA t.a7 x=(aA s.a7 x).map g∧∀o,aA s.a7 x=some o→g o=o.fz h z:=by
  intro x hx
  subst ht
  show ∃g:TO S→TO S,_∧aA (tF h z s.st++s.bF) x=(aA (s.st++s.bF) x).map g∧_
  refine⟨TO.fz h z,Qz h z,?_,fun o _=>rfl⟩
  rw[eo,eo,uX hx]
  cases h1:aA s.st x with
  | some o=>rfl
  | none=>
   show aA s.bF x=(aA s.bF x).map _
   cases h2:aA s.bF x with
   | none=>rfl
   | some o=>rw[bY,QA (uj h2 c2)]
 have hag:j7 s.ln t.ln h:=by
  intro x hx
  show bG s.a7 x=bG t.a7 x
  obtain⟨g,g1,g2,_⟩:=hother hx
  unfold bG
  rw[g2]
  cases aA s.a7 x with
  | none=>rfl
  | some o=>exact(g1 o).symm
 have H:CW (S:=S) s1.st t.er.st s.ln t.ln h z:={
  get:=ke
  gone:=tu hgone
  QH:=fun x k hk=>by
   obtain⟨o',h1,_⟩:=ul hk
   have hx:x≠h:=fun e=>by subst e;rw[hgone] at h1;cases h1
   obtain⟨g,_,g2,_⟩:=hother hx
   rw[g2] at h1
   obtain⟨o,h2,_⟩:=au.1 h1
   exact⟨_,by rw[e2 x hx];exact jA h2⟩
  agree:=hag}
 have hfrA:∀d,bd t.bN d=(bd s.bN d).map (TV.fz h z):=by
  intro d
  subst ht
  show bd (Bb h z s.fr++s.lo) d=(bd (s.fr++s.lo) d).map _
  rw[pg,pg,EO]
  cases bd s.fr d with
  | some v=>rfl
  | none=>
   show bd s.lo d=(bd s.lo d).map _
   cases h2:bd s.lo d with
   | none=>rfl
   | some v=>rw[bY,Jk v (uF h2 c1)]
 refine⟨Gh.gen (fun d g' hg'=>?_) (fun x k' hk'=>?_) ?_,?_⟩
 ·obtain⟨v',hv',rfl⟩:=zS hg'
  rw[hfrA] at hv'
  obtain⟨v,h1,rfl⟩:=au.1 hv'
  exact⟨_,by rw[e1];exact fe h1,Om H v⟩
 ·obtain⟨o',ho',rfl⟩:=ul hk'
  have hx:x≠h:=fun e=>by subst e;rw[hgone] at ho';cases ho'
  obtain⟨g,_,g2,g3⟩:=hother hx
  rw[g2] at ho'
  obtain⟨o,h1,h2⟩:=au.1 ho'
  refine⟨_,by rw[e2 x hx];exact jA h1,?_⟩
  rw[←h2,g3 o h1]
  exact QC H o
 ·rw[e3]
  have:t.df=s.df:=by subst ht;rfl
  show TV.er.go s.ln s.df=TV.er.go t.ln t.df
  rw[this]
  exact pp hag s.df c3
 ·intro d hh x hm
  have hm:(d,hh,x)∈vb h s.last:=by subst ht;exact hm
  obtain⟨h1,h2⟩:=sW hm
  obtain⟨i,bs,m,f',τ',l',a,e1,e2,e3⟩:=hl d hh x h1
  refine⟨i,bs,m,f',τ',l',a,?_,?_,e3⟩
  ·rw[hfrA,e1]
   show some ((TV.ia hh τ' i 0:TV S).fz h z)=_
   rw[Jk _ (by
    simp only[TV.has]
    cases hb:Nat.beq hh h with
    | false=>rfl
    | true=>exact absurd (ab hb) h2)]
  ·obtain⟨g,_,g2,g3⟩:=hother h2
   rw[g2,e2,bY,g3 _ e2];rfl
theorem Bg {s t:ag S}{h:Nat}(hl:aJ s) (hf:yM s h=some t):Gh s.er t.er∧aJ t∧bj s t:=by
 have lst0:∀{o:Option (TO S)},(match o with | none=>true | some _=>false)=true→o=none:=by
  intro o h
  cases o with
  | none=>rfl
  | some _=>cases h
 unfold yM at hf
 split at hf
 ·rename_i e f τ l ho
  split at hf
  ·rename_i hc
   simp only[ah,aZ] at hc
   obtain⟨c1,c2,c3,c4⟩:=hc
   cases hf
   obtain⟨a1,a2⟩:=Ol (s1:=s.er) (z:=.sl f τ l) hl c1 c2 c3 (lst0 c4) rfl (fun _ _=>rfl) rfl ⟨nS (gO ho),e,dJ (gO ho)⟩
   exact⟨a1,a2,⟨rfl,rfl,rfl⟩⟩
  ·cases hf
 ·rename_i e cs ho
  split at hf
  ·rename_i n hn
   split at hf
   ·rename_i f ls hls
    split at hf
    ·rename_i a ha
     split at hf
     ·rename_i hc
      simp only[ah,aZ] at hc
      obtain⟨c1,c2,c3,c4⟩:=hc
      cases hf
      have hk:=jA (ln:=s.ln) (gO ho)
      have hrw:uQ (TV.er.go s.ln cs) f (aP S (.st n) a):=by
       obtain⟨i1,i2⟩:=yw s.ln hls
       rw[fZ,S.hU n ls a ha,cS]
       refine⟨by simp[i1],fun j m hm=>?_⟩
       rw[ak] at hm
       obtain⟨x,hx,rfl⟩:=au.1 hm
       obtain⟨v,h4,h5⟩:=i2 j x hx
       exact⟨v.er s.ln,by rw[ak,h4];rfl,h5⟩
      have g0:=Gh.pure (s:=s.er) hk rfl rfl (rW (S:=S) (.st n) a) hrw
      obtain⟨a1,a2⟩:=Ol (s1:=_) (z:=.bx f n a) hl c1 c2 c3 (lst0 c4) (show({fr:=s.er.fr,st:=eb s.er.st h {(TO.box e true cs:TO S).er s.ln with pure:=true,fresh:=f,cells:=aP S (.st n) a},df:=s.er.df}:St).fr=s.er.fr from rfl) (fun x hx=>nB hx) rfl ⟨e,0,(qW hk).trans rfl⟩
      exact⟨g0.trans a1,a2,⟨rfl,rfl,rfl⟩⟩
     ·cases hf
    ·cases hf
   ·cases hf
  ·cases hf
 ·cases hf
end
end Go.DN
