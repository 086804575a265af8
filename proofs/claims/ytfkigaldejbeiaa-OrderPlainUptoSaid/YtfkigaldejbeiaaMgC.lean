/-
  DN, first half: a rB interpreter dm AM.
-/
import Derived.Test.YtfkigaldejbeiaaMgI
import Derived.Test.YtfkigaldejbeiaaMgF
set_option linter.unusedSectionVars false
set_option linter.unusedSimpArgs false
set_option linter.unusedVariables false
/-
 DN,part A:kinds of plain data,their encodings;rB values and states,and what they say of a state.
-/
namespace Go.DN
open Go.AM
structure bS where
 a:Int
 b:Int
 t:Nat
 f:List (Nat×List Int)
structure bH where
 n:Nat
 es:List bS
 pd:Option (Option (Nat×Nat)×Nat×List Int)
inductive Ty where
 | int (k:IntKind)
 | bool
 | str
 | list (t:Ty)
 | st (n:Nat)
 | map
 deriving DecidableEq
@[reducible] def Ty.den (α:Nat→Type):Ty→Type
 | .int _=>Int
 | .bool=>Bool
 | .str=>ByteArray
 | .list t=>List (t.den α)
 | .st n=>α n
 | .map=>bH
def Ty.fP:Ty→Bool
 | .st _=>true
 | _=>false
def Ty.fZ:Ty→Bool
 | .int _=>true
 | .bool=>true
 | .str=>true
 | _=>false
structure br (α:Nat→Type) where
 τ:Ty
 a:τ.den α
def iw {α:Nat→Type}(τ' τ:Ty) (a:τ'.den α):Option (τ.den α):=if h:τ'=τ then some (h▸a) else none
theorem ec {α:Nat→Type}{τ' τ:Ty}{a:τ'.den α}{b:τ.den α}(h:iw τ' τ a=some b):(⟨τ',a⟩:br α)=⟨τ,b⟩:=by
 unfold iw at h
 split at h
 ·rename_i e;subst e;cases h;rfl
 ·cases h
def BT {α:Nat→Type}(se:(n:Nat)→α n→List G):(τ:Ty)→τ.den α→List G
 | .int k,a=>[.val (.int k a)]
 | .bool,a=>[.val (.bool a)]
 | .str,a=>[.val (.string a)]
 | .list t,l=>[.sl (List.length l) (List.flatMap (BT se t) l)]
 | .st n,a=>se n a
 | .map,_=>[.val (.bool true)]
structure PR where
 N:Nat
 aA:List Nat
 ps:Array Tmp
 ly:Code
 body:Code
 id:Nat
structure eE where
 dK:Bool:=false
 S3:TypeId→Option TypeId:=fun _=>none
 eV:Nat→PR:=fun _=>⟨0,[],#[],.skip,.skip,0⟩
 α:Nat→Type
 dl:Nat→List Ty
 cells:(n:Nat)→α n→List (br α)
 put:(n:Nat)→List (br α)→Option (α n)
 enc:(n:Nat)→α n→List G
 ty:TypeId→Option Nat
 Px:TypeId→Option Ty
 mS:∀n a,(cells n a).map br.τ=dl n
 one:∀n t,t∈dl n→t.fP=false
 pos:∀n,dl n≠[]
 kI:∀n l a,put n l=some a→cells n a=l
 ve:∀n a,enc n a=(cells n a).flatMap (fun x=>BT enc x.τ x.a)
section
variable (S:eE)
abbrev eE.D (τ:Ty):Type:=τ.den S.α
abbrev eE.L:Type:=br S.α
abbrev aN (τ:Ty) (a:S.D τ):List G:=BT S.enc τ a
def eE.sz (τ:Ty):Nat:=match τ with | .st n=>(S.dl n).length | _=>1
theorem BU {τ:Ty}(h:τ.fP=false) (a:S.D τ):∃g,aN S τ a=[g]∧g.one=true:=by
 cases τ with
 | st n=>cases h
 | _=>exact⟨_,rfl,rfl⟩
theorem nm:∀(l:List S.L),(∀t∈l.map br.τ,t.fP=false)→(l.flatMap (fun x=>BT S.enc x.τ x.a)).length=l.length∧∀g∈l.flatMap (fun x=>BT S.enc x.τ x.a),g.one=true
 | [],_=>⟨rfl,fun g h=>by cases h⟩
 | x::r,h=>by
  obtain⟨i1,i2⟩:=nm r fun t ht=>h t (ao _ ht)
  obtain⟨g,hg,ho⟩:=BU S (τ:=x.τ) (h _ au) x.a
  simp only[cp]
  constructor
  ·have:(BT S.enc x.τ x.a).length=1:=by show(aN S x.τ x.a).length=1;rw[hg];rfl
   simp[i1,this];omega
  ·intro g' hg'
   rcases cP.1 hg' with h1 | h1
   ·have h1:g'∈aN S x.τ x.a:=h1
    rw[hg] at h1;simp at h1;subst h1;exact ho
   ·exact i2 _ h1
theorem qX (τ:Ty) (a:S.D τ):(aN S τ a).length=S.sz τ:=by
 cases τ with
 | st n=>
  show(S.enc n a).length=(S.dl n).length
  have:=S.mS n a
  rw[S.ve n a,(nm S _ (fun t ht=>S.one n t (by rw[←this];exact ht))).1,←this,aW]
 | _=>rfl
theorem Cn (τ:Ty):0<S.sz τ:=by
 cases τ with
 | st n=>exact List.length_pos_iff.2 (S.pos n)
 | _=>exact Nat.one_pos
theorem py (τ:Ty) (a:S.D τ):∀g∈aN S τ a,g.one=true:=by
 cases τ with
 | st n=>
  show ∀g∈S.enc n a,_
  have:=S.mS n a
  rw[S.ve n a]
  exact(nm S _ (fun t ht=>S.one n t (by rw[←this];exact ht))).2
 | _=>intro g hg;obtain⟨g',h1,h2⟩:=BU S (τ:=_) rfl a;rw[h1] at hg;simp at hg;subst hg;exact h2
@[reducible] def jG (τ:Ty):aL (S.D τ):=⟨S.sz τ,aN S τ,qX S τ,Cn S τ,fun a=>py S τ a⟩
def dC (τ:Ty) (a:S.D τ):G:=(aN S τ a).headD .any
theorem kg {τ:Ty}(h:τ.fP=false) (a:S.D τ):aN S τ a=[dC S τ a]:=by
 obtain⟨g,hg,_⟩:=BU S h a
 unfold dC
 rw[hg];rfl
theorem gv (n:Nat) (a:S.α n):aN S (.st n) a=(S.cells n a).map fun x=>dC S x.τ x.a:=by
 show S.enc n a=_
 have h0:=S.mS n a
 have h1:∀t∈(S.cells n a).map br.τ,t.fP=false:=fun t ht=>S.one n t (by rw[←h0];exact ht)
 rw[S.ve n a]
 generalize S.cells n a=l at h1
 induction l with
 | nil=>rfl
 | cons x r ih=>
  simp only[cp,aJ]
  rw[ih fun t ht=>h1 t (ao _ ht)]
  have:=kg S (τ:=x.τ) (h1 _ au) x.a
  show aN S x.τ x.a++_=_
  rw[this];rfl
end
inductive TV (S:eE) where
 | ab (f:Bool) (τ:Ty) (a:τ.den S.α)
 | ptr (f:Bool) (τ:Ty) (a:τ.den S.α)
 | agg (l:List (TV S))
 | bl (l:List (TV S))
 | loc (h off:Nat)
 | gK (h:Nat) (τ:Ty) (i j:Nat)
 | aR (h:Nat) (τ:Ty)
 | sub (h:Nat) (τ:Ty) (o n:Nat)
 | aF (f:FuncId) (caps:List (TV S))
 | ct (h:Nat)
 | mp (h:Nat)
 | ks (h:Nat) (τ:Ty) (i n:Nat)
 | kp (h:Nat) (τ:Ty) (i j:Nat)
 | fD (b:Bool) (h:Nat) (τ:Ty) (i j:Nat)
 | val (v:Value)
 | any
inductive Dk where
 | dK (kty:TypeId)
 | rows (kty:TypeId) (ho:Option Nat)
 | map (q:IntKind) (kty tty:TypeId)
 deriving DecidableEq
inductive TO (S:eE) where
 | box (bP:TypeId) (cw:Bool) (cs:List (TV S))
 | aV (bP:TypeId) (cw fresh:Bool) (τ:Ty) (l:List (τ.den S.α))
 | lp (key:Nat) (n:Int) (cs:List (TV S))
 | deep (bP:TypeId) (cw fresh:Bool) (dk:Dk) (τ:Ty) (a:τ.den S.α)
structure ah (S:eE) where
 fr:List (Nat×TV S)
 lo:List (Nat×TV S)
 st:List (Nat×TO S)
 bO:List (Nat×TO S)
 df:List (TV S)
 nx:Nat
 last:List (Nat×Nat×br S.α)
section
variable {S:eE}
def dw (f:Bool) (g:G):G:=bif f then AV g else g
def nq (f:Bool) (τ:Ty) (a:S.D τ):G:=
 match τ with
 | .st n=>.agg ((aN S (.st n) a).map (dw f))
 | τ=>dw f (dC S τ a)
def Od (f:Bool) (τ:Ty) (a:S.D τ):G:=bif f then .fr (.ptr (aN S τ a)) else .ptr (aN S τ a)
def TV.er (ln:Nat→Nat):TV S→G
 | .ab f τ a=>nq f τ a
 | .ptr f τ a=>Od f τ a
 | .agg l=>.agg (go ln l)
 | .bl l=>.bl (go ln l)
 | .loc h off=>.loc h off
 | .gK h τ i j=>.loc h (i*S.sz τ+j)
 | .aR h τ=>.aR h (S.sz τ) 0 (ln h)
 | .sub h τ o n=>.aR h (S.sz τ) (o*S.sz τ) n
 | .aF f caps=>.aF f (go ln caps)
 | .ct h=>.ct h
 | .mp h=>.dV h
 | .ks h τ i n=>.ks h i (S.sz τ) n
 | .kp h τ i j=>.kp h i (j*S.sz τ)
 | .fD b h τ i j=>bif b then .val (.pointer none) else .kp h i (j*S.sz τ)
 | .val v=>.val v
 | .any=>.any
where go (ln:Nat→Nat):List (TV S)→List G
 | []=>[]
 | x::r=>x.er ln::go ln r
theorem cU (ln:Nat→Nat) (l:List (TV S)):TV.er.go ln l=l.map (TV.er ln):=by
 induction l with
 | nil=>rfl
 | cons x r ih=>simp only[TV.er.go,aJ,ih]
def Bz (id:Nat) (n:Int):Option Code:=bif n==0 then none else bif n==1 then some (.exit id) else some .ret
def eE.lp (S:eE) (key:Nat) (n:Int):Lp:=⟨0,(S.eV key).N,(S.eV key).aA,(S.eV key).ps,(S.eV key).ly,(S.eV key).body,Bz (S.eV key).id n⟩
def sq:(τ:Ty)→S.D τ→Nat
 | .list _,l=>List.length l
 | _,_=>0
def TO.len:TO S→Nat
 | .aV _ _ _ _ l=>l.length
 | .deep _ _ _ _ τ a=>sq τ a
 | _=>0
def dH:(τ:Ty)→S.D τ→Nat×List (Nat×List G)
 | .list (.list t),ll=>(S.sz t,List.map (fun l=>(List.length l,List.flatMap (aN S t) l)) ll)
 | _,_=>(1,[])
def SZ:br S.α→Nat×List G
 | ⟨.list t,l⟩=>(List.length l,List.flatMap (aN S t) l)
 | _=>(0,[])
def Ss:List Ty→Nat
 | .list t::_=>S.sz t
 | _=>1
def FO:(τ:Ty)→S.D τ→Nat×Nat×List (Nat×List G)
 | .list (.st n),l=>(Ss (S:=S) (S.dl n),(S.dl n).length,List.flatMap (fun a=>(S.cells n a).map SZ) l)
 | _,_=>(1,1,[])
def gG (q:IntKind) (l:List Int):List G:=l.map fun x=>.val (.int q x)
def bS.me (q:IntKind) (e:bS):ME:=⟨(e.a,e.b),e.t,e.f.map fun p=>(p.1,gG q p.2)⟩
def mapOf:(τ:Ty)→S.D τ→bH
 | .map,d=>d
 | _,_=>⟨0,[],none⟩
def vY (q:IntKind):Option (Option (Nat×Nat)×Nat×List Int)→Option (Option (Nat×Nat)×Nat×List G)
 | some (s,x,l)=>some (s,x,gG q l)
 | none=>none
def Dk.dp (e:TypeId) (τ:Ty) (a:S.D τ):Dk→Dp
 | .dK kty=>iu e kty (dH τ a).1 (dH τ a).2
 | .rows kty ho=>Mv e kty (FO τ a).1 (FO τ a).2.1 (FO τ a).2.2 ho
 | .map q kty tty=>fI q kty tty (mapOf τ a).n ((mapOf τ a).es.map (bS.me q)) (vY q (mapOf τ a).pd)
def TO.er (ln:Nat→Nat):TO S→ap
 | .box e m cs=>⟨e,false,m,false,0,TV.er.go ln cs,none⟩
 | .aV e m f τ l=>⟨e,true,m,f,S.sz τ,List.flatMap (aN S τ) l,none⟩
 | .lp key n cs=>⟨0,false,false,false,0,TV.er.go ln cs,some (.loop (S.lp key n))⟩
 | .deep e m f dk τ a=>⟨e,true,m,f,1,[],some (.deep (dk.dp e τ a))⟩
def bg:List (Nat×TV S)→Nat→Option (TV S)
 | [],_=>none
 | (k,g)::r,t=>bif Nat.beq k t then some g else bg r t
def aw:List (Nat×TO S)→Nat→Option (TO S)
 | [],_=>none
 | (k,g)::r,t=>bif Nat.beq k t then some g else aw r t
def b6 (st:List (Nat×TO S)) (h:Nat):Nat:=match aw st h with | some o=>o.len | none=>0
def gi (ln:Nat→Nat):List (Nat×TV S)→List (Nat×G)
 | []=>[]
 | (t,v)::r=>(t,v.er ln)::gi ln r
def ca (ln:Nat→Nat):List (Nat×TO S)→List (Nat×ap)
 | []=>[]
 | (t,o)::r=>(t,o.er ln)::ca ln r
def ah.bZ (s:ah S):List (Nat×TV S):=s.fr++s.lo
def ah.bi (s:ah S):List (Nat×TO S):=s.st++s.bO
def ah.ln (s:ah S):Nat→Nat:=b6 s.bi
def ah.er (s:ah S):St:=⟨gi s.ln s.bZ,ca s.ln s.bi,TV.er.go s.ln s.df⟩
structure bF (s t:ah S):Prop where
 lo:t.lo=s.lo
 bO:t.bO=s.bO
 df:t.df=s.df
theorem bF.refl (s:ah S):bF s s:=⟨rfl,rfl,rfl⟩
theorem bF.trans {a b c:ah S}(h:bF a b) (h':bF b c):bF a c:=⟨h'.lo.trans h.lo,h'.bO.trans h.bO,h'.df.trans h.df⟩
theorem fh {ln:Nat→Nat}:∀{fr:List (Nat×TV S)}{t:Nat}{v:TV S},bg fr t=some v→get (gi ln fr) t=some (v.er ln)
 | [],_,_,h=>by cases h
 | (k,g)::r,t,v,h=>by
  simp only[bg] at h
  simp only[gi,AM.get]
  cases hk:Nat.beq k t with
  | true=>rw[hk] at h;cases h;rfl
  | false=>rw[hk] at h;exact fh h
theorem fM {ln:Nat→Nat}:∀{st:List (Nat×TO S)}{t:Nat}{o:TO S},aw st t=some o→aq (ca ln st) t=some (o.er ln)
 | [],_,_,h=>by cases h
 | (k,g)::r,t,v,h=>by
  simp only[aw] at h
  simp only[ca,aq]
  cases hk:Nat.beq k t with
  | true=>rw[hk] at h;cases h;rfl
  | false=>rw[hk] at h;exact fM h
def uJ:Value→TV S
 | .int k n=>.ab true (.int k) n
 | .bool b=>.ab true .bool b
 | .string s=>.ab true .str s
 | v=>.val v
theorem Gm (ln:Nat→Nat) (v:Value):(uJ v:TV S).er ln=.val v:=by cases v <;> rfl
def cn (s:ah S):Operand→Option (TV S)
 | .tmp t=>bg s.bZ t
 | .const v=>some (uJ v)
 | .func f=>some (.aF f [])
 | .global _=>none
theorem bh {s:ah S}{x:Operand}{v:TV S}(h:cn s x=some v):ev s.er x=some (v.er s.ln):=by
 cases x with
 | tmp t=>exact fh h
 | const v'=>cases h;simp only[ev,Gm]
 | func f=>cases h;rfl
 | global _=>cases h
def G1 (d:Nat):List (Nat×Nat×br S.α)→List (Nat×Nat×br S.α)
 | []=>[]
 | x::r=>bif Nat.beq x.1 d then G1 d r else x::G1 d r
def yR (h:Nat):List (Nat×Nat×br S.α)→List (Nat×Nat×br S.α)
 | []=>[]
 | x::r=>bif Nat.beq x.2.1 h then yR h r else x::yR h r
theorem DP {d:Nat}{y:Nat×Nat×br S.α}:∀{l:List (Nat×Nat×br S.α)},y∈G1 d l→y∈l∧y.1≠d
 | [],h=>by cases h
 | x::r,h=>by
  simp only[G1] at h
  cases hb:Nat.beq x.1 d with
  | true=>rw[hb] at h;obtain⟨h1,h2⟩:=DP h;exact⟨ao _ h1,h2⟩
  | false=>
   rw[hb] at h
   rcases aZ.1 h with e | h
   ·subst e
    exact⟨au,fun e=>by rw[e,aI] at hb;cases hb⟩
   ·obtain⟨h1,h2⟩:=DP h;exact⟨ao _ h1,h2⟩
theorem tv {d:Nat}{y:Nat×Nat×br S.α}:∀{l:List (Nat×Nat×br S.α)},y∈yR d l→y∈l∧y.2.1≠d
 | [],h=>by cases h
 | x::r,h=>by
  simp only[yR] at h
  cases hb:Nat.beq x.2.1 d with
  | true=>rw[hb] at h;obtain⟨h1,h2⟩:=tv h;exact⟨ao _ h1,h2⟩
  | false=>
   rw[hb] at h
   rcases aZ.1 h with e | h
   ·subst e
    exact⟨au,fun e=>by rw[e,aI] at hb;cases hb⟩
   ·obtain⟨h1,h2⟩:=tv h;exact⟨ao _ h1,h2⟩
def ah.put (s:ah S) (d:Nat) (v:TV S):ah S:={s with fr:=(d,v)::s.fr,last:=G1 d s.last}
def a5 (s:ah S):Prop:=∀d h x,(d,h,x)∈s.last→∃i bP m f τ l a,bg s.bZ d=some (.gK h τ i 0)∧aw s.bi h=some (.aV bP m f τ l)∧x=⟨τ,a⟩∧l[i]?=some a
theorem Ck {d t:Nat}(v:TV S) (fr:List (Nat×TV S)) (h:t≠d):bg ((d,v)::fr) t=bg fr t:=by
 simp only[bg]
 cases hb:Nat.beq d t with
 | true=>exact absurd (aa hb).symm h
 | false=>rfl
theorem a5.put {s:ah S}(h:a5 s) (d:Nat) (v:TV S):a5 (s.put d v):=by
 intro d' hh x hm
 obtain⟨h1,h2⟩:=DP hm
 obtain⟨i,bP,m,f,τ,l,a,e1,e2⟩:=h d' hh x h1
 exact⟨i,bP,m,f,τ,l,a,(Ck v s.bZ h2).trans e1,e2⟩
theorem fE (s:ah S) (d:Nat) (v:TV S):(s.put d v).er=s.er.put d (v.er s.ln):=rfl
end
end Go.DN
/-
 DN,part B:operations that yield a value and leave the world alone.
-/
namespace Go.DN
open Go.AM
section
variable {S:eE}
def kz (P:Program) (t:TypeId):Option Nat:=(P.info? t).map (·.size)
def Et (P:Program) (t:TypeId):Option Bool:=match P.underlying t with
 | some (.struct _)=>some true
 | some (.array _ _)=>some true
 | some _=>some false
 | none=>none
theorem dA {P:Program}{t:TypeId}{n:Nat}(h:kz P t=some n):∀w,(sizeOf t).run P w=.ok n w:=by
 intro w
 unfold kz at h
 obtain⟨i,h1,h2⟩:=av.1 h
 subst h2
 simp[sizeOf,typeInfo,h1]
theorem gN {P:Program}{t:TypeId}{b:Bool}(h:Et P t=some b):∀w,(isAgg t).run P w=.ok b w:=by
 intro w
 unfold Et at h
 cases hu:P.underlying t with
 | none=>rw[hu] at h;cases h
 | some d=>rw[hu] at h;cases d <;> cases h <;> simp[isAgg,underlying,hu]
def Pm (op:BinOp) (k:IntKind) (a b:Int):Option (TV S):=
 match op with
 | .add=>some (.ab true (.int k) (k.wrap (a+b)))
 | .sub=>some (.ab true (.int k) (k.wrap (a-b)))
 | .mul=>some (.ab true (.int k) (k.wrap (a*b)))
 | .eql=>some (.ab true .bool (a==b))
 | .neq=>some (.ab true .bool (a !=b))
 | .lss=>some (.ab true .bool (decide (a<b)))
 | .leq=>some (.ab true .bool (decide (a≤b)))
 | .gtr=>some (.ab true .bool (decide (a>b)))
 | .geq=>some (.ab true .bool (decide (a≥b)))
 | .and=>some (.ab true (.int k) (k.wrap ((BitVec.ofInt k.bits a &&& BitVec.ofInt k.bits b).toNat:Int)))
 | .or=>some (.ab true (.int k) (k.wrap ((BitVec.ofInt k.bits a ||| BitVec.ofInt k.bits b).toNat:Int)))
 | _=>none
theorem Q4 {op:BinOp}{k:IntKind}{a b:Int}{v:TV S}(h:Pm op k a b=some v) (ln:Nat→Nat):∃r,v.er ln=.val r∧B8 op (.int k a) (.int k b)=some r:=by
 cases op <;> simp only[Pm] at h <;> cases h <;> exact⟨_,rfl,by simp[B8]⟩
def Pk (op:BinOp) (a b:ByteArray):Option (TV S):=
 match op with
 | .eql=>some (.ab true .bool (a.toList==b.toList))
 | .neq=>some (.ab true .bool (!(a.toList==b.toList)))
 | .lss=>some (.ab true .bool (Op.bytesLess a.toList b.toList))
 | _=>none
theorem Q3 {op:BinOp}{a b:ByteArray}{v:TV S}(h:Pk op a b=some v) (ln:Nat→Nat):∃r,v.er ln=.val r∧B8 op (.string a) (.string b)=some r:=by
 cases op <;> simp only[Pk] at h <;> cases h <;> exact⟨_,rfl,by simp[B8]⟩
def CX (ki:IntKind):List (br S.α)→Option (List Int)
 | []=>some []
 | ⟨.int k,a⟩::r=>match decEq k ki with
  | isTrue _=>match CX ki r with
   | some l=>some (a::l)
   | none=>none
  | isFalse _=>none
 | _=>none
theorem H2 {ki:IntKind}:∀{l:List (br S.α)}{xs:List Int},CX ki l=some xs→(l.map fun x=>dC S x.τ x.a)=xs.map fun a=>.val (.int ki a)
 | [],_,h=>by cases h;rfl
 | ⟨.int k,a⟩::r,xs,h=>by
  simp only[CX] at h
  split at h
  ·rename_i e _
   subst e
   split at h
   ·rename_i l hl
    cases h
    rw[aJ,aJ,H2 hl]
    rfl
   ·cases h
  ·cases h
 | ⟨.bool,_⟩::_,_,h=>by cases h
 | ⟨.str,_⟩::_,_,h=>by cases h
 | ⟨.list _,_⟩::_,_,h=>by cases h
 | ⟨.st _,_⟩::_,_,h=>by cases h
theorem QS {f:Bool}{n:Nat}{a:S.α n}{ki:IntKind}{xs:List Int}(h:CX ki (S.cells n a)=some xs) (ln:Nat→Nat):(TV.ab f (.st n) a:TV S).er ln=.agg (xs.map fun a=>.val (.int ki a)):=by
 show G.agg ((aN S (.st n) a).map (dw f))=_
 rw[gv,H2 h,fR]
 congr 1
 refine eB fun x _=>?_
 cases f <;> rfl
def FZ (ki:IntKind):List (TV S)→Option (List Int)
 | []=>some []
 | .ab _ (.int k) a::r=>match decEq k ki with
  | isTrue _=>match FZ ki r with
   | some l=>some (a::l)
   | none=>none
  | isFalse _=>none
 | _::_=>none
theorem H0 {ki:IntKind}(ln:Nat→Nat):∀{l:List (TV S)}{xs:List Int},FZ ki l=some xs→TV.er.go ln l=xs.map fun a=>.val (.int ki a)
 | [],_,h=>by cases h;rfl
 | v::r,xs,h=>by
  unfold FZ at h
  split at h
  ·rename_i e;cases e
  ·rename_i f k a r' e
   cases e
   split at h
   ·rename_i e _
    subst e
    split at h
    ·rename_i l hl
     cases h
     simp only[TV.er.go,H0 ln hl,aJ]
     congr 1
     cases f <;> rfl
    ·cases h
   ·cases h
  ·cases h
def LN (ki:IntKind):TV S→Option (List Int)
 | .ab _ (.st n) a=>CX ki (S.cells n a)
 | .agg vs=>FZ ki vs
 | _=>none
theorem Kl {ki:IntKind}{v:TV S}{xs:List Int}(h:LN ki v=some xs) (ln:Nat→Nat):v.er ln=.agg (xs.map fun a=>.val (.int ki a)):=by
 unfold LN at h
 split at h
 ·exact QS h ln
 ·exact congrArg G.agg (H0 ln h)
 ·cases h
def LO (P:Program) (op:BinOp) (t:TypeId) (x y:TV S){A:Type}(k:TV S→Option A):Option A:=
 match op with
 | .eql=>match P.underlying t with
  | some (.array len e)=>match P.underlying e with
   | some (.int ki)=>match LN ki x with
    | some xs=>match LN ki y with
     | some ys=>match decEq (kz P e) (some 1) with
      | isTrue _=>match !(P.eqGuardType P.depth t)&&(Nat.beq xs.length len&&Nat.beq ys.length len) with
       | true=>k (.ab true .bool (Dd xs ys))
       | false=>none
      | isFalse _=>none
     | none=>none
    | none=>none
   | _=>none
  | _=>none
 | _=>none
def Pn (P:Program) (op:BinOp) (t:TypeId) (x y:TV S){A:Type}(k:TV S→Option A):Option A:=
 match x with
 | .ab _ (.int ka) a=>match y with
  | .ab _ (.int kb) b=>match op with
   | .quo=>match decEq ka kb with
    | isTrue _=>(bo (b≠0)).bind fun _=>k (.ab true (.int ka) (ka.wrap (Int.tdiv a b)))
    | isFalse _=>none
   | .rem=>match decEq ka kb with
    | isTrue _=>(bo (b≠0)).bind fun _=>k (.ab true (.int ka) (Int.tmod a b))
    | isFalse _=>none
   | .shr=>(bo (0≤b)).bind fun _=>k (.ab true (.int ka) (Int.fdiv a (2^(min (Int.toNat b) ka.bits))))
   | .shl=>(bo (0≤b)).bind fun _=>k (.ab true (.int ka) (ka.wrap (a*2^(min (Int.toNat b) ka.bits))))
   | op=>match decEq ka kb with
    | isTrue _=>match Pm op ka a b with
     | some v=>k v
     | none=>none
    | isFalse _=>none
  | _=>none
 | .ab _ .str a=>match y with
  | .ab _ .str b=>match Pk op a b with
   | some v=>k v
   | none=>none
  | _=>none
 | .ab _ .bool a=>match y with
  | .ab _ .bool b=>match P.underlying t with
   | some .bool=>match op with
    | .eql=>k (.ab true .bool (a==b))
    | .neq=>k (.ab true .bool (!(a==b)))
    | _=>none
   | _=>none
  | _=>none
 | .ab f (.st n) a=>LO P op t (.ab f (.st n) a) y k
 | .agg vs=>LO P op t (.agg vs) y k
 | _=>none
section
variable {P:Program}{s:ah S}{dst:Option Tmp}{ty:TypeId}{pos:String}{after:Array Edge}{guard:Option (Nat×Bool)}
theorem qZ (f:Bool) (k:IntKind) (a:Int):nq (S:=S) f (.int k) a=.val (.int k a):=by cases f <;> rfl
theorem gf (f:Bool) (a:Bool):nq (S:=S) f .bool a=.val (.bool a):=by cases f <;> rfl
theorem O7 (f:Bool) (a:ByteArray):nq (S:=S) f .str a=.val (.string a):=by cases f <;> rfl
theorem jm {x:Operand}{f:Bool}{k:IntKind}{a:Int}(h:cn s x=some (.ab f (.int k) a)):ev s.er x=some (.val (.int k a)):=by rw[bh h];exact congrArg some (qZ f k a)
theorem Ip {x:Operand}{f:Bool}{a:Bool}(h:cn s x=some (.ab f .bool a)):ev s.er x=some (.val (.bool a)):=by rw[bh h];exact congrArg some (gf f a)
theorem J6 {x:Operand}{f:Bool}{a:ByteArray}(h:cn s x=some (.ab f .str a)):ev s.er x=some (.val (.string a)):=by rw[bh h];exact congrArg some (O7 f a)
theorem Km {op:BinOp}{t t':TypeId}{x y:Operand}{vx vy:TV S}{A:Type}{k:TV S→Option A}{r:A}(hx:cn s x=some vx) (hy:cn s y=some vy) (h:LO P op t vx vy k=some r):
  ∃v,PY P s.er ⟨dst,.binOp op t x y t',ty,pos,after,guard⟩ (v.er s.ln)∧k v=some r:=by
 unfold LO at h
 split at h
 ·split at h
  ·rename_i hu
   split at h
   ·rename_i hue
    split at h
    ·rename_i hxs
     split at h
     ·rename_i hys
      split at h
      ·rename_i hz _
       split at h
       ·rename_i hc
        simp only[aj,a8] at hc
        obtain⟨c1,c2,c3⟩:=hc
        exact⟨_,PY.SL (by rw[bh hx,Kl hxs]) (by rw[bh hy,Kl hys]) hu hue (dA hz) (aa c2) (aa c3) c1,h⟩
       ·cases h
      ·cases h
     ·cases h
    ·cases h
   ·cases h
  ·cases h
 ·cases h
theorem Q5 {op:BinOp}{t t':TypeId}{x y:Operand}{vx vy:TV S}{A:Type}{k:TV S→Option A}{r:A}(hx:cn s x=some vx) (hy:cn s y=some vy) (h:Pn P op t vx vy k=some r):
  ∃v,PY P s.er ⟨dst,.binOp op t x y t',ty,pos,after,guard⟩ (v.er s.ln)∧k v=some r:=by
 unfold Pn at h
 split at h
 ·split at h
  ·rename_i fa ka a fb kb b
   have e1:=jm hx
   have e2:=jm hy
   split at h
   ·split at h
    ·rename_i _ e _
     subst e
     obtain⟨u,hu,h⟩:=bind_some h
     exact⟨_,PY.quo e1 e2 (cm hu),h⟩
    ·cases h
   ·split at h
    ·rename_i _ e _
     subst e
     obtain⟨u,hu,h⟩:=bind_some h
     exact⟨_,PY.rem e1 e2 (cm hu),h⟩
    ·cases h
   ·obtain⟨u,hu,h⟩:=bind_some h
    exact⟨_,PY.shr e1 e2 (cm hu),h⟩
   ·obtain⟨u,hu,h⟩:=bind_some h
    exact⟨_,PY.shl e1 e2 (cm hu),h⟩
   ·split at h
    ·rename_i e _
     subst e
     split at h
     ·rename_i v hv
      obtain⟨w,h1,h2⟩:=Q4 hv s.ln
      exact⟨v,by rw[h1];exact PY.bin e1 e2 h2,h⟩
     ·cases h
    ·cases h
  ·cases h
 ·split at h
  ·split at h
   ·rename_i v hv
    obtain⟨w,h1,h2⟩:=Q3 hv s.ln
    exact⟨v,by rw[h1];exact PY.bin (J6 hx) (J6 hy) h2,h⟩
   ·cases h
  ·cases h
 ·split at h
  ·split at h
   ·rename_i hu
    split at h
    ·exact⟨_,PY.Tv (Ip hx) (Ip hy) hu,h⟩
    ·exact⟨_,PY.Ts (Ip hx) (Ip hy) hu,h⟩
    ·cases h
   ·cases h
  ·cases h
 ·exact Km hx hy h
 ·exact Km hx hy h
 ·cases h
end
end
end Go.DN
/-
 DN,part C:more operations that yield a value;a value seen as plain data.
-/
namespace Go.DN
open Go.AM
def RW (g g':G):Prop:=∀(O:Nat→Prop) (base:Nat) (w:World) (μ:Mu) (v:Value),aY O base w μ g v→aY O base w μ g' v
theorem RW.refl (g:G):RW g g:=fun _ _ _ _ _ h=>h
theorem RW.trans {a b c:G}(h:RW a b) (h':RW b c):RW a c:=fun _ _ _ _ _ x=>h' _ _ _ _ _ (h _ _ _ _ _ x)
theorem PY.rw {P:Program}{s:St}{o:Oper}{g g':G}(h:PY P s o g) (hw:RW g g'):PY P s o g':=fun N cx μ a w hr=>
 let ⟨v,h1,h2⟩:=h N cx μ a w hr
 ⟨v,hw _ _ _ _ _ h1,h2⟩
theorem fB.rw {P:Program}{W:List Nat}{s:St}{o:Oper}{g g':G}(h:fB P W s o g) (hw:RW g g'):fB P W s o g':=fun N cx μ a w hr=>
 let ⟨v,h1,h2⟩:=h N cx μ a w hr
 ⟨v,hw _ _ _ _ _ h1,h2⟩
theorem bG.tP {O:Nat→Prop}{w:World}{cs:List G}{v:Value}(n:Nat) (h:bG O w (.ptr cs) v):bG O w (.ptr (cs.take n)) v:=by
 cases h with
 | ptr _ b off us h1 h2 h3 h4=>
  refine .ptr _ b off us h1 h2 (fun j hj=>h3 j ?_) (fun j g hg=>h4 j g ?_)
  ·rw[aX] at hj;omega
  ·rw[bf] at hg;split at hg
   ·exact hg
   ·cases hg
def DU (f:Bool) (cs:List G):G:=bif f then .fr (.ptr cs) else .ptr cs
theorem RW.tP (f:Bool) (cs:List G) (n:Nat):RW (DU f cs) (DU f (cs.take n)):=by
 intro O base w μ v h
 cases f with
 | true=>cases h with
  | aH h=>cases h
  | fr h=>exact .fr (bG.tP n h)
 | false=>cases h with
  | aH h=>exact .aH (bG.tP n h)
theorem RW.nil:RW (.val (.slice none 0 0)) (.fr (.sl 0 [])):=by
 intro O base w μ v h
 cases h with
 | aH h=>cases h;exact .fr .nil
theorem RW.Rc (g:G):RW (AV g) g:=by
 intro O base w μ v h
 cases g <;> first | exact h | (cases h with
  | aH h=>cases h
  | fr h=>exact .aH h.rY)
theorem RW.dw (f f':Bool) (g:G) (h:f'=true→f=true):RW (DN.dw f g) (DN.dw f' g):=by
 cases f with
 | true=>cases f' with
  | true=>exact RW.refl _
  | false=>exact RW.Rc g
 | false=>cases f' with
  | true=>cases h rfl
  | false=>exact RW.refl _
theorem RW.agg {gs gs':List G}(hl:gs'.length=gs.length) (h:∀(j:Nat) (g':G),gs'[j]?=some g'→∃g,gs[j]?=some g∧RW g g'):RW (.agg gs) (.agg gs'):=by
 intro O base w μ v hv
 cases hv with
 | aH hv=>cases hv with
  | agg _ us h1 h2=>exact .agg _ us (h1.trans hl.symm) fun j g' v hg' hv=>(by
    obtain⟨g,hg,hw⟩:=h j g' hg'
    exact hw _ _ _ _ _ (.aH (h2 j g v hg hv)))
 | agg _ us h1 h2=>exact .agg _ us (h1.trans hl.symm) fun j g' v hg' hv=>(by
   obtain⟨g,hg,hw⟩:=h j g' hg'
   exact hw _ _ _ _ _ (h2 j g v hg hv))
theorem RW.bl {gs gs':List G}(hl:gs'.length=gs.length) (h:∀(j:Nat) (g':G),gs'[j]?=some g'→∃g,gs[j]?=some g∧RW g g'):RW (.bl gs) (.bl gs'):=by
 intro O base w μ v hv
 cases hv with
 | aH hv=>cases hv
 | bl _ us h1 h2=>exact .bl _ us (h1.trans hl.symm) fun j g' v hg' hv=>(by
   obtain⟨g,hg,hw⟩:=h j g' hg'
   exact hw _ _ _ _ _ (h2 j g v hg hv))
section
variable {S:eE}
def mT (τ:Ty):TV S→Option (Bool×S.D τ)
 | .ab f τ' a=>match τ'.fP with
  | true=>none
  | false=>match iw τ' τ a with
   | some b=>some (f||τ.fZ,b)
   | none=>none
 | .val (.slice none 0 0)=>match τ with
  | .list _=>some (true,[])
  | _=>none
 | _=>none
theorem DH {τ:Ty}{v:TV S}{f:Bool}{a:S.D τ}(h:mT τ v=some (f,a)) (ln:Nat→Nat):τ.fP=false∧RW (v.er ln) (dw f (dC S τ a)):=by
 unfold mT at h
 split at h
 ·rename_i f' τ' a'
  split at h
  ·cases h
  ·rename_i h1
   split at h
   ·rename_i b hb
    cases h
    have:=ec hb
    cases this
    refine⟨h1,?_⟩
    cases τ with
    | st n=>cases h1
    | _=>cases f' <;> exact RW.refl _
   ·cases h
 ·split at h
  ·cases h
   exact⟨rfl,RW.nil⟩
  ·cases h
 ·cases h
def DG:List Ty→List (TV S)→Option (Bool×List (br S.α))
 | [],[]=>some (true,[])
 | τ::ts,v::vs=>match mT τ v with
  | some (f,a)=>match DG ts vs with
   | some (g,l)=>some (f&&g,⟨τ,a⟩::l)
   | none=>none
  | none=>none
 | _,_=>none
theorem DF (ln:Nat→Nat):∀{ts:List Ty}{vs:List (TV S)}{f:Bool}{l:List (br S.α)},DG ts vs=some (f,l)→
  l.length=vs.length∧∀(j:Nat) (x:br S.α),l[j]?=some x→∃v,vs[j]?=some v∧RW (v.er ln) (dw f (dC S x.τ x.a))
 | [],[],_,_,h=>by cases h;exact⟨rfl,fun j x h=>by simp at h⟩
 | τ::ts,v::vs,f,l,h=>by
  simp only[DG] at h
  split at h
  ·rename_i f1 a h1
   split at h
   ·rename_i g l' h2
    cases h
    obtain⟨i1,i2⟩:=DF ln h2
    obtain⟨_,h3⟩:=DH h1 ln
    refine⟨by simp[i1],fun j x hx=>?_⟩
    cases j with
    | zero=>cases hx;exact⟨v,rfl,h3.trans (RW.dw _ _ _ fun h=>by simp at h;exact h.1)⟩
    | succ j=>
     obtain⟨v',h4,h5⟩:=i2 j x hx
     exact⟨v',h4,h5.trans (RW.dw _ _ _ fun h=>by simp at h;exact h.2)⟩
   ·cases h
  ·cases h
 | [],_::_,_,_,h=>by cases h
 | _::_,[],_,_,h=>by cases h
def Cm (τ:Ty) (v:TV S):Option (Bool×S.D τ):=
 match v with
 | .ab f τ' a=>match iw τ' τ a with
  | some b=>some (f||τ.fZ,b)
  | none=>none
 | .val (.slice none 0 0)=>match τ with
  | .list _=>some (true,[])
  | _=>none
 | .agg vs=>match τ with
  | .st n=>match DG (S.dl n) vs with
   | some (f,l)=>match S.put n l with
    | some a=>some (f,a)
    | none=>none
   | none=>none
  | _=>none
 | _=>none
theorem Re {τ:Ty}{v:TV S}{f:Bool}{a:S.D τ}(h:Cm τ v=some (f,a)) (ln:Nat→Nat):RW (v.er ln) (nq f τ a):=by
 unfold Cm at h
 split at h
 ·split at h
  ·rename_i f' _ _ _ b hb
   cases h
   have:=ec hb
   cases this
   cases τ with
   | st n=>cases f' <;> exact RW.refl _
   | _=>cases f' <;> exact RW.refl _
  ·cases h
 ·split at h
  ·cases h;exact RW.nil
  ·cases h
 ·split at h
  ·rename_i _ vs _ n
   split at h
   ·rename_i f1 l h1
    split at h
    ·rename_i a1 h2
     cases h
     obtain⟨i1,i2⟩:=DF ln h1
     have h3:=S.kI n l a h2
     show RW (.agg (TV.er.go ln vs)) (.agg ((aN S (.st n) a).map (dw f)))
     rw[cU,gv,h3]
     refine RW.agg (by simp[i1]) fun j g' hg'=>?_
     simp only[ay,Option.map_map] at hg'
     obtain⟨x,hx,rfl⟩:=av.1 hg'
     obtain⟨v,h4,h5⟩:=i2 j x hx
     exact⟨v.er ln,by rw[ay,h4];rfl,h5⟩
    ·cases h
   ·cases h
  ·cases h
 ·cases h
def split (f:Bool) (n:Nat) (a:S.α n):List (TV S):=(S.cells n a).map fun x=>.ab f x.τ x.a
theorem nT {τ:Ty}(h:τ.fP=false) (f:Bool) (a:S.D τ) (ln:Nat→Nat):(TV.ab f τ a:TV S).er ln=dw f (dC S τ a):=by
 cases τ with
 | st n=>cases h
 | _=>rfl
theorem jU (n:Nat) (a:S.α n):∀x∈S.cells n a,x.τ.fP=false:=fun x hx=>
 S.one n _ (by rw[←S.mS n a];exact jH hx)
theorem GO (f:Bool) (n:Nat) (a:S.α n) (ln:Nat→Nat):TV.er.go ln (split f n a)=(aN S (.st n) a).map (dw f):=by
 rw[cU,gv]
 have h:=jU n a
 unfold split
 generalize S.cells n a=l at h
 induction l with
 | nil=>rfl
 | cons x r ih=>
  simp only[aJ]
  rw[nT (h x au),ih fun y hy=>h y (ao _ hy)]
def dO:TV S→List (TV S)
 | .agg l=>l
 | .ab f (.st n) a=>split f n a
 | v=>[v]
theorem Mc (v:TV S) (ln:Nat→Nat) (h:∀u,v=.val u→u.oneCell'=true):cK (v.er ln)=TV.er.go ln (dO v):=by
 have fr1:∀(f:Bool) (τ:Ty) (a:S.D τ),τ.fP=false→cK (dw f (dC S τ a))=[dw f (dC S τ a)]:=by
  intro f τ a hs
  cases τ with
  | st n=>cases hs
  | _=>cases f <;> rfl
 cases v with
 | ab f τ a=>
  cases τ with
  | st n=>exact(GO f n a ln).symm
  | _=>exact fr1 f _ a rfl
 | agg l=>rfl
 | ptr f τ a=>cases f <;> rfl
 | val u=>exact congrArg (List.map G.val) (congrArg Array.toList (ma (h u rfl)))
 | fD b h τ i j=>cases b <;> rfl
 | _=>rfl
end
end Go.DN
/-
 DN,part D:the operations that yield a value and leave the world alone,as one function.
-/
namespace Go.DN
open Go.AM
section
variable {S:eE}
def OY (P:Program) (t:TypeId) (i:Nat) (x:TV S):Option (TV S):=
 match P.underlying t with
 | some (.struct fs)=>match fs[i]? with
  | some f=>match kz P f.type with
   | some (z+1)=>match x with
    | .loc h off=>some (.loc h (off+f.offset))
    | .gK h τ i j=>some (.gK h τ i (j+f.offset))
    | .kp h (.list τ) i j=>some (.kp h (.list τ) i (j+f.offset))
    | .ptr fl (.st n) a=>match Et P f.type with
     | some false=>match (S.cells n a)[f.offset]? with
      | some y=>some (.ptr fl y.τ y.a)
      | none=>none
     | some true=>match S.ty f.type with
      | some n'=>match S.put n' (((S.cells n a).drop f.offset).take (z+1)) with
       | some a'=>some (.ptr fl (.st n') a')
       | none=>none
      | none=>none
     | none=>none
    | _=>none
   | _=>none
  | none=>none
 | _=>none
def OX (P:Program) (t:TypeId) (i:Nat) (x:TV S):Option (TV S):=
 match P.underlying t with
 | some (.struct fs)=>match fs[i]? with
  | some f=>match Et P f.type with
   | some false=>match x with
    | .agg l=>l[f.offset]?
    | .ab fl (.st n) a=>match (S.cells n a)[f.offset]? with
     | some y=>some (.ab fl y.τ y.a)
     | none=>none
    | _=>none
   | _=>none
  | none=>none
 | _=>none
section
variable {P:Program}{s:ah S}{dst:Option Tmp}{ty:TypeId}{pos:String}{after:Array Edge}{guard:Option (Nat×Bool)}
theorem QO {t:TypeId}{i:Nat}{x:Operand}{vx v:TV S}(hx:cn s x=some vx) (h:OX P t i vx=some v):
  PY P s.er ⟨dst,.field t x i,ty,pos,after,guard⟩ (v.er s.ln):=by
 unfold OX at h
 split at h
 ·rename_i fs hu
  split at h
  ·rename_i f hf
   split at h
   ·rename_i ha
    split at h
    ·rename_i l
     refine PY.Nn (gs:=TV.er.go s.ln l) (bh hx) hu hf (gN ha) ?_
     rw[cU,ay,h];rfl
    ·rename_i fl n a
     split at h
     ·rename_i y hy
      cases h
      refine PY.Nn (gs:=(aN S (.st n) a).map (dw fl)) (bh hx) hu hf (gN ha) ?_
      rw[←GO fl n a s.ln,cU,ay]
      unfold split
      rw[ay,hy];rfl
     ·cases h
    ·cases h
   ·cases h
  ·cases h
 ·cases h
theorem Dc (f:Bool) (τ:Ty) (a:S.D τ) (ln:Nat→Nat):(TV.ptr f τ a:TV S).er ln=DU f (aN S τ a):=rfl
theorem QP {t:TypeId}{i:Nat}{x:Operand}{vx v:TV S}(hx:cn s x=some vx) (h:OY P t i vx=some v):
  PY P s.er ⟨dst,.fieldAddr t x i,ty,pos,after,guard⟩ (v.er s.ln):=by
 unfold OY at h
 split at h
 ·rename_i fs hu
  split at h
  ·rename_i f hf
   split at h
   ·rename_i z hz
    split at h
    ·cases h
     exact PY.field (bh hx) rfl hu hf (dA hz) (by omega)
    ·cases h
     rename_i hh τ i' j
     refine PY.rw (PY.field (g':=.loc hh (i'*S.sz τ+j+f.offset)) (bh hx) rfl hu hf (dA hz) (by omega)) ?_
     show RW _ (.loc hh (i'*S.sz τ+(j+f.offset)))
     rw[Nat.add_assoc]
     exact RW.refl _
    ·cases h
     rename_i hh τ i' j
     refine PY.rw (PY.field (g':=.kp hh i' (j*S.sz (.list τ)+f.offset)) (bh hx) rfl hu hf (dA hz) (by omega)) ?_
     show RW _ (.kp hh i' ((j+f.offset)*S.sz (.list τ)))
     rw[show S.sz (.list τ)=1 from rfl,ed,ed]
     exact RW.refl _
    ·rename_i fl n a
     have key:∀(cs:List G) (m:Nat),((aN S (.st n) a).drop f.offset).take m=cs→PY P s.er ⟨dst,.fieldAddr t x i,ty,pos,after,guard⟩ (DU fl cs):=by
      intro cs m he
      subst he
      have e0:=bh hx
      rw[Dc] at e0
      refine PY.rw (PY.field (g':=DU fl ((aN S (.st n) a).drop f.offset)) e0 ?_ hu hf (dA hz) (by omega)) (RW.tP _ _ _)
      cases fl <;> rfl
     split at h
     ·split at h
      ·rename_i y hy
       cases h
       refine key _ 1 ?_
       rw[gv,kg S (jU n a y (ar hy))]
       rw[←List.map_drop,←List.map_take]
       have:((S.cells n a).drop f.offset).take 1=[y]:=by
        have:=al.1 hy
        obtain⟨h1,h2⟩:=this
        rw[bY h1,h2];rfl
       rw[this];rfl
      ·cases h
     ·split at h
      ·rename_i n' _
       split at h
       ·rename_i a' h'
        cases h
        refine key _ (z+1) ?_
        rw[gv,gv,S.kI _ _ _ h',List.map_take,List.map_drop]
       ·cases h
      ·cases h
     ·cases h
    ·cases h
   ·cases h
  ·cases h
 ·cases h
def yJ (h:Nat) (τ:Ty) (o n:Nat) (lo hi:Option (TV S)){A:Type}(k:TV S→Option A):Option A:=
 match lo,hi with
 | some (.ab _ (.int _) i),some (.ab _ (.int _) j)=>(bo (0≤i∧i≤j∧j≤(n:Int))).bind fun _=>k (.sub h τ (o+Int.toNat i) (Int.toNat j-Int.toNat i))
 | some (.ab _ (.int _) i),none=>(bo (0≤i∧i≤(n:Int))).bind fun _=>k (.sub h τ (o+Int.toNat i) (n-Int.toNat i))
 | none,some (.ab _ (.int _) j)=>(bo (0≤j∧j≤(n:Int))).bind fun _=>k (.sub h τ o (Int.toNat j))
 | none,none=>none
 | _,_=>none
def N0 (ln:Nat→Nat) (t:TypeId) (P:Program) (x:TV S) (lo hi:Option (TV S)){A:Type}(k:TV S→Option A):Option A:=
 match P.underlying t with
 | some (.slice e)=>match x with
  | .ab f (.list τ) l=>match decEq (kz P e) (some (S.sz τ)) with
   | isFalse _=>none
   | isTrue _=>match lo,hi with
    | some (.ab _ (.int _) i),some (.ab _ (.int _) j)=>(bo (0≤i∧i≤j∧j≤(List.length l:Int))).bind fun _=>k (.ab f (.list τ) (ko l i j))
    | some (.ab _ (.int _) i),none=>(bo (0≤i∧i≤(List.length l:Int))).bind fun _=>k (.ab f (.list τ) (ko l i (List.length l:Int)))
    | none,some (.ab _ (.int _) j)=>(bo (0≤j∧j≤(List.length l:Int))).bind fun _=>k (.ab f (.list τ) (ko l 0 j))
    | _,_=>none
  | .aR h τ=>match decEq (kz P e) (some (S.sz τ)) with
   | isFalse _=>none
   | isTrue _=>yJ h τ 0 (ln h) lo hi k
  | .sub h τ o n=>match decEq (kz P e) (some (S.sz τ)) with
   | isFalse _=>none
   | isTrue _=>yJ h τ o n lo hi k
  | _=>none
 | some .string=>match x with
  | .ab _ .str b=>match lo,hi with
   | some (.ab _ (.int _) i),some (.ab _ (.int _) j)=>(bo (0≤i∧i≤j∧j≤(b.size:Int))).bind fun _=>k (.ab true .str (b.extract i.toNat j.toNat))
   | some (.ab _ (.int _) i),none=>(bo (0≤i∧i≤(b.size:Int))).bind fun _=>k (.ab true .str (b.extract i.toNat b.size))
   | none,some (.ab _ (.int _) j)=>(bo (0≤j∧j≤(b.size:Int))).bind fun _=>k (.ab true .str (b.extract 0 j.toNat))
   | _,_=>none
  | _=>none
 | _=>none
theorem aY.yJ {O:Nat→Prop}{base:Nat}{w:World}{μ:Mu}{h sz off n i j:Nat}{v:Value}(hv:aY O base w μ (.aR h sz off n) v) (h1:i≤j) (h2:j≤n):
  ∃(a:Option Addr) (cap:Nat),v=.slice a n cap∧n≤cap∧aY O base w μ (.aR h sz (off+i*sz) (j-i)) (sliced a i j cap sz):=by
 cases hv with
 | aH hv=>cases hv
 | eQ _ _ hm=>
  obtain rfl:i=0:=by omega
  obtain rfl:j=0:=by omega
  refine⟨none,0,rfl,az _,?_⟩
  simp only[sliced,ey,dq,if_true]
  exact .eQ h sz hm
 | aR _ _ _ _ b m cap hm hn hc=>
  refine⟨_,cap,rfl,hn,?_⟩
  unfold sliced
  by_cases e:cap=i
  ·rw[if_pos e]
   have hj:j-i=0:=by omega
   have hci:cap-i=0:=by omega
   rw[hj,hci]
   by_cases hpos:0<m.1
   ·have:off+i*sz=m.1:=by rw[←e];exact hc
    rw[this]
    exact .dJ h sz off b m.1 hm hpos
   ·have h5:off=0:=by omega
    have h6:i*sz=0:=by rw[←e];omega
    rw[h5,h6]
    exact .aR h sz 0 0 b m 0 hm (az _) (by omega)
  ·rw[if_neg e]
   simp only[bL,Addr.iY]
   refine .aR h sz _ _ b m _ hm (by omega) ?_
   have:i*sz+(cap-i)*sz=cap*sz:=by rw[←dD];congr 1;omega
   omega
 | dJ _ _ off0 b m hm hpos=>
  obtain rfl:i=0:=by omega
  obtain rfl:j=0:=by omega
  refine⟨_,0,rfl,az _,?_⟩
  simp only[sliced,ey,dq,if_true]
  exact .dJ h sz off0 b _ hm hpos
theorem tF (f:Bool) (τ:Ty) (l:List (S.D τ)) (ln:Nat→Nat):(TV.ab f (.list τ) l:TV S).er ln=@Cr _ (jG S τ) f l:=by cases f <;> rfl
def pF (s:ah S):Option Operand→Option (Option (TV S))
 | none=>some none
 | some x=>match cn s x with
  | some v=>some (some v)
  | none=>none
theorem Ky {j:Int}{n:Nat}(h:j≤(n:Int)):j.toNat≤n:=by omega
theorem M3 {j:Int}{n cap:Nat}(h:j≤(n:Int)) (h':n≤cap):j≤(cap:Int):=by omega
theorem Jm {t e:TypeId}{x:Operand}{lo hi:Option Operand}{h n o:Nat}{τ:Ty}{vl vh:Option (TV S)}{A:Type}{k:TV S→Option A}{r:A}(hx:ev s.er x=some (.aR h (S.sz τ) (o*S.sz τ) n))
  (hl:pF s lo=some vl) (hh:pF s hi=some vh) (hu:P.underlying t=some (.slice e)) (hz:kz P e=some (S.sz τ))
  (hk:yJ h τ o n vl vh k=some r):∃v,PY P s.er ⟨dst,.slice t x lo hi none,ty,pos,after,guard⟩ (v.er s.ln)∧k v=some r:=by
 letI:=jG S τ
 have opS:∀{o:Option Operand}{v:TV S},pF s o=some (some v)→∃y,o=some y∧cn s y=some v:=by
  intro o v h
  cases o with
  | none=>cases h
  | some y=>
   simp only[pF] at h
   split at h
   ·rename_i v' hv;cases h;exact⟨y,rfl,hv⟩
   ·cases h
 have opN:∀{o:Option Operand},pF s o=some none→o=none:=by
  intro o h
  cases o with
  | none=>rfl
  | some y=>
   simp only[pF] at h
   split at h <;> cases h
 have er:∀(i m:Nat),(TV.sub h τ (o+i) m:TV S).er s.ln=.aR h (S.sz τ) (o*S.sz τ+i*S.sz τ) m:=by
  intro i m;show G.aR h (S.sz τ) ((o+i)*S.sz τ) m=_;rw[dD]
 unfold yJ at hk
 split at hk
 ·obtain⟨u,hc,hk⟩:=bind_some hk
  obtain⟨y,rfl,hy⟩:=opS hl
  obtain⟨y',rfl,hy'⟩:=opS hh
  obtain⟨c1,c2,c3⟩:=cm hc
  refine⟨_,?_,hk⟩
  rw[er]
  intro N cx μ a w hr
  obtain⟨ad,cap,e1,e2,e3⟩:=aY.yJ (hr.ev hx) (Int.toNat_le_toNat c2) (Ky c3)
  refine⟨_,e3,fun w'=>?_⟩
  simp[execOp,e1,hr.val (jm hy),hr.val (jm hy'),GU (α:=S.D τ) (P:=P) hu (dA hz) ad n cap c1 c2 (M3 c3 e2) w']
  rfl
 ·obtain⟨u,hc,hk⟩:=bind_some hk
  obtain⟨y,rfl,hy⟩:=opS hl
  cases opN hh
  obtain⟨c1,c2⟩:=cm hc
  refine⟨_,?_,hk⟩
  rw[er]
  intro N cx μ a w hr
  obtain⟨ad,cap,e1,e2,e3⟩:=aY.yJ (i:=Int.toNat _) (j:=n) (hr.ev hx) (Ky c2) (az _)
  refine⟨_,e3,fun w'=>?_⟩
  simp[execOp,e1,hr.val (jm hy),Cv (α:=S.D τ) (P:=P) hu (dA hz) ad n cap c1 c2 w']
  rfl
 ·obtain⟨u,hc,hk⟩:=bind_some hk
  cases opN hl
  obtain⟨y,rfl,hy⟩:=opS hh
  obtain⟨c1,c2⟩:=cm hc
  refine⟨_,?_,hk⟩
  have:=er 0 (Int.toNat ‹_›)
  rw[dq] at this
  rw[this]
  intro N cx μ a w hr
  obtain⟨ad,cap,e1,e2,e3⟩:=aY.yJ (i:=0) (j:=Int.toNat _) (hr.ev hx) (hZ _) (Ky c2)
  refine⟨_,e3,fun w'=>?_⟩
  simp[execOp,e1,hr.val (jm hy),Cw (α:=S.D τ) (P:=P) hu (dA hz) ad n cap c1 (M3 c2 e2) w']
  rfl
 ·cases hk
 ·cases hk
theorem Qb {t:TypeId}{x:Operand}{lo hi:Option Operand}{vx:TV S}{vl vh:Option (TV S)}{A:Type}{k:TV S→Option A}{r:A}(hx:cn s x=some vx) (hl:pF s lo=some vl) (hh:pF s hi=some vh)
  (h:N0 s.ln t P vx vl vh k=some r):∃v,PY P s.er ⟨dst,.slice t x lo hi none,ty,pos,after,guard⟩ (v.er s.ln)∧k v=some r:=by
 have opS:∀{o:Option Operand}{v:TV S},pF s o=some (some v)→∃y,o=some y∧cn s y=some v:=by
  intro o v h
  cases o with
  | none=>cases h
  | some y=>
   simp only[pF] at h
   split at h
   ·rename_i v' hv;cases h;exact⟨y,rfl,hv⟩
   ·cases h
 have opN:∀{o:Option Operand},pF s o=some none→o=none:=by
  intro o h
  cases o with
  | none=>rfl
  | some y=>
   simp only[pF] at h
   split at h <;> cases h
 unfold N0 at h
 split at h
 ·rename_i e hu
  split at h
  ·rename_i f τ l
   split at h
   ·cases h
   ·rename_i hz _
    have e0:=bh hx
    rw[tF] at e0
    split at h
    ·obtain⟨u,hc,h⟩:=bind_some h
     obtain⟨y,rfl,hy⟩:=opS hl
     obtain⟨y',rfl,hy'⟩:=opS hh
     obtain⟨c1,c2,c3⟩:=cm hc
     refine⟨_,?_,h⟩
     rw[tF]
     letI:=jG S τ;exact PY.slice (α:=S.D τ) e0 (jm hy) (jm hy') hu (dA hz) c1 c2 c3
    ·obtain⟨u,hc,h⟩:=bind_some h
     obtain⟨y,rfl,hy⟩:=opS hl
     cases opN hh
     obtain⟨c1,c2⟩:=cm hc
     refine⟨_,?_,h⟩
     rw[tF]
     letI:=jG S τ;exact PY.Rj (α:=S.D τ) e0 (jm hy) hu (dA hz) c1 c2
    ·obtain⟨u,hc,h⟩:=bind_some h
     cases opN hl
     obtain⟨y,rfl,hy⟩:=opS hh
     obtain⟨c1,c2⟩:=cm hc
     refine⟨_,?_,h⟩
     rw[tF]
     letI:=jG S τ;exact PY.Rk (α:=S.D τ) e0 (jm hy) hu (dA hz) c1 c2
    ·cases h
  ·split at h
   ·cases h
   ·rename_i hz _
    refine Jm (n:=s.ln _) (o:=0) ?_ hl hh hu hz h
    rw[bh hx,ey];rfl
  ·split at h
   ·cases h
   ·rename_i hz _
    exact Jm (bh hx) hl hh hu hz h
  ·cases h
 ·rename_i hu
  split at h
  ·rename_i b
   have e0:=J6 hx
   split at h
   ·obtain⟨u,hc,h⟩:=bind_some h
    obtain⟨y,rfl,hy⟩:=opS hl
    obtain⟨y',rfl,hy'⟩:=opS hh
    obtain⟨c1,c2,c3⟩:=cm hc
    exact⟨_,PY.Ri e0 (jm hy) (jm hy') hu c1 c2 c3,h⟩
   ·obtain⟨u,hc,h⟩:=bind_some h
    obtain⟨y,rfl,hy⟩:=opS hl
    cases opN hh
    obtain⟨c1,c2⟩:=cm hc
    exact⟨_,PY.P9 e0 (jm hy) hu c1 c2,h⟩
   ·obtain⟨u,hc,h⟩:=bind_some h
    cases opN hl
    obtain⟨y,rfl,hy⟩:=opS hh
    obtain⟨c1,c2⟩:=cm hc
    exact⟨_,PY.Qa e0 (jm hy) hu c1 c2,h⟩
   ·cases h
  ·cases h
 ·cases h
end
end
end Go.DN
/-
 DN,part E:the operations that yield a value,put together.
-/
namespace Go.DN
open Go.AM
section
variable {S:eE}
def Ho:TV S→Bool
 | .any=>false
 | .val u=>u.oneCell'
 | _=>true
theorem qO {v:TV S}(h:Ho v=true) (ln:Nat→Nat):CY (v.er ln)=true:=by
 cases v with
 | ab f τ a=>cases τ with
  | st n=>rfl
  | _=>cases f <;> rfl
 | ptr f τ a=>cases f <;> rfl
 | fD b h τ i j=>cases b <;> rfl
 | any=>cases h
 | _=>rfl
theorem uR {v:TV S}(h:Ho v=true) (ln:Nat→Nat):cK (v.er ln)=TV.er.go ln (dO v):=Mc v ln fun u e=>by subst e;exact h
def FN (places:List (Nat×Nat)) (cells:List (TV S)):List (Nat×TV S)→Option (List (TV S))
 | []=>some cells
 | (i,v)::r=>match places[i]? with
  | some (off,size)=>match Ho v&&(Nat.beq (dO v).length size&&Nat.ble (off+size) cells.length) with
   | true=>FN places (setAt cells off (dO v)) r
   | false=>none
  | none=>none
theorem EJ {α β:Type}(f:α→β):∀(xs:List α) (off:Nat) (cs:List α),(setAt cs off xs).map f=setAt (cs.map f) off (xs.map f)
 | [],_,_=>rfl
 | x::r,off,cs=>by simp only[setAt,aJ,EJ f r,kE]
theorem Gx (ln:Nat→Nat) (places:List (Nat×Nat)):∀{parts:List (Nat×TV S)}{cells out:List (TV S)},FN places cells parts=some out→
  Am (places[·]?) (TV.er.go ln cells) (parts.map fun x=>(x.1,x.2.er ln))=some (TV.er.go ln out)
 | [],_,_,h=>by cases h;rfl
 | (i,v)::r,cells,out,h=>by
  simp only[FN] at h
  split at h
  ·rename_i off size hp
   split at h
   ·rename_i hc
    simp only[aj] at hc
    obtain⟨h1,h2,h3⟩:=hc
    have h4:=qO h1 ln
    have h5:=uR h1 ln
    have ih:=Gx ln places h
    simp only[aJ,Am,hp]
    have h6:(cK (v.er ln)).length=(dO v).length:=by rw[h5,cU,aW]
    have h7:(TV.er.go ln cells).length=cells.length:=by rw[cU,aW]
    rw[h4,h6,h7,h2,h3,h5]
    simp only[fK]
    have h8:setAt (TV.er.go ln cells) off (TV.er.go ln (dO v))=TV.er.go ln (setAt cells off (dO v)):=by
     simp only[cU,EJ]
    rw[h8]
    exact ih
   ·cases h
  ·cases h
def Kz (s:ah S):List (Nat×Operand)→Option (List (Nat×TV S))
 | []=>some []
 | (i,x)::r=>match cn s x with
  | some v=>match Kz s r with
   | some vs=>some ((i,v)::vs)
   | none=>none
  | none=>none
theorem Jh {s:ah S}:∀{l:List (Nat×Operand)}{vs:List (Nat×TV S)},Kz s l=some vs→Io s.er l=some (vs.map fun x=>(x.1,x.2.er s.ln))
 | [],_,h=>by cases h;rfl
 | (i,x)::r,vs,h=>by
  simp only[Kz] at h
  split at h
  ·rename_i v hv
   split at h
   ·rename_i vs' hr
    cases h
    simp only[Io,bh hv,Jh hr,aJ]
   ·cases h
  ·cases h
def ss (s:ah S):List Operand→Option (List (TV S))
 | []=>some []
 | x::r=>match cn s x with
  | some v=>match ss s r with
   | some vs=>some (v::vs)
   | none=>none
  | none=>none
theorem k5 {s:ah S}:∀{l:List Operand}{vs:List (TV S)},ss s l=some vs→l.map (ev s.er)=(TV.er.go s.ln vs).map some∧uf s.er l=some (TV.er.go s.ln vs)
 | [],_,h=>by cases h;exact⟨rfl,rfl⟩
 | x::r,vs,h=>by
  simp only[ss] at h
  split at h
  ·rename_i v hv
   split at h
   ·rename_i vs' hr
    cases h
    obtain⟨i1,i2⟩:=k5 hr
    exact⟨by simp only[aJ,TV.er.go,bh hv,i1],by simp only[TV.er.go,uf,bh hv,i2]⟩
   ·cases h
  ·cases h
def Lg (s:ah S):TV S→Option Int
 | .ab _ (.list _) l=>some (List.length l:Int)
 | .aR h _=>match aw s.bi h with
  | some (.aV _ _ _ _ l)=>some (List.length l:Int)
  | some (.deep _ _ _ _ τ a)=>some (sq τ a:Int)
  | _=>none
 | .ks _ _ _ n=>some (n:Int)
 | .sub _ _ _ n=>some (n:Int)
 | .val (.slice none 0 0)=>some 0
 | _=>none
def Hu (P:Program) (t:TypeId) (v:TV S) (y:Operand):Option Bool:=
 match y with
 | .const (.pointer none)=>match P.underlying t with
  | some (.pointer _)=>match v with
   | .kp _ _ _ _=>some false
   | .fD b _ _ _ _=>some b
   | .val (.pointer none)=>some true
   | .loc _ _=>some false
   | _=>none
  | _=>none
 | _=>none
theorem MM {P:Program}{t:TypeId}{v:TV S}{y:Operand}{b:Bool}(h:Hu P t v y=some b) (ln:Nat→Nat):y=.const (.pointer none)∧(∃e,P.underlying t=some (.pointer e))∧tQ (v.er ln)=some b:=by
 unfold Hu at h
 split at h
 ·split at h
  ·rename_i e hu
   refine⟨rfl,⟨e,hu⟩,?_⟩
   split at h
   ·cases h;rfl
   ·cases h;cases b <;> rfl
   ·cases h;rfl
   ·cases h;rfl
   ·cases h
  ·cases h
 ·cases h
def QC (s:ah S) (x:Operand):Option Operand→Option Operand→Bool
 | some _,some _=>match cn s x with
  | some (.sub h _ _ _)=>match aw s.bi h with
   | some (.aV _ _ _ _ _)=>true
   | _=>false
  | _=>false
 | _,_=>false
def N3 (P:Program) (s:ah S) (t:TypeId) (x:Operand) (lo hi:Option Operand){A:Type}(k:TV S→Option A):Option A:=
 match lo,hi with
 | some lo,some hi=>match P.underlying t with
  | some (.slice e)=>match cn s x with
   | some (.sub h τ o n)=>match aw s.bi h with
    | some (.aV _ _ _ τ' l)=>match decEq τ' τ with
     | isTrue _=>match decEq (kz P e) (some (S.sz τ')) with
      | isTrue _=>match cn s lo with
       | some (.ab _ (.int _) i)=>match cn s hi with
        | some (.ab _ (.int _) j)=>(bo (0≤i∧i≤j∧o+Int.toNat j≤List.length l)).bind fun _=>k (.sub h τ (o+Int.toNat i) (Int.toNat j-Int.toNat i))
        | _=>none
       | _=>none
      | isFalse _=>none
     | isFalse _=>none
    | _=>none
   | _=>none
  | _=>none
 | _,_=>none
def Rh (s:ah S):TV S→Option Nat
 | .aR h _=>some (s.ln h)
 | .sub _ _ _ n=>some n
 | _=>none
def N4 (P:Program) (s:ah S) (t:TypeId) (x lo hi mx:Operand){A:Type}(k:TV S→Option A):Option A:=
 match P.underlying t with
 | some (.slice e)=>match kz P e with
  | some _=>match cn s x with
   | some vx=>match Rh s vx with
    | some n=>match cn s lo with
     | some (.ab _ (.int _) i)=>match cn s hi with
      | some (.ab _ (.int _) j)=>match cn s mx with
       | some (.ab _ (.int _) m)=>(bo (0≤i∧i≤j∧j≤m∧m≤(n:Int))).bind fun _=>k .any
       | _=>none
      | _=>none
     | _=>none
    | none=>none
   | none=>none
  | none=>none
 | _=>none
def MH (P:Program) (s:ah S) (op:Op){A:Type}(k:TV S→Option (br S.α)→Option A):Option A:=
 match op with
 | .move x=>match cn s x with
  | some v=>k v none
  | none=>none
 | .assign x=>match cn s x with
  | some v=>k v none
  | none=>none
 | .pick c x y=>match cn s c with
  | some (.ab _ .bool b)=>match b with
   | true=>match cn s x with
    | some v=>k v none
    | none=>none
   | false=>match cn s y with
    | some v=>k v none
    | none=>none
  | _=>none
 | .binOp op t x y _=>match cn s x with
  | some vx=>match Hu P t vx y with
   | some b=>match op with
    | .eql=>k (.ab true .bool b) none
    | .neq=>k (.ab true .bool (!b)) none
    | _=>none
   | none=>match cn s y with
    | some vy=>Pn P op t vx vy fun v=>k v none
    | none=>none
  | none=>none
 | .unOp op _ x=>match op with
  | .not=>match cn s x with
   | some (.ab _ .bool b)=>k (.ab true .bool (!b)) none
   | _=>none
  | .neg=>match cn s x with
   | some (.ab _ (.int ki) a)=>k (.ab true (.int ki) (ki.wrap (0-a))) none
   | _=>none
  | _=>none
 | .convert t t' x=>match P.underlying t with
  | some _=>match P.underlying t' with
   | some (.int ki)=>match cn s x with
    | some (.ab _ (.int _) a)=>k (.ab true (.int ki) (ki.wrap a)) none
    | _=>none
   | some .string=>match cn s x with
    | some (.ab _ .str a)=>k (.ab true .str a) none
    | _=>none
   | _=>none
  | none=>none
 | .extract x i=>match cn s x with
  | some (.bl l)=>match l[i]? with
   | some v=>k v none
   | none=>none
  | _=>none
 | .field t x i=>match cn s x with
  | some vx=>match OX P t i vx with
   | some v=>k v none
   | none=>none
  | none=>none
 | .fieldAddr t x i=>match cn s x with
  | some vx=>match OY P t i vx with
   | some v=>k v none
   | none=>none
  | none=>none
 | .indexAddr t x y=>match P.underlying t with
  | some (.slice e)=>match cn s y with
   | some (.ab _ (.int _) i)=>match cn s x with
    | some (.ab f (.list τ) l)=>match decEq (kz P e) (some (S.sz τ)) with
     | isTrue _=>(idx l i).bind fun a=>k (.ptr f τ a) none
     | isFalse _=>none
    | some (.aR h τ)=>match decEq (kz P e) (some (S.sz τ)) with
     | isTrue _=>match aw s.bi h with
      | some (.aV _ _ _ τ' l)=>match decEq τ' τ with
       | isTrue _=>(idx l i).bind fun a=>k (.gK h τ i.toNat 0) (some ⟨τ',a⟩)
       | isFalse _=>none
      | some (.deep _ _ _ _ τ' a)=>(bo (0≤i∧i<(sq τ' a:Int))).bind fun _=>k (.gK h τ i.toNat 0) none
      | _=>none
     | isFalse _=>none
    | some (.sub h τ o n)=>match decEq (kz P e) (some (S.sz τ)) with
     | isTrue _=>match aw s.bi h with
      | some (.aV _ _ _ τ' l)=>match decEq τ' τ with
       | isTrue _=>(bo (0≤i∧i<(n:Int))).bind fun _=>(l[o+i.toNat]?).bind fun a=>k (.gK h τ (o+i.toNat) 0) (some ⟨τ',a⟩)
       | isFalse _=>none
      | some (.box _ _ _)=>(bo (0≤i∧i<(n:Int))).bind fun _=>k (.gK h τ (o+i.toNat) 0) none
      | _=>none
     | isFalse _=>none
    | some (.ks h τ j n)=>match decEq (kz P e) (some (S.sz τ)) with
     | isTrue _=>(bo (0≤i∧i<(n:Int))).bind fun _=>k (.kp h τ j i.toNat) none
     | isFalse _=>none
    | _=>none
   | _=>none
  | some (.array n e)=>match cn s y with
   | some (.ab _ (.int _) i)=>match cn s x with
    | some (.loc h off)=>match P.underlying e with
     | some (.int ki)=>match decEq (kz P e) (some 1) with
      | isTrue _=>(bo (0≤i∧i<(n:Int))).bind fun _=>k (.gK h (.int ki) i.toNat off) none
      | isFalse _=>none
     | _=>none
    | _=>none
   | _=>none
  | _=>none
 | .index t x y=>match P.underlying t with
  | some .string=>match cn s x with
   | some (.ab _ .str b)=>match cn s y with
    | some (.ab _ (.int _) i)=>(Po b i).bind fun c=>k (.ab true (.int .u8) (c.toNat:Int)) none
    | _=>none
   | _=>none
  | _=>none
 | .slice t x lo hi none=>match QC s x lo hi with
  | true=>N3 P s t x lo hi fun v=>k v none
  | false=>match cn s x with
   | some vx=>match pF s lo with
    | some vl=>match pF s hi with
     | some vh=>N0 s.ln t P vx vl vh fun v=>k v none
     | none=>none
    | none=>none
   | none=>none
 | .slice t x (some lo) (some hi) (some mx)=>N4 P s t x lo hi mx fun v=>k v none
 | .makeFunc (.func f) first caps=>match first.toList with
  | []=>match ss s caps.toList with
   | some vs=>k (.aF f vs) none
   | none=>none
  | _=>none
 | .nilCheck x=>match cn s x with
  | some v=>match v with
   | .loc _ _=>k v none
   | .gK _ _ _ _=>k v none
   | .ptr _ _ _=>k v none
   | .aF _ _=>k v none
   | .kp _ _ _ _=>k v none
   | .fD b h τ i j=>(bo (b=false)).bind fun _=>k (.kp h τ i j) none
   | _=>none
  | none=>none
 | .call c=>match c.callee with
  | .builtin .len=>match c.args.toList,c.argTypes.toList with
   | [x],[t]=>match P.underlying t with
    | some (.slice _)=>match cn s x with
     | some v=>match Lg s v with
      | some n=>k (.ab true (.int .i64) n) none
      | none=>none
     | none=>none
    | some .string=>match cn s x with
     | some (.ab _ .str b)=>k (.ab true (.int .i64) (b.size:Int)) none
     | _=>none
    | _=>none
   | _,_=>none
  | .builtin .min=>match c.args.toList with
   | [x,y]=>match cn s x,cn s y with
    | some (.ab _ (.int ki) a),some (.ab _ (.int _) b)=>k (.ab true (.int ki) (if b<a then b else a)) none
    | _,_=>none
   | _=>none
  | .builtin .max=>match c.args.toList with
   | [x,y]=>match cn s x,cn s y with
    | some (.ab _ (.int ki) a),some (.ab _ (.int _) b)=>k (.ab true (.int ki) (if b>a then b else a)) none
    | _,_=>none
   | _=>none
  | _=>none
 | .build t parts=>match P.underlying t with
  | some (.struct fs)=>match (P.info? t).bind (·.zero) with
   | some z=>match fs.toList.mapM (fun f=>(P.info? f.type).map fun i=>(f.offset,i.size)) with
    | some places=>match Kz s parts.toList with
     | some vs=>match FN places (z.cells.toList.map uJ) vs with
      | some out=>k (.agg out) none
      | none=>none
     | none=>none
    | none=>none
   | none=>none
  | _=>none
 | _=>none
def NO (s:ah S) (v:TV S):Option (br S.α)→Prop
 | none=>True
 | some x=>∃h i bP m f τ l a,v=.gK h τ i 0∧aw s.bi h=some (.aV bP m f τ l)∧x=⟨τ,a⟩∧l[i]?=some a
def ah.Bh (s:ah S) (d:Nat) (v:TV S):Option (br S.α)→ah S
 | none=>s.put d v
 | some x=>match v with
  | .gK h _ _ _=>{s with fr:=(d,v)::s.fr,last:=(d,h,x)::G1 d s.last}
  | _=>s.put d v
theorem DT (s:ah S) (d:Nat) (v:TV S) (x:Option (br S.α)):(s.Bh d v x).er=s.er.put d (v.er s.ln):=by
 cases x with
 | none=>rfl
 | some x=>cases v <;> rfl
theorem rV (s:ah S) (d:Nat) (v:TV S) (x:Option (br S.α)):bF s (s.Bh d v x):=by
 cases x with
 | none=>exact⟨rfl,rfl,rfl⟩
 | some x=>cases v <;> exact⟨rfl,rfl,rfl⟩
theorem DS {s:ah S}(hl:a5 s) (d:Nat){v:TV S}{x:Option (br S.α)}(h:NO s v x):a5 (s.Bh d v x):=by
 cases x with
 | none=>exact hl.put d v
 | some x=>
  obtain⟨hh,i,bP,m,f,τ,l,a,e1,e2,e3,e4⟩:=h
  subst e1
  intro d' h' x' hm
  rcases aZ.1 hm with e | hm
  ·cases e
   exact⟨i,bP,m,f,τ,l,a,by simp only[ah.Bh,ah.bZ,bx,bg,aI,cond_true],e2,e3,e4⟩
  ·obtain⟨i',ety',m',f',τ',l',a',q1,q2⟩:=hl.put d (.gK hh τ i 0) d' h' x' hm
   exact⟨i',ety',m',f',τ',l',a',q1,q2⟩
section
variable {P:Program}{s:ah S}{dst:Option Tmp}{ty:TypeId}{pos:String}{after:Array Edge}{guard:Option (Nat×Bool)}
theorem mf {h:Nat}{e:TypeId}{m f:Bool}{τ:Ty}{l:List (S.D τ)}(ho:aw s.bi h=some (.aV e m f τ l)):s.ln h=l.length:=by
 unfold ah.ln b6
 rw[ho];rfl
theorem JL {h:Nat}{e:TypeId}{m f:Bool}{dk:Dk}{τ:Ty}{a:S.D τ}(ho:aw s.bi h=some (.deep e m f dk τ a)):s.ln h=sq τ a:=by
 unfold ah.ln b6
 rw[ho];rfl
theorem D5 {v:TV S}{n:Int}(h:Lg s v=some n):Lh (v.er s.ln)=some n:=by
 unfold Lg at h
 split at h
 ·rename_i f τ l
  cases h
  cases f <;> rfl
 ·split at h
  ·rename_i ho
   cases h
   show some ((s.ln _:Nat):Int)=_
   rw[mf ho]
  ·rename_i ho
   cases h
   show some ((s.ln _:Nat):Int)=_
   rw[JL ho]
  ·cases h
 ·cases h;rfl
 ·cases h;rfl
 ·cases h;rfl
 ·cases h
theorem zV {α:Type}{a:Array α}{x:α}(h:a.toList=[x]):a=#[x]:=by cases a;simp at h;subst h;rfl
theorem mn {α:Type}{a:Array α}{x y:α}(h:a.toList=[x,y]):a=#[x,y]:=by cases a;simp at h;subst h;rfl
theorem Jg {α:Type}{a:Array α}(h:a.toList=[]):a=#[]:=by cases a;simp at h;subst h;rfl
theorem Nr {τ:Ty}{l:List (S.D τ)}{i:Int}{a:S.D τ}(h:idx l i=some a):((List.flatMap (aN S τ) l).drop (i.toNat*S.sz τ)).take (S.sz τ)=aN S τ a:=
 @BS _ (jG S τ) _ _ _ h
theorem QG {t e:TypeId}{x y:Operand}{f:Bool}{τ:Ty}{l:List (S.D τ)}{ki:IntKind}{fi:Bool}{i:Int}{a:S.D τ}(hx:cn s x=some (.ab f (.list τ) l)) (hy:cn s y=some (.ab fi (.int ki) i))
  (hu:P.underlying t=some (.slice e)) (hz:kz P e=some (S.sz τ)) (ha:idx l i=some a):
  PY P s.er ⟨dst,.indexAddr t x y,ty,pos,after,guard⟩ ((TV.ptr f τ a:TV S).er s.ln):=by
 obtain⟨h0,h1,h2⟩:=tZ ha
 have e0:=bh hx
 rw[Dc,←Nr ha]
 refine PY.rw (PY.index (g':=DU f ((List.flatMap (aN S τ) l).drop (i.toNat*S.sz τ))) (n:=l.length) e0 (jm hy) ?_ h0 h1 hu (dA hz)) (RW.tP _ _ _)
 cases f <;> rfl
theorem Qc {t:TypeId}{x:Operand}{lo hi:Option Operand}{A:Type}{k:TV S→Option A}{r:A}(h:N3 P s t x lo hi k=some r):
  ∃v,PY P s.er ⟨dst,.slice t x lo hi none,ty,pos,after,guard⟩ (v.er s.ln)∧k v=some r:=by
 unfold N3 at h
 split at h
 ·split at h
  ·rename_i hu
   split at h
   ·rename_i hx
    split at h
    ·rename_i ho
     split at h
     ·rename_i e1 _
      subst e1
      split at h
      ·rename_i hz _
       split at h
       ·rename_i hlo
        split at h
        ·rename_i hhi
         obtain⟨u,hc,h⟩:=bind_some h
         obtain⟨c1,c2,c3⟩:=cm hc
         refine⟨_,?_,h⟩
         have a1:=jm hlo
         have a2:=jm hhi
         rw[←od c1] at a1
         rw[←od (Int.le_trans c1 c2)] at a2
         have:=PY.sliceB (dst:=dst) (ty:=ty) (pos:=pos) (after:=after) (guard:=guard) (P:=P) (bh hx) (fM ho) rfl a1 a2 hu (dA hz) (@aL.pos _ (jG S _)) (Int.toNat_le_toNat c2) (by
          show _≤(List.flatMap (aN S _) _).length
          rw[show ∀l,(List.flatMap (aN S _) l).length=l.length*S.sz _ from @eT _ (jG S _),←dD]
          exact b7 _ c3)
         rw[←dD] at this
         exact this
        ·cases h
       ·cases h
      ·cases h
     ·cases h
    ·cases h
   ·cases h
  ·cases h
 ·cases h
theorem Qd {t:TypeId}{x lo hi mx:Operand}{A:Type}{k:TV S→Option A}{r:A}(h:N4 P s t x lo hi mx k=some r):
  ∃v,PY P s.er ⟨dst,.slice t x (some lo) (some hi) (some mx),ty,pos,after,guard⟩ (v.er s.ln)∧k v=some r:=by
 unfold N4 at h
 split at h
 ·rename_i hu
  split at h
  ·rename_i hz
   split at h
   ·rename_i vx hx
    split at h
    ·rename_i n hn
     split at h
     ·rename_i hlo
      split at h
      ·rename_i hhi
       split at h
       ·rename_i hmx
        obtain⟨u,hc,h⟩:=bind_some h
        obtain⟨c1,c2,c3,c4⟩:=cm hc
        refine⟨_,?_,h⟩
        have key:∃h' sz off,ev s.er x=some (.aR h' sz off n):=by
         unfold Rh at hn
         split at hn
         ·cases hn;exact⟨_,_,_,bh hx⟩
         ·cases hn;exact⟨_,_,_,bh hx⟩
         ·cases hn
        obtain⟨h',sz,off,hx'⟩:=key
        exact PY.slice3 hx' (jm hlo) (jm hhi) (jm hmx) hu (dA hz) c1 c2 c3 c4
       ·cases h
      ·cases h
     ·cases h
    ·cases h
   ·cases h
  ·cases h
 ·cases h
theorem Ha {op:Op}{A:Type}{k:TV S→Option (br S.α)→Option A}{r:A}(h:MH P s op k=some r):
  ∃v x,PY P s.er ⟨dst,op,ty,pos,after,guard⟩ (v.er s.ln)∧NO s v x∧k v x=some r:=by
 unfold MH at h
 split at h
 ·split at h
  ·rename_i hv
   exact⟨_,none,PY.move (bh hv),trivial,h⟩
  ·cases h
 ·split at h
  ·rename_i hv
   exact⟨_,none,PY.assign (bh hv),trivial,h⟩
  ·cases h
 ·split at h
  ·rename_i hc
   split at h
   ·split at h
    ·rename_i hv
     exact⟨_,none,PY.Sy (Ip hc) (bh hv),trivial,h⟩
    ·cases h
   ·split at h
    ·rename_i hv
     exact⟨_,none,PY.Sz (Ip hc) (bh hv),trivial,h⟩
    ·cases h
  ·cases h
 ·split at h
  ·rename_i hx
   split at h
   ·rename_i b hb
    obtain⟨e1,⟨e,hu⟩,e2⟩:=MM hb s.ln
    subst e1
    split at h
    ·exact⟨_,none,PY.ptrEq (bh hx) e2 hu,trivial,h⟩
    ·exact⟨_,none,PY.Sx (bh hx) e2 hu,trivial,h⟩
    ·cases h
   split at h
   ·rename_i hy
    obtain⟨v,h1,h2⟩:=Q5 (dst:=dst) (ty:=ty) (pos:=pos) (after:=after) (guard:=guard) hx hy h
    exact⟨v,none,h1,trivial,h2⟩
   ·cases h
  ·cases h
 ·split at h
  ·split at h
   ·rename_i hx
    exact⟨_,none,PY.un (Ip hx) rfl,trivial,h⟩
   ·cases h
  ·split at h
   ·rename_i hx
    exact⟨_,none,PY.un (jm hx) rfl,trivial,h⟩
   ·cases h
  ·cases h
 ·split at h
  ·rename_i hu
   split at h
   ·rename_i hu'
    split at h
    ·rename_i hx
     exact⟨_,none,PY.conv (jm hx) hu hu',trivial,h⟩
    ·cases h
   ·rename_i hu'
    split at h
    ·rename_i hx
     exact⟨_,none,PY.SI (J6 hx) hu hu',trivial,h⟩
    ·cases h
   ·cases h
  ·cases h
 ·split at h
  ·rename_i l hx
   split at h
   ·rename_i v hv
    refine⟨v,none,PY.extract (bh hx) ?_,trivial,h⟩
    rw[cU,ay,hv];rfl
   ·cases h
  ·cases h
 ·split at h
  ·rename_i hx
   split at h
   ·rename_i hv
    exact⟨_,none,QO hx hv,trivial,h⟩
   ·cases h
  ·cases h
 ·split at h
  ·rename_i hx
   split at h
   ·rename_i hv
    exact⟨_,none,QP hx hv,trivial,h⟩
   ·cases h
  ·cases h
 ·split at h
  ·rename_i hu
   split at h
   ·rename_i hy
    split at h
    ·rename_i hx
     split at h
     ·rename_i hz _
      obtain⟨a,ha,h⟩:=bind_some h
      exact⟨_,none,QG hx hy hu hz ha,trivial,h⟩
     ·cases h
    ·rename_i hh τ hx
     split at h
     ·rename_i hz _
      split at h
      ·rename_i e m f τ' l ho
       split at h
       ·rename_i e' _
        subst e'
        obtain⟨a,ha,h⟩:=bind_some h
        obtain⟨h0,h1,h2⟩:=tZ ha
        refine⟨_,some ⟨τ',a⟩,?_,⟨hh,_,e,m,f,τ',l,a,rfl,ho,rfl,h2⟩,h⟩
        refine PY.index (n:=s.ln hh) (bh hx) (jm hy) ?_ h0 (by rw[mf ho];exact h1) hu (dA hz)
        show(if S.sz τ'=S.sz τ' then _ else _)=_
        rw[if_pos rfl,bT];rfl
       ·cases h
      ·rename_i e m f dk τ' a ho
       obtain⟨u,hc,h⟩:=bind_some h
       obtain⟨c1,c2⟩:=cm hc
       refine⟨_,none,?_,trivial,h⟩
       refine PY.index (n:=s.ln hh) (bh hx) (jm hy) ?_ c1 (by rw[JL ho];exact c2) hu (dA hz)
       show(if S.sz τ=S.sz τ then _ else _)=_
       rw[if_pos rfl,bT];rfl
      ·cases h
     ·cases h
    ·rename_i hh τ o n hx
     split at h
     ·rename_i hz _
      split at h
      ·rename_i e m f τ' l ho
       split at h
       ·rename_i e' _
        subst e'
        obtain⟨u,hc,h⟩:=bind_some h
        obtain⟨c1,c2⟩:=cm hc
        obtain⟨a,ha,h⟩:=bind_some h
        refine⟨_,some ⟨τ',a⟩,?_,⟨hh,_,e,m,f,τ',l,a,rfl,ho,rfl,ha⟩,h⟩
        refine PY.index (n:=n) (bh hx) (jm hy) ?_ c1 c2 hu (dA hz)
        show(if S.sz τ'=S.sz τ' then _ else _)=_
        rw[if_pos rfl]
        show _=some (G.loc hh ((o+_)*S.sz τ'+0),n)
        rw[dD,dq]
       ·cases h
      ·obtain⟨u,hc,h⟩:=bind_some h
       obtain⟨c1,c2⟩:=cm hc
       refine⟨_,none,?_,trivial,h⟩
       refine PY.index (n:=n) (bh hx) (jm hy) ?_ c1 c2 hu (dA hz)
       show(if S.sz τ=S.sz τ then _ else _)=_
       rw[if_pos rfl]
       show _=some (G.loc hh ((o+_)*S.sz τ+0),n)
       rw[dD,dq]
      ·cases h
     ·cases h
    ·rename_i hh τ j n hx
     split at h
     ·rename_i hz _
      obtain⟨u,hc,h⟩:=bind_some h
      obtain⟨c1,c2⟩:=cm hc
      refine⟨_,none,?_,trivial,h⟩
      refine PY.index (n:=n) (bh hx) (jm hy) ?_ c1 c2 hu (dA hz)
      show(if S.sz τ=S.sz τ then _ else _)=_
      rw[if_pos rfl,bT];rfl
     ·cases h
    ·cases h
   ·cases h
  ·rename_i n e hu
   split at h
   ·rename_i hy
    split at h
    ·rename_i hh off hx
     split at h
     ·rename_i ki hki
      split at h
      ·rename_i hz _
       obtain⟨u,hc,h⟩:=bind_some h
       obtain⟨c1,c2⟩:=cm hc
       refine⟨_,none,?_,trivial,h⟩
       have:=PY.OM (P:=P) (dst:=dst) (ty:=ty) (pos:=pos) (after:=after) (guard:=guard) (bh hx) (jm hy) c1 c2 hu (dA hz)
       simpa[TV.er,eE.sz] using this
      ·cases h
     ·cases h
    ·cases h
   ·cases h
  ·cases h
 ·split at h
  ·rename_i hu
   split at h
   ·rename_i hx
    split at h
    ·rename_i hy
     obtain⟨c,hc,h⟩:=bind_some h
     obtain⟨h0,h1⟩:=NH hc
     exact⟨_,none,PY.NY (J6 hx) (jm hy) h0 h1 hu,trivial,h⟩
    ·cases h
   ·cases h
  ·cases h
 ·split at h
  ·obtain⟨v,h1,h2⟩:=Qc (dst:=dst) (ty:=ty) (pos:=pos) (after:=after) (guard:=guard) h
   exact⟨v,none,h1,trivial,h2⟩
  ·split at h
   ·rename_i hx
    split at h
    ·rename_i hl
     split at h
     ·rename_i hh
      obtain⟨v,h1,h2⟩:=Qb (dst:=dst) (ty:=ty) (pos:=pos) (after:=after) (guard:=guard) hx hl hh h
      exact⟨v,none,h1,trivial,h2⟩
     ·cases h
    ·cases h
   ·cases h
 ·obtain⟨v,h1,h2⟩:=Qd (dst:=dst) (ty:=ty) (pos:=pos) (after:=after) (guard:=guard) h
  exact⟨v,none,h1,trivial,h2⟩
 ·split at h
  ·rename_i hf
   have:=Jg hf
   subst this
   split at h
   ·rename_i vs hv
    exact⟨_,none,PY.makeFunc (k5 hv).1,trivial,h⟩
   ·cases h
  ·cases h
 ·split at h
  ·rename_i v hx
   split at h
   ·exact⟨_,none,PY.nilCheck (bh hx) rfl,trivial,h⟩
   ·exact⟨_,none,PY.nilCheck (bh hx) rfl,trivial,h⟩
   ·rename_i f τ a
    exact⟨_,none,PY.nilCheck (bh hx) (by cases f <;> rfl),trivial,h⟩
   ·exact⟨_,none,PY.nilCheck (bh hx) rfl,trivial,h⟩
   ·exact⟨_,none,PY.EV (bh hx),trivial,h⟩
   ·rename_i b hh τ i j
    obtain⟨u,hc,h⟩:=bind_some h
    obtain rfl:=cm hc
    exact⟨_,none,PY.EV (bh hx),trivial,h⟩
   ·cases h
  ·cases h
 ·rename_i c
  obtain⟨cal,args,ats⟩:=c
  dsimp only at h
  split at h
  ·split at h
   ·rename_i h1 h2
    have h1:=zV h1
    have h2:=zV h2
    subst h1;subst h2
    split at h
    ·rename_i hu
     split at h
     ·rename_i hx
      split at h
      ·rename_i hn
       exact⟨_,none,PY.len (bh hx) (D5 hn) hu,trivial,h⟩
      ·cases h
     ·cases h
    ·rename_i hu
     split at h
     ·rename_i hx
      exact⟨_,none,PY.Tc (J6 hx) hu,trivial,h⟩
     ·cases h
    ·cases h
   ·cases h
  ·split at h
   ·rename_i h1
    have h1:=mn h1
    subst h1
    split at h
    ·rename_i hx hy
     exact⟨_,none,PY.min2 (jm hx) (jm hy),trivial,h⟩
    ·cases h
   ·cases h
  ·split at h
   ·rename_i h1
    have h1:=mn h1
    subst h1
    split at h
    ·rename_i hx hy
     exact⟨_,none,PY.max2 (jm hx) (jm hy),trivial,h⟩
    ·cases h
   ·cases h
  ·cases h
 ·split at h
  ·rename_i hu
   split at h
   ·rename_i z hz
    split at h
    ·rename_i places hp
     split at h
     ·rename_i vs hv
      split at h
      ·rename_i out ho
       refine⟨.agg out,none,PY.build (z:=z) hu ?_ hp (Jh hv) ?_,trivial,h⟩
       ·cases hq:P.info? _ with
        | none=>rw[hq] at hz;cases hz
        | some iq=>rw[hq] at hz;exact congrArg some hz
       ·have:=Gx s.ln places ho
        rw[cU] at this
        rw[←this]
        congr 1
        rw[fR]
        exact eB fun v _=>(Gm _ v).symm
      ·cases h
     ·cases h
    ·cases h
   ·cases h
  ·cases h
 ·cases h
end
end
end Go.DN
/-
 DN,part F:loads.
-/
namespace Go.DN
open Go.AM
section
variable {S:eE}
def Ld (x:Operand) (h:Nat):List (Nat×Nat×br S.α)→Option (br S.α)
 | []=>none
 | (d,h',y)::r=>match x with
  | .tmp t=>bif Nat.beq d t&&Nat.beq h' h then some y else Ld x h r
  | _=>none
theorem HJ {x:Operand}{h:Nat}{y:br S.α}:∀{l:List (Nat×Nat×br S.α)},Ld x h l=some y→∃t,x=.tmp t∧(t,h,y)∈l
 | [],e=>by cases e
 | (d,h',y')::r,e=>by
  simp only[Ld] at e
  split at e
  ·rename_i t
   cases hb:(Nat.beq d t&&Nat.beq h' h) with
   | true=>
    rw[hb] at e
    cases e
    simp only[aj] at hb
    obtain⟨h1,h2⟩:=hb
    have h1:=aa h1
    have h2:=aa h2
    subst h1;subst h2
    exact⟨_,rfl,au⟩
   | false=>
    rw[hb] at e
    obtain⟨t',h1,h2⟩:=HJ e
    exact⟨t',h1,ao _ h2⟩
  ·cases e
def De (s:ah S) (x:Operand) (h:Nat){τ:Ty}(l:List (S.D τ)) (i:Nat){A:Type}(k:br S.α→Option A):Option A:=
 match Ld x h s.last with
 | some y=>k y
 | none=>(l[i]?).bind fun a=>k ⟨τ,a⟩
def Ee {A:Type}:(τ:Ty)→S.D τ→Ty→Nat→(Ty→Nat→Option A)→Option A
 | .list (.list t),ll,τ,i,k=>match decEq τ (.list t) with
  | isTrue _=>(ll[i]?).bind fun r=>k t (List.length r)
  | isFalse _=>none
 | _,_,_,_,_=>none
theorem Lx {A:Type}{r0:A}:∀{τ':Ty}{a:S.D τ'}{τ:Ty}{i:Nat}{k:Ty→Nat→Option A},Ee τ' a τ i k=some r0→
  ∃t n gs,τ=.list t∧(dH τ' a).1=S.sz t∧(dH τ' a).2[i]?=some (n,gs)∧k t n=some r0
 | .list (.list t),ll,τ,i,k,h=>by
  simp only[Ee] at h
  split at h
  ·rename_i e _
   obtain⟨r,h1,h2⟩:=bind_some h
   exact⟨t,List.length r,_,e,rfl,by show(List.map _ ll)[i]?=_;rw[ay,h1];rfl,h2⟩
  ·cases h
 | .list (.int _),_,_,_,_,h=>by cases h
 | .list .bool,_,_,_,_,h=>by cases h
 | .list .str,_,_,_,_,h=>by cases h
 | .list (.st _),_,_,_,_,h=>by cases h
 | .int _,_,_,_,_,h=>by cases h
 | .bool,_,_,_,_,h=>by cases h
 | .str,_,_,_,_,h=>by cases h
 | .st _,_,_,_,_,h=>by cases h
 | .map,_,_,_,_,h=>by cases h
 | .list .map,_,_,_,_,h=>by cases h
def BQ {A:Type}:(τ:Ty)→S.D τ→Ty→Nat→Nat→(TV S→Option A)→Option A
 | .list (.list t),ll,τ,i,j,k=>match t.fZ with
  | true=>match decEq τ t with
   | isTrue _=>(ll[i]?).bind fun r=>(r[j]?).bind fun x=>k (.ab true t x)
   | isFalse _=>none
  | false=>none
 | _,_,_,_,_,_=>none
theorem Jd {A:Type}{r0:A}:∀{τ':Ty}{a:S.D τ'}{τ:Ty}{i j:Nat}{k:TV S→Option A},BQ τ' a τ i j k=some r0→
  ∃(t:Ty) (x:S.D t) (n:Nat) (gs:List G),τ=t∧t.fZ=true∧(dH τ' a).2[i]?=some (n,gs)∧gs[j*S.sz t]?=some (dC S t x)∧k (.ab true t x)=some r0
 | .list (.list t),ll,τ,i,j,k,h=>by
  simp only[BQ] at h
  split at h
  ·rename_i hs
   split at h
   ·rename_i e _
    obtain⟨r,h1,h⟩:=bind_some h
    obtain⟨x,h2,h⟩:=bind_some h
    have hst:t.fP=false:=by cases t <;> first | rfl | cases hs
    refine⟨t,x,List.length r,List.flatMap (aN S t) r,e,hs,by show(List.map _ ll)[i]?=_;rw[ay,h1];rfl,?_,h⟩
    have:=@oZ _ (jG S t) r j x h2 0 (Cn S t)
    exact this.trans (by show(aN S t x)[0]?=_;rw[kg S hst];rfl)
   ·cases h
  ·cases h
 | .list (.int _),_,_,_,_,_,h=>by cases h
 | .list .bool,_,_,_,_,_,h=>by cases h
 | .list .str,_,_,_,_,_,h=>by cases h
 | .list (.st _),_,_,_,_,_,h=>by cases h
 | .int _,_,_,_,_,_,h=>by cases h
 | .bool,_,_,_,_,_,h=>by cases h
 | .str,_,_,_,_,_,h=>by cases h
 | .st _,_,_,_,_,_,h=>by cases h
 | .map,_,_,_,_,_,h=>by cases h
 | .list .map,_,_,_,_,_,h=>by cases h
def jO (ki:IntKind):List (TV S)→List Int
 | .ab _ (.int k) a::r=>match decEq k ki with
  | isTrue _=>a::jO ki r
  | isFalse _=>[]
 | _=>[]
theorem u1 {ki:IntKind}:∀{cs:List (TV S)}{i:Nat}{a:Int},(jO ki cs)[i]?=some a→∃f,cs[i]?=some (.ab f (.int ki) a)
 | [],i,a,h=>by simp[jO] at h
 | v::r,i,a,h=>by
  unfold jO at h
  split at h
  ·rename_i f k b r' e
   cases e
   split at h
   ·rename_i e _
    subst e
    cases i with
    | zero=>cases h;exact⟨f,rfl⟩
    | succ i=>exact u1 (cs:=r) (i:=i) (by simpa using h)
   ·simp at h
  ·simp at h
def CW (q:IntKind) (h0:Nat):List (TV S)→List (Nat×Nat)
 | .ks h τ z n::r=>match decEq τ (.int q) with
  | isTrue _=>match decEq h h0 with
   | isTrue _=>(z,n)::CW q h0 r
   | isFalse _=>[]
  | isFalse _=>[]
 | _=>[]
theorem JN {q:IntKind}{h0:Nat}:∀{cs:List (TV S)}{i:Nat}{a:Nat×Nat},(CW q h0 cs)[i]?=some a→cs[i]?=some (.ks h0 (.int q) a.1 a.2)
 | [],i,a,h=>by simp[CW] at h
 | v::r,i,a,h=>by
  unfold CW at h
  split at h
  ·rename_i h1 τ z n r' e
   cases e
   split at h
   ·rename_i e _
    subst e
    split at h
    ·rename_i e _
     subst e
     cases i with
     | zero=>cases h;rfl
     | succ i=>exact JN (cs:=r) (i:=i) (by simpa using h)
    ·simp at h
   ·simp at h
  ·simp at h
def Tt:List (TV S)→Option Nat
 | .ks h _ _ _::_=>some h
 | _=>none
def oL (i:Nat):List (Nat×List Int)→Option (List Int)
 | []=>none
 | (x,l)::r=>match l with
  | []=>oL i r
  | a::l'=>bif Nat.beq x i then some (a::l') else oL i r
def xj (i:Nat):List bS→Option (List Int)
 | []=>none
 | e::r=>match oL i e.f with
  | some l=>some l
  | none=>xj i r
def nM (es:List bS) (z j:Nat):Option Int:=(xj z es).bind fun l=>l[j]?
theorem DM (q:IntKind) (i:Nat):∀f:List (Nat×List Int),yP i (f.map fun p=>(p.1,gG q p.2))=(oL i f).map (gG q)
 | []=>rfl
 | (x,l)::r=>by
  cases l with
  | nil=>exact DM q i r
  | cons a l'=>
   show(bif Nat.beq x i then some (gG q (a::l')) else yP i (r.map _))=(bif Nat.beq x i then some (a::l') else oL i r).map (gG q)
   cases Nat.beq x i with
   | true=>rfl
   | false=>exact DM q i r
theorem Jt (q:IntKind) (i:Nat):∀es:List bS,gD i (es.map (bS.me q))=(xj i es).map (gG q)
 | []=>rfl
 | e::r=>by
  simp only[aJ,gD,xj]
  rw[show(bS.me q e).f=e.f.map fun p=>(p.1,gG q p.2) from rfl,DM]
  cases oL i e.f with
  | some l=>rfl
  | none=>exact Jt q i r
def Lk (q:IntKind):TV S→Option (Int×Int)
 | .agg [.ab _ (.int k1) a,.ab _ (.int k2) b]=>match decEq k1 q with
  | isTrue _=>match decEq k2 q with
   | isTrue _=>some (a,b)
   | isFalse _=>none
  | isFalse _=>none
 | .ab _ (.st n) x=>match S.cells n x with
  | [⟨.int k1,a⟩,⟨.int k2,b⟩]=>match decEq k1 q with
   | isTrue _=>match decEq k2 q with
    | isTrue _=>some (a,b)
    | isFalse _=>none
   | isFalse _=>none
  | _=>none
 | _=>none
theorem JQ {q:IntKind}{v:TV S}{a b:Int}(h:Lk q v=some (a,b)) (ln:Nat→Nat):v.er ln=.agg [.val (.int q a),.val (.int q b)]:=by
 unfold Lk at h
 split at h
 ·split at h
  ·split at h
   ·rename_i e1 _ _ e2 _
    subst e1;subst e2
    cases h
    simp only[TV.er,TV.er.go,qZ]
   ·cases h
  ·cases h
 ·rename_i f n x
  split at h
  ·rename_i e0
   split at h
   ·split at h
    ·rename_i e1 _ _ e2 _
     subst e1;subst e2
     cases h
     show G.agg ((aN S (.st n) x).map (dw f))=_
     rw[gv,e0]
     cases f <;> rfl
    ·cases h
   ·cases h
  ·cases h
 ·cases h
def FY (P:Program) (kt:TypeId) (q:IntKind):Bool:=
 match P.underlying kt with
 | some (.struct fs)=>match fs.toList with
  | [f0,f1]=>match P.underlying f0.type with
   | some (.int q0)=>match P.underlying f1.type with
    | some (.int q1) => decide (f0.name ≠ "_") && (decide (f1.name ≠ "_") && (Nat.beq f0.offset 0 && (Nat.beq f1.offset 1 && (decide (q0 = q) && (decide (q1 = q) && !(P.stoodInHeld kt))))))
    | _=>false
   | _=>false
  | _=>false
 | _=>false
theorem HU {P:Program}{kt:TypeId}{q:IntKind}(h:FY P kt q=true):zS P kt q:=by
 unfold FY at h
 split at h
 ·rename_i fs hu
  split at h
  ·rename_i f0 f1 hf
   split at h
   ·rename_i q0 h0
    split at h
    ·rename_i q1 h1
     simp only[aj,decide_eq_true_eq,a8] at h
     obtain⟨c1,c2,c3,c4,c5,c6,c7⟩:=h
     subst c5;subst c6
     refine⟨⟨f0,f1,?_,c1,c2,aa c3,aa c4,h0,h1⟩,c7⟩
     rw[hu]
     have:fs=#[f0,f1]:=by rw[←Array.toArray_toList (xs:=fs),hf]
     rw[this]
    ·cases h
   ·cases h
  ·cases h
 ·cases h
def gF:List bS→Int→Int→Option bS
 | [],_,_=>none
 | e::r,a,b=>bif decide (a=e.a)&&decide (b=e.b) then some e else gF r a b
def vG:List bS→Nat→Option bS
 | [],_=>none
 | e::r,t=>bif Nat.beq e.t t then some e else vG r t
def iz (es:List bS) (t j:Nat):Option (Nat×List Int):=(vG es t).bind fun e=>e.f[j]?
def JF (es:List bS) (a b:Int):Nat:=match gF es a b with | some e=>e.t | none=>0
def uV (es:List bS) (a b:Int):Bool:=match gF es a b with | some _=>false | none=>true
theorem Aj (q:IntKind) (a b:Int):∀es:List bS,my (es.map (bS.me q)) (a,b)=(gF es a b).map (bS.me q)
 | []=>rfl
 | e::r=>by
  simp only[aJ,my,oG,gF]
  by_cases h1:a=e.a
  ·by_cases h2:b=e.b
   ·simp[bS.me,h1,h2]
   ·have:=Aj q a b r
    simp only[my] at this
    simp[bS.me,h2,Prod.ext_iff] at this⊢
    exact this
  ·have:=Aj q a b r
   simp only[my] at this
   simp[bS.me,h1,Prod.ext_iff] at this⊢
   exact this
theorem Gq (q:IntKind) (t:Nat):∀es:List bS,vQ (es.map (bS.me q)) t=(vG es t).map (bS.me q)
 | []=>rfl
 | e::r=>by
  simp only[aJ,vQ,oG,vG]
  cases h:Nat.beq e.t t with
  | true=>simp[bS.me,h]
  | false=>
   have:=Gq q t r
   simp only[vQ] at this
   simp[bS.me,h] at this⊢
   exact this
theorem LZ {P:Program}{t:TypeId}{z:Value}(h:(P.info? t).bind (·.zero)=some z):∀w,(zeroValue t).run P w=.ok z w:=by
 intro w
 cases hi:P.info? t with
 | none=>rw[hi] at h;cases h
 | some i=>
  rw[hi] at h
  have h:i.zero=some z:=h
  simp[zeroValue,typeInfo,hi,h]
theorem JG {es:List bS}{t j z:Nat}{l:List Int}(h:iz es t j=some (z,l)) (q:IntKind):∃e,vQ (es.map (bS.me q)) t=some e∧e.f[j]?=some (z,gG q l):=by
 obtain⟨e,h1,h2⟩:=bind_some h
 refine⟨bS.me q e,by rw[Gq,h1];rfl,?_⟩
 show(e.f.map fun p=>(p.1,gG q p.2))[j]?=_
 rw[ay,h2];rfl
theorem BL (q:IntKind) (l:List Int):(gG q l).length=l.length:=by unfold gG;simp
def Lb {A:Type}(P:Program) (W:List Nat) (s:ah S) (t:TypeId) (x y:Operand) (k:TV S→Option A):Option A:=
 match cn s x with
 | some (.mp h)=>match W.contains h with
  | true=>none
  | false=>match aw s.bi h with
   | some (.deep _ _ _ (.map q _ _) .map d)=>match cn s y with
    | some vy=>match Lk q vy with
     | some (a,b)=>match P.underlying t with
      | some (.map kt et)=>match FY P kt q with
       | true=>match (P.info? et).bind (·.zero) with
        | some (.pointer none)=>k (.bl [.fD (uV d.es a b) h (.list (.int q)) (JF d.es a b) 0,.ab true .bool (!(uV d.es a b))])
        | _=>none
       | false=>none
      | _=>none
     | none=>none
    | none=>none
   | _=>none
 | _=>none
def Jf (P:Program) (W:List Nat) (s:ah S) (op:Op){A:Type}(k:TV S→Option A):Option A:=
 match op with
 | .load t x=>match Et P t with
  | some false=>match cn s x with
   | some (.ptr f τ a)=>match τ.fP with
    | false=>k (.ab f τ a)
    | true=>none
   | some (.loc h off)=>match W.contains h with
    | true=>none
    | false=>match aw s.bi h with
     | some (.box _ _ cs)=>match cs[off]? with
      | some v=>k v
      | none=>none
     | _=>none
   | some (.gK h τ i j)=>match W.contains h with
    | true=>none
    | false=>match aw s.bi h with
     | some (.aV _ _ f τ' l)=>match decEq τ' τ with
      | isTrue _=>De s x h l i fun y=>match y with
       | ⟨.st n,a⟩=>match (S.cells n a)[j]? with
        | some z=>k (.ab f z.τ z.a)
        | none=>none
       | y=>match j with
        | 0=>k (.ab f y.τ y.a)
        | _=>none
      | isFalse _=>none
     | some (.deep _ _ _ (.dK _) τ' a)=>match j with
      | 0=>Ee τ' a τ i fun t n=>k (.ks h t i n)
      | _=>none
     | some (.box _ _ cs)=>match τ with
      | .int ki=>(bo (i<(jO ki (cs.drop j)).length)).bind fun _=>k (.ab true (.int ki) ((jO ki (cs.drop j)).getD i 0))
      | .list (.int q)=>match Tt (cs.drop j) with
       | some h1=>(bo (i<(CW q h1 (cs.drop j)).length)).bind fun _=>k (.ks h1 (.int q) ((CW q h1 (cs.drop j)).getD i (0,0)).1 ((CW q h1 (cs.drop j)).getD i (0,0)).2)
       | none=>none
      | _=>none
     | _=>none
   | some (.kp h τ i j)=>match W.contains h with
    | true=>none
    | false=>match aw s.bi h with
     | some (.deep _ _ _ (.dK _) τ' a)=>BQ τ' a τ i j k
     | some (.deep _ _ _ (.map q _ _) .map d)=>match τ with
      | .list _=>(iz d.es i j).bind fun p=>k (.ks h (.int q) p.1 (List.length p.2))
      | .int q'=>match decEq q' q with
       | isTrue _=>(nM d.es i j).bind fun x=>k (.ab true (.int q) x)
       | isFalse _=>none
      | _=>none
     | _=>none
   | _=>none
  | some true=>match kz P t with
   | some z=>match cn s x with
    | some (.ptr f (.st n) a)=>match Nat.beq z (S.dl n).length with
     | true=>k (.ab f (.st n) a)
     | false=>none
    | some (.loc h off)=>match W.contains h with
     | true=>none
     | false=>match aw s.bi h with
      | some (.box _ _ cs)=>match Nat.ble (off+z) cs.length with
       | true=>k (.agg ((cs.drop off).take z))
       | false=>none
      | _=>none
    | some (.gK h τ i j)=>match W.contains h with
     | true=>none
     | false=>match aw s.bi h with
      | some (.aV _ _ f τ' l)=>match decEq τ' τ with
       | isTrue _=>match j with
        | 0=>match Nat.beq z (S.sz τ) with
         | true=>match τ with
          | .st _=>De s x h l i fun y=>k (.ab f y.τ y.a)
          | _=>none
         | false=>none
        | j+1=>none
       | isFalse _=>none
      | _=>none
    | _=>none
   | none=>none
  | none=>none
 | .lookup t x y true=>Lb P W s t x y k
 | _=>none
section
variable {P:Program}{W:List Nat}{s:ah S}{dst:Option Tmp}{ty:TypeId}{pos:String}{after:Array Edge}{guard:Option (Nat×Bool)}
theorem BV {x:Operand}{h i:Nat}{bP:TypeId}{m f:Bool}{τ:Ty}{l:List (S.D τ)}{A:Type}{k:br S.α→Option A}{r:A}(hl:a5 s) (hx:∃j,cn s x=some (.gK h τ i j)) (ho:aw s.bi h=some (.aV bP m f τ l))
  (hk:De s x h l i k=some r):∃a,l[i]?=some a∧k ⟨τ,a⟩=some r:=by
 unfold De at hk
 split at hk
 ·rename_i y hla
  obtain⟨t,e0,hm⟩:=HJ hla
  subst e0
  obtain⟨i',ety',m',f',τ',l',a,e1,e2,e3,e4⟩:=hl t h y hm
  rw[ho] at e2
  cases e2
  obtain⟨j,hx⟩:=hx
  simp only[cn] at hx
  rw[e1] at hx
  cases hx
  subst e3
  exact⟨a,e4,hk⟩
 ·exact bind_some hk
theorem cQ {h:Nat}{o:TO S}(ho:aw s.bi h=some o):aq s.er.st h=some (o.er s.ln):=fM ho
theorem Jx (bP:TypeId) (m f:Bool) (τ:Ty) (l:List (S.D τ)) (ln:Nat→Nat){g:G}(hg:g.one=true) (hf:∀g',g≠.fr g'):((TO.aV bP m f τ l:TO S).er ln).out g=dw f g:=by
 cases g <;> first | rfl | (cases f <;> rfl)
theorem Fq (τ:Ty) (a:S.D τ):∀g∈aN S τ a,∀g',g≠.fr g':=by
 intro g hg g' e
 subst e
 cases τ with
 | st n=>
  rw[gv] at hg
  obtain⟨x,hx,e⟩:=gS.1 hg
  have h2:=jU n a _ hx
  obtain⟨τx,ax⟩:=x
  cases τx with
  | st _=>cases h2
  | _=>cases e
 | _=>simp[aN,BT] at hg
theorem Ox {t:TypeId}{x y:Operand}{A:Type}{k:TV S→Option A}{r:A}(h:Lb P W s t x y k=some r):
  ∃v,fB P W s.er ⟨dst,.lookup t x y true,ty,pos,after,guard⟩ (v.er s.ln)∧k v=some r:=by
 unfold Lb at h
 split at h
 ·rename_i hh hx
  split at h
  ·cases h
  ·rename_i hW
   split at h
   ·rename_i e m f q kty tty d ho
    split at h
    ·rename_i vy hy
     split at h
     ·rename_i a b hk
      split at h
      ·rename_i kt et hu
       split at h
       ·rename_i hb
        split at h
        ·rename_i hz
         refine⟨_,?_,h⟩
         have hy:=bh hy
         rw[JQ hk] at hy
         have:=YL.RH (P:=P) (W:=W) (dst:=dst) (ty:=ty) (pos:=pos) (after:=after) (guard:=guard) (ky:=(a,b)) (q:=q) (kty:=kty) (tty:=tty) (n:=d.n) (pd:=vY q d.pd) (es:=d.es.map (bS.me q)) (bh hx) hy (cQ ho) rfl hu (HU hb) (LZ hz) hW
         rw[Aj] at this
         have e5:(TV.bl [.fD (uV d.es a b) hh (.list (.int q)) (JF d.es a b) 0,.ab true .bool (!(uV d.es a b))]:TV S).er s.ln=.bl [match (gF d.es a b).map (bS.me q) with | some e=>.kp hh e.t 0 | none=>.val (.pointer none),.val (.bool ((gF d.es a b).map (bS.me q)).isSome)]:=by
          unfold uV JF
          cases gF d.es a b <;> rfl
         rw[e5]
         exact this
        ·cases h
       ·cases h
      ·cases h
     ·cases h
    ·cases h
   ·cases h
 ·cases h
theorem Cg {op:Op}{A:Type}{k:TV S→Option A}{r:A}(hl:a5 s) (h:Jf P W s op k=some r):
  ∃v,fB P W s.er ⟨dst,op,ty,pos,after,guard⟩ (v.er s.ln)∧k v=some r:=by
 unfold Jf at h
 split at h
 ·rename_i t x
  split at h
  ·rename_i ha
   split at h
   ·rename_i f τ a hx
    split at h
    ·rename_i hs
     refine⟨_,?_,h⟩
     rw[nT hs]
     have e0:=bh hx
     rw[Dc] at e0
     have e1:(aN S τ a)[0]?=some (dC S τ a):=by rw[kg S hs];rfl
     cases f with
     | true=>exact YL.S6 e0 e1 (gN ha) rfl
     | false=>exact YL.ptr e0 e1 (gN ha)
    ·cases h
   ·rename_i hh off hx
    split at h
    ·cases h
    ·rename_i hW
     split at h
     ·rename_i e m cs ho
      split at h
      ·rename_i v hv
       refine⟨v,?_,h⟩
       refine YL.Lc (bh hx) (cQ ho) ?_ (gN ha) hW rfl
       show(TV.er.go s.ln cs)[off]?=_
       rw[cU,ay,hv];rfl
      ·cases h
     ·cases h
   ·rename_i hh τ i j hx
    split at h
    ·cases h
    ·rename_i hW
     split at h
     ·rename_i e m f τ' l ho
      split at h
      ·rename_i e1 _
       subst e1
       obtain⟨a,ha',h2⟩:=BV hl ⟨j,hx⟩ ho h
       replace h:=h2
       clear h2
       have key:∀(g:G),(aN S τ' a)[j]?=some g→fB P W s.er ⟨dst,.load t x,ty,pos,after,guard⟩ (dw f g):=by
        intro g hg
        have hm:=ar hg
        refine YL.load (k:=(TO.aV e m f τ' l:TO S).er s.ln) (g:=g) (bh hx) (cQ ho) ?_ (gN ha) hW (Jx e m f τ' l _ (py S τ' a g hm) (Fq τ' a g hm))
        have hj:j<S.sz τ':=by have:=(al.1 hg).1;rw[qX] at this;exact this
        have:=@oZ _ (jG S τ') l i a ha' j hj
        show(List.flatMap (aN S τ') l)[i*S.sz τ'+j]?=_
        exact this.trans hg
       split at h
       ·rename_i n a' he
        cases he
        split at h
        ·rename_i z hz
         refine⟨_,?_,h⟩
         rw[nT (jU n _ z (ar hz))]
         exact key _ (by rw[gv,ay,hz];rfl)
        ·cases h
       ·rename_i hns
        split at h
        ·refine⟨_,?_,h⟩
         have hs:τ'.fP=false:=by
          cases τ' with
          | st n=>exact absurd rfl (hns n a)
          | _=>rfl
         rw[nT hs]
         exact key _ (by rw[kg S hs];rfl)
        ·cases h
      ·cases h
     ·rename_i e m f kty τ' a ho
      split at h
      ·obtain⟨t',n,gs,e1,e2,e3,h2⟩:=Lx h
       subst e1
       refine⟨_,?_,h2⟩
       have:=YL.RV (P:=P) (W:=W) (dst:=dst) (ty:=ty) (pos:=pos) (after:=after) (guard:=guard) (t:=t) (x:=x) (h:=hh) (i:=i) (by rw[bh hx];simp[TV.er,eE.sz]) (cQ ho) rfl e3 (gN ha) hW
       rw[e2] at this
       exact this
      ·cases h
     ·rename_i e m cs ho
      split at h
      ·rename_i ki
       obtain⟨_,hc,h⟩:=bind_some h
       have hc:=cm hc
       refine⟨_,?_,h⟩
       obtain⟨f,hv⟩:=u1 (ag hc)
       rw[bj] at hv
       have:=YL.Lc (P:=P) (W:=W) (dst:=dst) (ty:=ty) (pos:=pos) (after:=after) (guard:=guard) (t:=t) (g:=.val (.int ki (jO ki (cs.drop j))[i])) (bh hx) (cQ ho) (by
        show(TV.er.go s.ln cs)[i*1+j]?=_
        rw[cU,ay,show i*1+j=j+i by omega,hv]
        exact congrArg some (qZ f ki _)) (gN ha) hW rfl
       rw[aE,ag hc]
       exact this
      ·rename_i q
       split at h
       ·rename_i h1 _
        obtain⟨_,hc,h⟩:=bind_some h
        have hc:=cm hc
        refine⟨_,?_,h⟩
        have hv:=JN (ag hc)
        rw[bj] at hv
        have:=YL.Lc (P:=P) (W:=W) (dst:=dst) (ty:=ty) (pos:=pos) (after:=after) (guard:=guard) (t:=t) (g:=.ks h1 (CW q h1 (cs.drop j))[i].1 1 (CW q h1 (cs.drop j))[i].2) (bh hx) (cQ ho) (by
         show(TV.er.go s.ln cs)[i*1+j]?=_
         rw[cU,ay,show i*1+j=j+i by omega,hv]
         rfl) (gN ha) hW rfl
        rw[aE,ag hc]
        exact this
       ·cases h
      ·cases h
     ·cases h
   ·rename_i hh τ i j hx
    split at h
    ·cases h
    ·rename_i hW
     split at h
     ·rename_i e m f kty τ' a ho
      obtain⟨t',x',n,gs,e1,e2,e3,e4,h2⟩:=Jd h
      subst e1
      refine⟨_,?_,h2⟩
      have:=YL.Eg (P:=P) (W:=W) (dst:=dst) (ty:=ty) (pos:=pos) (after:=after) (guard:=guard) (t:=t) (x:=x) (bh hx) (cQ ho) rfl e3 e4 (gN ha) hW
      have e5:∀b,Ni b (dC S τ x')=(TV.ab true τ x':TV S).er s.ln:=by
       intro b
       cases τ with
       | list _=>cases e2
       | st _=>cases e2
       | _=>rfl
      rw[e5] at this
      exact this
     ·rename_i e m f q kty tty d ho
      split at h
      ·rename_i τ
       obtain⟨⟨z,l⟩,h1,h⟩:=bind_some h
       refine⟨_,?_,h⟩
       obtain⟨e',h2,h3⟩:=JG h1 q
       have:=YL.RI (P:=P) (W:=W) (dst:=dst) (ty:=ty) (pos:=pos) (after:=after) (guard:=guard) (t:=t) (x:=x) (h:=hh) (tt:=i) (off:=j) (q:=q) (kty:=kty) (tty:=tty) (n:=d.n) (pd:=vY q d.pd) (by rw[bh hx];simp[TV.er,eE.sz]) (cQ ho) rfl h2 h3 (gN ha) hW
       rw[BL] at this
       exact this
      ·rename_i q'
       split at h
       ·rename_i e' _
        subst e'
        obtain⟨x',hc,h⟩:=bind_some h
        obtain⟨l,h1,h2⟩:=bind_some hc
        refine⟨_,?_,h⟩
        have:=YL.Qy (P:=P) (W:=W) (dst:=dst) (ty:=ty) (pos:=pos) (after:=after) (guard:=guard) (t:=t) (x:=x) (h:=hh) (z:=i) (off:=j) (q:=q') (kty:=kty) (tty:=tty) (n:=d.n) (pd:=vY q' d.pd) (es:=d.es.map (bS.me q')) (gs:=gG q' l) (u:=.int q' x')
         (by rw[bh hx];simp[TV.er,eE.sz]) (cQ ho) rfl (by rw[Jt,h1];rfl) (by unfold gG;rw[ay,h2];rfl) (gN ha) hW
        rw[nT rfl]
        exact this
       ·cases h
      ·cases h
     ·cases h
   ·cases h
  ·rename_i ha
   split at h
   ·rename_i z hz
    split at h
    ·rename_i f n a hx
     split at h
     ·rename_i hc
      have hc:=aa hc
      refine⟨_,?_,h⟩
      have e0:=bh hx
      rw[Dc] at e0
      have hlen:(aN S (.st n) a).length=z:=by rw[qX,hc];rfl
      show fB P W s.er _ (.agg ((aN S (.st n) a).map (dw f)))
      cases f with
      | true=>
       have:=YL.Qj (P:=P) (W:=W) (dst:=dst) (ty:=ty) (pos:=pos) (after:=after) (guard:=guard) (sz:=z) e0 (by omega) (gN ha) (dA hz)
       rw[b8 (by omega)] at this
       exact this
      | false=>
       have:=YL.MI (P:=P) (W:=W) (dst:=dst) (ty:=ty) (pos:=pos) (after:=after) (guard:=guard) (sz:=z) e0 (by omega) (gN ha) (dA hz)
       rw[b8 (by omega)] at this
       have e2:(aN S (.st n) a).map (dw false)=aN S (.st n) a:=by
        have:(dw false)=(id:G→G):=rfl
        rw[this,List.map_id]
       rw[e2]
       exact this
     ·cases h
    ·rename_i hh off hx
     split at h
     ·cases h
     ·rename_i hW
      split at h
      ·rename_i e m cs ho
       split at h
       ·rename_i hc
        refine⟨_,?_,h⟩
        have:=YL.JK (P:=P) (W:=W) (dst:=dst) (ty:=ty) (pos:=pos) (after:=after) (guard:=guard) (sz:=z) (bh hx) (cQ ho) rfl (gN ha) (dA hz)
         (by show off+z≤(TV.er.go s.ln cs).length;rw[cU,aW];exact eX hc) hW
        show fB P W s.er _ (.agg (TV.er.go s.ln ((cs.drop off).take z)))
        rw[cU,List.map_take,List.map_drop,←cU]
        exact this
       ·cases h
      ·cases h
    ·rename_i hh τ i j hx
     split at h
     ·cases h
     ·rename_i hW
      split at h
      ·rename_i e m f τ' l ho
       split at h
       ·rename_i e1 _
        subst e1
        split at h
        ·split at h
         ·rename_i hc
          have hc:=aa hc
          split at h
          ·rename_i n _ _ _ _ _
           obtain⟨a,ha',h⟩:=BV hl ⟨_,hx⟩ ho h
           refine⟨_,?_,h⟩
           have hil:=(al.1 ha').1
           have:=YL.Oy (P:=P) (W:=W) (dst:=dst) (ty:=ty) (pos:=pos) (after:=after) (guard:=guard) (sz:=z) (bh hx) (cQ ho) (gN ha) (dA hz)
            (by
             show i*S.sz _+0+z≤(List.flatMap (aN S _) l).length
             have:=@eT _ (jG S (.st n)) l
             rw[show(List.flatMap (aN S (.st n)) l).length=_ from this,hc]
             show i*S.sz _+0+S.sz _≤l.length*S.sz _
             have:(i+1)*S.sz (.st n)≤l.length*S.sz (.st n):=b7 _ hil
             rw[dD,Nat.one_mul] at this
             omega) hW
           show fB P W s.er _ (.agg ((aN S (.st n) a).map (dw f)))
           have e3:((List.flatMap (aN S (.st n)) l).drop (i*S.sz (.st n)+0)).take z=aN S (.st n) a:=by
            rw[hc,dq]
            exact @BS _ (jG S (.st n)) l (i:Int) a (by unfold idx;rw[if_pos (by omega)];simpa using ha')
           have e4:((List.drop (i*S.sz (.st n)+0) (List.flatMap (aN S (.st n)) l)).take z).map (((TO.aV e m f (.st n) l:TO S).er s.ln).out)=(aN S (.st n) a).map (dw f):=by
            rw[e3]
            exact eB fun g hg=>Jx e m f (.st n) l _ (py S _ a g hg) (Fq _ a g hg)
           rw[←e4]
           exact this
          ·cases h
         ·cases h
        ·cases h
       ·cases h
      ·cases h
    ·cases h
   ·cases h
  ·cases h
 ·exact Ox h
 ·cases h
end
end
end Go.DN
/-
 DN,part G:which handles are named;new ones;objects that change.
-/
namespace Go.DN
open Go.AM
section
variable {S:eE}
def TV.has (k:Nat):TV S→Bool
 | .loc h _=>Nat.beq h k
 | .gK h _ _ _=>Nat.beq h k
 | .aR h _=>Nat.beq h k
 | .sub h _ _ _=>Nat.beq h k
 | .agg l=>go k l
 | .bl l=>go k l
 | .aF _ l=>go k l
 | .ct h=>Nat.beq h k
 | .mp h=>Nat.beq h k
 | .ks h _ _ _=>Nat.beq h k
 | .kp h _ _ _=>Nat.beq h k
 | .fD b h _ _ _=>Nat.beq h k&&!b
 | _=>false
where go (k:Nat):List (TV S)→Bool
 | []=>false
 | x::r=>x.has k||go k r
theorem Pb (k:Nat) (f:Bool) (τ:Ty) (a:S.D τ) (h:τ.fP=false):(dw f (dC S τ a)).b9 k=false:=by
 cases τ with
 | st n=>cases h
 | _=>cases f <;> rfl
theorem ID (k:Nat) (f:Bool) (τ:Ty) (a:S.D τ):(nq f τ a).b9 k=false:=by
 cases τ with
 | st n=>
  show G.b9.go k ((aN S (.st n) a).map (dw f))=false
  rw[gv]
  have:=jU n a
  generalize S.cells n a=l at this
  induction l with
  | nil=>rfl
  | cons x r ih=>
   simp only[aJ,G.b9.go,Pb k f x.τ x.a (this x au),Bool.false_or]
   exact ih fun y hy=>this y (ao _ hy)
 | _=>cases f <;> rfl
mutual
theorem ub (ln:Nat→Nat) (k:Nat):∀v:TV S,(v.er ln).b9 k=v.has k
 | .ab f τ a=>ID k f τ a
 | .ptr f τ a=>by cases f <;> rfl
 | .agg l=>wu ln k l
 | .bl l=>wu ln k l
 | .aF _ l=>wu ln k l
 | .loc _ _=>rfl
 | .gK _ _ _ _=>rfl
 | .aR _ _=>rfl
 | .sub _ _ _ _=>rfl
 | .ct _=>rfl
 | .mp _=>rfl
 | .ks _ _ _ _=>rfl
 | .kp _ _ _ _=>rfl
 | .fD b h _ _ _=>by
  cases b with
  | true=>show false=(Nat.beq h k&&false);rw[Bool.and_false]
  | false=>show Nat.beq h k=(Nat.beq h k&&true);rw[jb]
 | .val _=>rfl
 | .any=>rfl
theorem wu (ln:Nat→Nat) (k:Nat):∀l:List (TV S),G.b9.go k (TV.er.go ln l)=TV.has.go k l
 | []=>rfl
 | x::r=>by simp only[TV.er.go,G.b9.go,TV.has.go,ub ln k x,wu ln k r]
end
mutual
theorem oY {ln ln':Nat→Nat}:∀v:TV S,(∀k,v.has k=true→ln k=ln' k)→v.er ln=v.er ln'
 | .ab f τ a,_=>rfl
 | .ptr f τ a,_=>rfl
 | .agg l,h=>congrArg G.agg (lD l h)
 | .bl l,h=>congrArg G.bl (lD l h)
 | .aF f l,h=>congrArg (G.aF f) (lD l h)
 | .loc _ _,_=>rfl
 | .gK _ _ _ _,_=>rfl
 | .aR h τ,hh=>congrArg (G.aR h (S.sz τ) 0) (hh h (aI h))
 | .sub _ _ _ _,_=>rfl
 | .ct _,_=>rfl
 | .mp _,_=>rfl
 | .ks _ _ _ _,_=>rfl
 | .kp _ _ _ _,_=>rfl
 | .fD _ _ _ _ _,_=>rfl
 | .val _,_=>rfl
 | .any,_=>rfl
theorem lD {ln ln':Nat→Nat}:∀l:List (TV S),(∀k,TV.has.go k l=true→ln k=ln' k)→TV.er.go ln l=TV.er.go ln' l
 | [],_=>rfl
 | x::r,h=>by
  simp only[TV.er.go]
  rw[oY x fun k hk=>h k (by simp[TV.has.go,hk]),lD r fun k hk=>h k (by simp[TV.has.go,hk])]
end
def gr (k:Nat):List (Nat×TV S)→Bool
 | []=>false
 | (_,v)::r=>v.has k||gr k r
def TO.has (k:Nat):TO S→Bool
 | .box _ _ cs=>TV.has.go k cs
 | .aV ..=>false
 | .lp _ _ cs=>TV.has.go k cs
 | .deep ..=>false
def eL (k:Nat):List (Nat×TO S)→Bool
 | []=>false
 | (_,o)::r=>o.has k||eL k r
def ah.free (s:ah S) (k:Nat):Bool:=(match aw s.bi k with | none=>true | some _=>false)&&(!(gr k s.bZ)&&(!(eL k s.bi)&&(!(TV.has.go k s.df)&&Nat.blt k 500)))
theorem JY (ln:Nat→Nat) (k:Nat):∀fr:List (Nat×TV S),zq k (gi ln fr)=!(gr k fr)
 | []=>rfl
 | (_,v)::r=>by simp only[gi,zq,gr,ub,JY ln k r,Bool.not_or]
theorem pJ {ln:Nat→Nat}:∀{st:List (Nat×TO S)}{t:Nat},aw st t=none→aq (ca ln st) t=none
 | [],_,_=>rfl
 | (k,g)::r,t,h=>by
  simp only[aw] at h
  simp only[ca,aq]
  cases hk:Nat.beq k t with
  | true=>rw[hk] at h;cases h
  | false=>rw[hk] at h;exact pJ h
theorem Jk (ln:Nat→Nat) (k:Nat):∀st:List (Nat×TO S),eL k st=false→wV k (ca ln st)=true
 | [],_=>rfl
 | (_,o)::r,h=>by
  simp only[eL,bI] at h
  simp only[ca,wV,aj,Jk ln k r h.2,and_true]
  cases o with
  | box e m cs=>simp only[TO.er,wu,Bool.false_or];have:=h.1;simp only[TO.has] at this;simp[this]
  | aV e m f τ l=>rfl
  | lp l n cs=>simp only[TO.er,wu,Bool.false_or];have:=h.1;simp only[TO.has] at this;simp[this]
  | deep=>rfl
theorem Aq (ln:Nat→Nat) (k:Nat):∀l:List (TV S),qe k (TV.er.go ln l)=!(TV.has.go k l)
 | []=>rfl
 | x::r=>by simp only[TV.er.go,qe,TV.has.go,ub,Aq ln k r,Bool.not_or]
theorem free_spec {s:ah S}{k:Nat}(h:s.free k=true):aw s.bi k=none∧gr k s.bZ=false∧eL k s.bi=false∧TV.has.go k s.df=false∧Nat.blt k 500=true:=by
 unfold ah.free at h
 simp only[aj,a8] at h
 obtain⟨h1,h2,h3,h4,h5⟩:=h
 refine⟨?_,h2,h3,h4,h5⟩
 split at h1
 ·assumption
 ·cases h1
theorem gq {s:ah S}{k:Nat}(h:s.free k=true):fresh s.er k=true:=by
 obtain⟨h1,h2,h3,h4,h5⟩:=free_spec h
 unfold fresh
 have e1:=pJ (ln:=s.ln) h1
 have e2:=JY s.ln k s.bZ
 rw[h2] at e2
 have e3:=Jk s.ln k s.bi h3
 have e4:=Aq s.ln k s.df
 rw[h4] at e4
 have e5:Nat.blt k 1000=true:=by simp only[fW] at h5⊢;omega
 simp only[aj]
 exact⟨by show(aq (ca s.ln s.bi) k).isNone=true;rw[e1];rfl,e2,e3,e4,e5⟩
theorem nl {k:Nat}:∀{fr:List (Nat×TV S)}{t:Nat}{v:TV S},bg fr t=some v→gr k fr=false→v.has k=false
 | [],_,_,h,_=>by cases h
 | (t',v')::r,t,v,h,hf=>by
  simp only[gr,bI] at hf
  simp only[bg] at h
  cases hk:Nat.beq t' t with
  | true=>rw[hk] at h;cases h;exact hf.1
  | false=>rw[hk] at h;exact nl h hf.2
theorem PZ {s:ah S}{x:Operand}{v:TV S}{k:Nat}(h:cn s x=some v) (hf:gr k s.bZ=false):v.has k=false:=by
 cases x with
 | tmp t=>exact nl h hf
 | const u=>cases h;cases u <;> rfl
 | func f=>cases h;rfl
 | global _=>cases h
def jB (ln ln':Nat→Nat) (k:Nat):Prop:=∀j,j≠k→ln j=ln' j
theorem zx {ln ln':Nat→Nat}{k:Nat}(h:jB ln ln' k):∀fr:List (Nat×TV S),gr k fr=false→gi ln fr=gi ln' fr
 | [],_=>rfl
 | (t,v)::r,hf=>by
  simp only[gr,bI] at hf
  simp only[gi,zx h r hf.2]
  rw[oY v fun j hj=>h j fun e=>by subst e;rw[hf.1] at hj;cases hj]
theorem oU {ln ln':Nat→Nat}{k:Nat}(h:jB ln ln' k) (l:List (TV S)) (hf:TV.has.go k l=false):TV.er.go ln l=TV.er.go ln' l:=
 lD l fun j hj=>h j fun e=>by subst e;rw[hf] at hj;cases hj
theorem qW {ln ln':Nat→Nat}{k:Nat}(h:jB ln ln' k) (v:TV S) (hf:v.has k=false):v.er ln=v.er ln':=
 oY v fun j hj=>h j fun e=>by subst e;rw[hf] at hj;cases hj
theorem TO.qW {ln ln':Nat→Nat}{k:Nat}(h:jB ln ln' k) (o:TO S) (hf:o.has k=false):o.er ln=o.er ln':=by
 cases o with
 | box e m cs=>simp only[TO.er,oU h cs hf]
 | aV e m f τ l=>rfl
 | lp l n cs=>simp only[TO.er,oU h cs hf]
 | deep=>rfl
theorem zw {ln ln':Nat→Nat}{k:Nat}(h:jB ln ln' k):∀st:List (Nat×TO S),eL k st=false→ca ln st=ca ln' st
 | [],_=>rfl
 | (t,o)::r,hf=>by
  simp only[eL,bI] at hf
  simp only[ca,zw h r hf.2,TO.qW h o hf.1]
theorem HI {st:List (Nat×TO S)}(k:Nat) (o:TO S):jB (b6 st) (b6 ((k,o)::st)) k:=by
 intro j hj
 unfold b6
 simp only[aw]
 have:Nat.beq k j=false:=by
  cases h:Nat.beq k j with
  | false=>rfl
  | true=>exact absurd (aa h).symm hj
 rw[this];rfl
theorem tV {st:List (Nat×TO S)}(k:Nat) (o:TO S):b6 ((k,o)::st) k=o.len:=by
 unfold b6
 simp only[aw,aI,cond_true]
def ah.add (s:ah S) (k:Nat) (o:TO S):ah S:={s with st:=(k,o)::s.st,nx:=bif Nat.beq k s.nx then k+1 else s.nx}
def ah.cR (s:ah S) (d:Nat):Nat:=bif s.free d then d else s.nx
theorem oE {s:ah S}{k:Nat}(h:s.free k=true) (o:TO S) (ho:o.has k=false):(s.add k o).er={fr:=s.er.fr,st:=(k,o.er s.ln)::s.er.st,df:=s.er.df}∧jB s.ln (s.add k o).ln k:=by
 obtain⟨h1,h2,h3,h4,h5⟩:=free_spec h
 have hag:jB s.ln (s.add k o).ln k:=HI k o
 refine⟨?_,hag⟩
 show St.mk (gi (s.add k o).ln s.bZ) (ca (s.add k o).ln ((k,o)::s.bi)) (TV.er.go (s.add k o).ln s.df)=St.mk _ _ _
 rw[←zx hag s.bZ h2,←oU hag s.df h4]
 simp only[ca]
 rw[←zw hag s.bi h3,←TO.qW hag o ho]
 rfl
def pT:List (Nat×TO S)→Nat→TO S→List (Nat×TO S)
 | [],_,_=>[]
 | (k,g)::r,t,o=>bif Nat.beq k t then(k,o)::r else(k,g)::pT r t o
theorem DX {st:List (Nat×TO S)}{h:Nat}{o o':TO S}(ho:aw st h=some o):aw (pT st h o') h=some o':=by
 induction st with
 | nil=>cases ho
 | cons x r ih=>
  obtain⟨y,g⟩:=x
  simp only[aw,pT] at ho⊢
  cases hy:Nat.beq y h with
  | true=>simp[aw,hy]
  | false=>simp only[hy,cond_false] at ho⊢;simp only[aw,hy,cond_false];exact ih ho
theorem uS {st:List (Nat×TO S)}{h h':Nat}{o:TO S}(hne:h'≠h):aw (pT st h o) h'=aw st h':=by
 induction st with
 | nil=>rfl
 | cons x r ih=>
  obtain⟨y,g⟩:=x
  simp only[aw,pT]
  cases hy:Nat.beq y h with
  | true=>
   have:y=h:=aa hy
   subst this
   have h2:Nat.beq y h'=false:=by
    cases h3:Nat.beq y h' with
    | false=>rfl
    | true=>exact absurd (aa h3).symm hne
   simp[aw,h2]
  | false=>simp only[cond_false,aw,ih]
theorem Oz {st:List (Nat×TO S)}{h:Nat}{o o':TO S}(ho:aw st h=some o) (hl:o'.len=o.len):b6 (pT st h o')=b6 st:=by
 funext j
 unfold b6
 by_cases e:j=h
 ·subst e;rw[DX ho,ho];exact hl
 ·rw[uS e]
theorem Iq (ln:Nat→Nat):∀(st:List (Nat×TO S)) (h:Nat) (o:TO S),ca ln (pT st h o)=bD (ca ln st) h (o.er ln)
 | [],_,_=>rfl
 | (k,g)::r,h,o=>by
  simp only[pT,ca,bD]
  cases Nat.beq k h with
  | true=>rfl
  | false=>simp only[cond_false,ca,Iq ln r h o]
def ah.set (s:ah S) (h:Nat) (o:TO S):ah S:={s with st:=pT s.st h o,last:=yR h s.last}
theorem Hs {st st':List (Nat×TO S)}{h:Nat}{o:TO S}(ho:aw st h=some o):aw (st++st') h=some o:=by
 induction st with
 | nil=>cases ho
 | cons x r ih=>
  obtain⟨k,g⟩:=x
  simp only[bx,aw] at ho⊢
  cases hb:Nat.beq k h with
  | true=>rw[hb] at ho;exact ho
  | false=>rw[hb] at ho;exact ih ho
theorem Hi {st st':List (Nat×TO S)}{h:Nat}{o o':TO S}(ho:aw st h=some o):pT (st++st') h o'=pT st h o'++st':=by
 induction st with
 | nil=>cases ho
 | cons x r ih=>
  obtain⟨k,g⟩:=x
  simp only[bx,aw,pT] at ho⊢
  cases hb:Nat.beq k h with
  | true=>rfl
  | false=>rw[hb] at ho;simp only[cond_false,bx];rw[ih ho]
theorem dU {s:ah S}{h:Nat}{o:TO S}(ho:aw s.st h=some o):aw s.bi h=some o:=Hs ho
theorem lc {s:ah S}{h:Nat}{o o':TO S}(ho:aw s.st h=some o) (hl:o'.len=o.len):(s.set h o').er={fr:=s.er.fr,st:=bD s.er.st h (o'.er s.ln),df:=s.er.df}∧(s.set h o').ln=s.ln:=by
 have e0:(s.set h o').bi=pT s.bi h o':=(Hi ho).symm
 have e:(s.set h o').ln=s.ln:=by show b6 (s.set h o').bi=b6 s.bi;rw[e0];exact Oz (dU ho) hl
 refine⟨?_,e⟩
 show St.mk (gi (s.set h o').ln s.bZ) (ca (s.set h o').ln (s.set h o').bi) (TV.er.go (s.set h o').ln s.df)=_
 rw[e,e0,Iq]
 rfl
def TV.kill (k:Nat) (v:TV S):TV S:=match v.has k with | true=>.any | false=>v
def kq (k:Nat):List (Nat×TV S)→List (Nat×TV S)
 | []=>[]
 | (t,v)::r=>(t,v.kill k)::kq k r
def TO.kill (k:Nat):TO S→TO S
 | .box e m cs=>.box e m (cs.map (TV.kill k))
 | .lp l n cs=>.lp l n (cs.map (TV.kill k))
 | o=>o
def iV (k:Nat):List (Nat×TO S)→List (Nat×TO S)
 | []=>[]
 | (t,o)::r=>(t,o.kill k)::iV k r
theorem JP (ln:Nat→Nat) (k:Nat) (v:TV S):(v.kill k).er ln=rG k (v.er ln):=by
 unfold TV.kill rG
 rw[ub]
 cases v.has k <;> rfl
theorem HR (k:Nat) (v:TV S):(v.kill k).has k=false:=by
 unfold TV.kill
 cases h:v.has k with
 | true=>rfl
 | false=>exact h
theorem HT (ln:Nat→Nat) (k:Nat):∀fr:List (Nat×TV S),gi ln (kq k fr)=ni k (gi ln fr)
 | []=>rfl
 | (t,v)::r=>by simp only[kq,gi,ni,JP,HT ln k r]
theorem E9 (k:Nat):∀fr:List (Nat×TV S),gr k (kq k fr)=false
 | []=>rfl
 | (t,v)::r=>by simp only[kq,gr,HR,E9 k r,Bool.or_self]
theorem xq (k:Nat):∀cs:List (TV S),TV.has.go k (cs.map (TV.kill k))=false
 | []=>rfl
 | v::r=>by simp only[aJ,TV.has.go,HR,xq k r,Bool.or_self]
theorem E7 (ln:Nat→Nat) (k:Nat) (cs:List (TV S)):TV.er.go ln (cs.map (TV.kill k))=(TV.er.go ln cs).map (rG k):=by
 rw[cU,cU,fR,fR]
 exact eB fun v _=>JP ln k v
theorem HS (ln:Nat→Nat) (k:Nat):∀st:List (Nat×TO S),ca ln (iV k st)=gu k (ca ln st)
 | []=>rfl
 | (t,o)::r=>by
  simp only[iV,ca,gu,HS ln k r]
  congr 2
  cases o with
  | box e m cs=>simp only[TO.kill,TO.er,E7];rfl
  | aV e m f τ l=>rfl
  | lp l n cs=>simp only[TO.kill,TO.er,E7];rfl
  | deep=>rfl
theorem E8 (k:Nat):∀st:List (Nat×TO S),eL k (iV k st)=false
 | []=>rfl
 | (t,o)::r=>by
  simp only[iV,eL,E8 k r,Bool.or_false]
  cases o with
  | box e m cs=>exact xq k cs
  | aV e m f τ l=>rfl
  | lp l n cs=>exact xq k cs
  | deep=>rfl
theorem xf {k h:Nat}:∀{st:List (Nat×TO S)},aw (iV k st) h=(aw st h).map (TO.kill k)
 | []=>rfl
 | (t,o)::r=>by
  simp only[iV,aw]
  cases Nat.beq t h with
  | true=>rfl
  | false=>exact xf
theorem OE (k:Nat) (o:TO S):(o.kill k).len=o.len:=by cases o <;> rfl
theorem M0 (k:Nat) (st:List (Nat×TO S)):b6 (iV k st)=b6 st:=by
 funext j
 unfold b6
 rw[xf]
 cases aw st j with
 | none=>rfl
 | some o=>exact OE k o
def ah.renew (s:ah S) (k:Nat) (o:TO S):ah S:={s with fr:=kq k s.fr,st:=(k,o)::iV k s.st,last:=yR k s.last}
theorem JO {k:Nat}{v:TV S}(h:v.has k=false):v.kill k=v:=by unfold TV.kill;rw[h]
theorem By {k:Nat}:∀{fr:List (Nat×TV S)},gr k fr=false→kq k fr=fr
 | [],_=>rfl
 | (t,v)::r,h=>by
  simp only[gr,bI] at h
  simp only[kq,JO h.1,By h.2]
theorem Bx {k:Nat}:∀{l:List (TV S)},TV.has.go k l=false→l.map (TV.kill k)=l
 | [],_=>rfl
 | v::r,h=>by
  simp only[TV.has.go,bI] at h
  simp only[aJ,JO h.1,Bx h.2]
theorem xr {k:Nat}:∀{st:List (Nat×TO S)},eL k st=false→iV k st=st
 | [],_=>rfl
 | (t,o)::r,h=>by
  simp only[eL,bI] at h
  simp only[iV,xr h.2]
  have:o.kill k=o:=by
   cases o with
   | box e m cs=>simp only[TO.kill];rw[Bx h.1]
   | aV e m f τ l=>rfl
   | lp l n cs=>simp only[TO.kill];rw[Bx h.1]
   | deep=>rfl
  rw[this]
theorem zi (k:Nat):∀(fr fr':List (Nat×TV S)),kq k (fr++fr')=kq k fr++kq k fr'
 | [],_=>rfl
 | (t,v)::r,fr'=>by simp only[bx,kq,zi k r fr']
theorem uZ (k:Nat):∀(st st':List (Nat×TO S)),iV k (st++st')=iV k st++iV k st'
 | [],_=>rfl
 | (t,v)::r,st'=>by simp only[bx,iV,uZ k r st']
theorem G7 {s:ah S}{k:Nat}(o:TO S) (ho:o.has k=false) (hd:TV.has.go k s.df=false) (hlo:gr k s.lo=false) (hls:eL k s.bO=false):(s.renew k o).er={fr:=ni k s.er.fr,st:=(k,o.er s.ln)::gu k s.er.st,df:=s.er.df}∧jB s.ln (s.renew k o).ln k∧(s.renew k o).ln k=o.len:=by
 have hag:jB s.ln (s.renew k o).ln k:=by
  have:=HI (st:=iV k s.bi) k o
  rw[M0] at this
  have e:(s.renew k o).bi=(k,o)::iV k s.bi:=by
   show(k,o)::(iV k s.st++s.bO)=_
   unfold ah.bi
   rw[uZ,xr hls]
  show jB (b6 s.bi) (b6 (s.renew k o).bi) k
  rw[e]
  exact this
 have e1:(s.renew k o).bi=(k,o)::iV k s.bi:=by
  show(k,o)::(iV k s.st++s.bO)=_
  unfold ah.bi
  rw[uZ,xr hls]
 have e2:(s.renew k o).bZ=kq k s.bZ:=by
  show kq k s.fr++s.lo=_
  unfold ah.bZ
  rw[zi,By hlo]
 refine⟨?_,hag,tV k o⟩
 show St.mk (gi (s.renew k o).ln (s.renew k o).bZ) (ca (s.renew k o).ln (s.renew k o).bi) (TV.er.go (s.renew k o).ln s.df)=St.mk _ _ _
 rw[e1,e2,←zx hag _ (E9 k s.bZ),←oU hag s.df hd,HT]
 simp only[ca]
 rw[←zw hag _ (E8 k s.bi),←TO.qW hag o ho,HS]
 rfl
theorem ju {k t:Nat}(o:TO S) (st:List (Nat×TO S)) (h:t≠k):aw ((k,o)::st) t=aw st t:=by
 simp only[aw]
 cases hb:Nat.beq k t with
 | true=>exact absurd (aa hb).symm h
 | false=>rfl
theorem a5.add {s:ah S}(h:a5 s){k:Nat}(o:TO S) (hf:s.free k=true):a5 (s.add k o):=by
 intro d hh x hm
 obtain⟨i,bP,m,f,τ,l,a,e1,e2,e3⟩:=h d hh x hm
 refine⟨i,bP,m,f,τ,l,a,e1,?_,e3⟩
 refine(ju o s.bi ?_).trans e2
 intro e
 subst e
 rw[(free_spec hf).1] at e2
 cases e2
theorem a5.set {s:ah S}(h:a5 s){k:Nat}{o0:TO S}(hk:aw s.st k=some o0) (o:TO S):a5 (s.set k o):=by
 have e0:(s.set k o).bi=pT s.bi k o:=(Hi hk).symm
 intro d hh x hm
 obtain⟨h1,h2⟩:=tv hm
 obtain⟨i,bP,m,f,τ,l,a,e1,e2,e3⟩:=h d hh x h1
 exact⟨i,bP,m,f,τ,l,a,e1,by rw[e0];exact(uS h2).trans e2,e3⟩
theorem Cj {k t:Nat}{v:TV S}:∀{fr:List (Nat×TV S)},bg fr t=some v→bg (kq k fr) t=some (v.kill k)
 | [],h=>by cases h
 | (t',v')::r,h=>by
  simp only[bg,kq] at h⊢
  cases hb:Nat.beq t' t with
  | true=>rw[hb] at h;cases h;rfl
  | false=>rw[hb] at h;exact Cj h
theorem a5.renew {s:ah S}(h:a5 s) (k:Nat) (o:TO S) (hlo:gr k s.lo=false) (hls:eL k s.bO=false):a5 (s.renew k o):=by
 have q1:(s.renew k o).bi=(k,o)::iV k s.bi:=by
  show(k,o)::(iV k s.st++s.bO)=_
  unfold ah.bi
  rw[uZ,xr hls]
 have q2:(s.renew k o).bZ=kq k s.bZ:=by
  show kq k s.fr++s.lo=_
  unfold ah.bZ
  rw[zi,By hlo]
 intro d hh x hm
 obtain⟨h1,h2⟩:=tv hm
 obtain⟨i,bP,m,f,τ,l,a,e1,e2,e3⟩:=h d hh x h1
 refine⟨i,bP,m,f,τ,l,a,?_,?_,e3⟩
 ·have:=Cj (k:=k) e1
  rw[q2]
  refine this.trans ?_
  unfold TV.kill TV.has
  have:Nat.beq hh k=false:=by
   cases hb:Nat.beq hh k with
   | true=>exact absurd (aa hb) h2
   | false=>rfl
  rw[this]
 ·rw[q1]
  refine(ju o _ h2).trans ?_
  rw[xf,e2];rfl
end
end Go.DN
/-
 DN,part H:steps of the proof alone;boxes,blocks,stores.
-/
namespace Go.DN
open Go.AM
def Gh (s t:St):Prop:=∀(N:Nat) (cx:Cx) (μ:Mu) (a:Act) (w:World),Rel N cx μ s a w→
 ∃μ',Rel N cx μ' t a w∧∀h k c m y,aq t.st h=some k→μ' h=some (c,m)→In y c m→∃k0 c0 m0,aq s.st h=some k0∧μ h=some (c0,m0)∧In y c0 m0
theorem Gh.same {s t:St}{μ μ':Mu}(h:∀h k b m,aq t.st h=some k→μ' h=some (b,m)→∃k0,aq s.st h=some k0∧μ h=some (b,m)):
  ∀h k c m y,aq t.st h=some k→μ' h=some (c,m)→In y c m→∃k0 c0 m0,aq s.st h=some k0∧μ h=some (c0,m0)∧In y c0 m0:=
 fun x k c m y h1 h2 h3=>let ⟨k0,h4,h5⟩:=h x k c m h1 h2;⟨k0,c,m,h4,h5,h3⟩
theorem Gh.refl (s:St):Gh s s:=fun _ _ μ _ _ hr=>⟨μ,hr,Gh.same fun h k b m h1 h2=>⟨k,h1,h2⟩⟩
theorem Gh.trans {a b c:St}(h:Gh a b) (h':Gh b c):Gh a c:=fun N cx μ ac w hr=>by
 obtain⟨μ1,h1,h2⟩:=h N cx μ ac w hr
 obtain⟨μ2,h3,h4⟩:=h' N cx μ1 ac w h1
 refine⟨μ2,h3,fun x k c m y h5 h6 h7=>?_⟩
 obtain⟨k0,c0,m0,h8,h9,h10⟩:=h4 x k c m y h5 h6 h7
 exact h2 x k0 c0 m0 y h8 h9 h10
theorem Gh.sub {s t:St}(h:Sub s t):Gh s t:=fun N cx μ a w hr=>⟨μ,hr.sub h,Gh.same fun x k b m h1 h2=>⟨k,h.2.1.get h1,h2⟩⟩
theorem Gh.of {s t:St}(h:∀(N:Nat) (cx:Cx) (μ:Mu) (a:Act) (w:World),Rel N cx μ s a w→Rel N cx μ t a w) (hd:∀x k,aq t.st x=some k→∃k0,aq s.st x=some k0):Gh s t:=fun N cx μ a w hr=>
 ⟨μ,h N cx μ a w hr,Gh.same fun x k b m h1 h2=>let ⟨k0,h3⟩:=hd x k h1;⟨k0,h3,h2⟩⟩
section
variable {P:Program}{N:Nat}{cx:Cx}{ops:Array Oper}{Q:Exit→St→Prop}{s t:St}
theorem GW.gh {c:Code}(h:Gh s t) (k:GW P N cx c Q t):GW P N cx c Q s:=fun μ a w hr=>by
 obtain⟨μ',h1,_⟩:=h N cx μ a w hr
 exact k μ' a w h1
theorem GL.gh {rest:List Oper}(h:Gh s t) (k:GL P N cx ops Q rest t):GL P N cx ops Q rest s:=fun μ a w hr=>by
 obtain⟨μ',h1,_⟩:=h N cx μ a w hr
 exact k μ' a w h1
theorem dS.gh {W:List Nat}{aK:Nat}{listed:Array Bool}(h:Gh s t) (k:dS P N cx ops Q W aK listed t):dS P N cx ops Q W aK listed s:=fun ws Wb μ a w hr hS hW=>by
 obtain⟨μ',h1,h2⟩:=h N cx μ a w hr
 refine k ws Wb μ' a w h1 hS fun x k c m y h3 h4 h5 h6=>?_
 obtain⟨k0,c0,m0,h7,h8,h9⟩:=h2 x k c m y h4 h5 h6
 exact hW x k0 c0 m0 y h3 h7 h8 h9
end
section
variable {S:eE}
def fC (P:Program) (W:List Nat) (s:ah S) (o:Oper){A:Type}(k:ah S→Option A) (r:A):Prop:=
 ∃T:St→Prop,bN P W s.er o T∧∀s',T s'→∃t:ah S,Gh s' t.er∧a5 t∧bF s t∧k t=some r
theorem fC.one {P:Program}{W:List Nat}{s:ah S}{o:Oper}{A:Type}{k:ah S→Option A}{r:A}{s1:St}(t:ah S) (he:bN P W s.er o (·=s1)) (hg:Gh s1 t.er) (hl:a5 t) (hkp:bF s t) (hk:k t=some r):fC P W s o k r:=
 ⟨_,he,fun s' e=>by subst e;exact⟨t,hg,hl,hkp,hk⟩⟩
theorem Nd {k:Nat}(v:TV S) (h:v.has k=false):TV.has.go k (dO v)=false:=by
 cases v with
 | ab f τ a=>
  cases τ with
  | st n=>
   show TV.has.go k (split f n a)=false
   unfold split
   generalize S.cells n a=l
   induction l with
   | nil=>rfl
   | cons x r ih=>simp only[aJ,TV.has.go,TV.has,Bool.false_or];exact ih
  | _=>rfl
 | agg l=>exact h
 | _=>simpa[dO,TV.has.go] using h
def Ru:TV S→Bool
 | .ab _ τ _=>!τ.fP
 | .val u=>u.oneCell'
 | .agg _=>false
 | .bl _=>false
 | .any=>false
 | _=>true
theorem Ol {v:TV S}(h:Ru v=true) (ln:Nat→Nat):(v.er ln).one=true:=by
 cases v with
 | ab f τ a=>cases τ with
  | st n=>cases h
  | _=>cases f <;> rfl
 | ptr f τ a=>cases f <;> rfl
 | fD b h τ i j=>cases b <;> rfl
 | val u=>exact h
 | agg l=>cases h
 | bl l=>cases h
 | any=>cases h
 | _=>rfl
def CJ:List (TV S)→Bool
 | []=>true
 | v::r=>Ru v&&CJ r
theorem nK (ln:Nat→Nat):∀{l:List (TV S)},CJ l=true→(TV.er.go ln l).all G.one=true
 | [],_=>rfl
 | v::r,h=>by
  simp only[CJ,aj] at h
  simp only[TV.er.go,List.all_cons,Ol h.1 ln,nK ln h.2,fK]
section
variable {P:Program}{W:List Nat}{s:ah S}{ty:TypeId}{pos:String}{after:Array Edge}{guard:Option (Nat×Bool)}{A:Type}{k:ah S→Option A}{r:A}
def Ph (s:ah S) (d:Nat) (t:TypeId) (x:Operand){A:Type}(k:ah S→Option A):Option A:=
 match s.free (s.cR d) with
 | true=>match cn s x with
  | some v=>match Ho v with
   | true=>k ((s.add (s.cR d) (.box t true (dO v))).put d (.loc (s.cR d) 0))
   | false=>none
  | none=>none
 | false=>none
theorem Q2 {d:Nat}{t:TypeId}{x:Operand}(hl:a5 s) (h:Ph s d t x k=some r):fC P W s ⟨some d,.box t x,ty,pos,after,guard⟩ k r:=by
 unfold Ph at h
 split at h
 ·rename_i hf
  split at h
  ·rename_i v hv
   split at h
   ·rename_i ho
    have hn:TV.has.go (s.cR d) (dO v)=false:=Nd v (PZ hv (free_spec hf).2.1)
    obtain⟨e1,_⟩:=oE hf (.box t true (dO v)) hn
    refine .one _ (EF.box (s.cR d) (bh hv) (qO ho s.ln) (gq hf)) ?_ ((hl.add _ hf).put _ _) ⟨rfl,rfl,rfl⟩ h
    rw[fE,e1]
    rw[uR ho s.ln]
    exact Gh.refl _
   ·cases h
  ·cases h
 ·cases h
def IV (P:Program) (s:ah S) (d:Nat) (t:TypeId){A:Type}(k:ah S→Option A):Option A:=
 match s.free (s.cR d) with
 | true=>match (P.info? t).bind (·.zero) with
  | some z=>k ((s.add (s.cR d) (.box t true (z.cells.toList.map uJ))).put d (.loc (s.cR d) 0))
  | none=>none
 | false=>none
theorem Mb (k:Nat) (l:List Value):TV.has.go k (l.map (uJ (S:=S)))=false:=by
 induction l with
 | nil=>rfl
 | cons v r ih=>simp only[aJ,TV.has.go,ih,Bool.or_false];cases v <;> rfl
theorem NX (ln:Nat→Nat) (l:List Value):TV.er.go ln (l.map (uJ (S:=S)))=l.map .val:=by
 rw[cU,fR]
 exact eB fun v _=>Gm ln v
theorem NP {t:TypeId}{z:Value}(h:(P.info? t).bind (·.zero)=some z):∀w,(zeroValue t).run P w=.ok z w:=by
 intro w
 cases hi:P.info? t with
 | none=>rw[hi] at h;cases h
 | some i=>
  rw[hi] at h
  have h:i.zero=some z:=h
  simp[zeroValue,typeInfo,hi,h]
theorem NJ {d:Nat}{t:TypeId}(hl:a5 s) (h:IV P s d t k=some r):fC P W s ⟨some d,.alloc t,ty,pos,after,guard⟩ k r:=by
 unfold IV at h
 split at h
 ·rename_i hf
  split at h
  ·rename_i z hz
   obtain⟨e1,_⟩:=oE hf (.box t true (z.cells.toList.map uJ)) (Mb _ _)
   refine .one _ (EF.alloc (s.cR d) (NP hz) (gq hf)) ?_ ((hl.add _ hf).put _ _) ⟨rfl,rfl,rfl⟩ h
   rw[fE,e1]
   simp only[TO.er,NX]
   exact Gh.refl _
  ·cases h
 ·cases h
def FK (τ:Ty) (z:Value):Option (S.D τ):=
 match τ with
 | .st n=>match Cm (.st n) (.agg (z.cells.toList.map uJ)) with
  | some x=>some x.2
  | none=>none
 | τ=>match mT τ (uJ z) with
  | some x=>match z.cells.toList with
   | [_]=>some x.2
   | _=>none
  | none=>none
theorem Gy {τ:Ty}{u:Value}{f:Bool}{a:S.D τ}(h:mT τ (uJ u)=some (f,a)):iE u=dC S τ a:=by
 unfold mT at h
 split at h
 ·rename_i f' τ' a' e
  split at h
  ·cases h
  ·split at h
   ·rename_i b hb
    cases h
    have:=ec hb
    cases this
    cases u <;> simp only[uJ] at e <;> cases e <;> rfl
   ·cases h
 ·rename_i e
  split at h
  ·cases h
   cases u <;> simp only[uJ] at e <;> cases e
   rfl
  ·cases h
 ·cases h
theorem Md:∀{ts:List Ty}{us:List Value}{f:Bool}{l:List (br S.α)},DG ts (us.map uJ)=some (f,l)→us.map iE=l.map fun x=>dC S x.τ x.a
 | [],[],_,_,h=>by cases h;rfl
 | τ::ts,u::us,f,l,h=>by
  simp only[aJ,DG] at h
  split at h
  ·rename_i f1 a h1
   split at h
   ·rename_i g l' h2
    cases h
    simp only[aJ,Gy h1,Md h2]
   ·cases h
  ·cases h
 | [],_::_,_,_,h=>by cases h
 | _::_,[],_,_,h=>by cases h
theorem Gb {τ:Ty}{z:Value}{a:S.D τ}(h:FK τ z=some a):z.cells.toList.map iE=aN S τ a∧z.cells.size=S.sz τ:=by
 have key:z.cells.toList.map iE=aN S τ a:=by
  unfold FK at h
  split at h
  ·rename_i n
   split at h
   ·rename_i x hx
    cases h
    unfold Cm at hx
    dsimp only at hx
    split at hx
    ·rename_i f l h1
     split at hx
     ·rename_i a h2
      cases hx
      rw[gv,S.kI _ _ _ h2]
      exact Md h1
     ·cases hx
    ·cases hx
   ·cases h
  ·rename_i hns
   split at h
   ·rename_i x hx
    obtain⟨f,x⟩:=x
    split at h
    ·rename_i u hu
     cases h
     have hs:τ.fP=false:=by
      cases τ with
      | st n=>exact absurd rfl (hns n)
      | _=>rfl
     have hzu:z=u:=by
      have h3:=(Gy hx)
      cases z with
      | agg cs=>simp[uJ,mT] at hx
      | _=>simpa[Value.cells] using hu
     rw[hu,aJ,iB,kg S hs,←hzu,Gy hx]
    ·cases h
   ·cases h
 refine⟨key,?_⟩
 have:=congrArg List.length key
 rw[aW,qX,Array.length_toList] at this
 exact this
def CR (P:Program) (s:ah S) (d:Nat) (t:TypeId) (x y:Operand){A:Type}(k:ah S→Option A):Option A:=
 match s.free (s.cR d) with
 | true=>match P.underlying t with
  | some (.slice e)=>match S.Px e with
   | some τ=>match P.info? e with
    | some i=>match i.zero with
     | some z=>match FK τ z with
      | some a=>match cn s x with
       | some (.ab _ (.int _) n)=>match cn s y with
        | some (.ab _ (.int _) c)=>match decEq i.size (S.sz τ) with
         | isTrue _=>(bo (0≤n∧n≤c∧(i.bytes:Int)*c≤281474976710656∧c≤9223372036854775807)).bind fun _=>
          k ((s.add (s.cR d) (.aV e true true τ (List.replicate (Int.toNat n) a))).put d (.aR (s.cR d) τ))
         | isFalse _=>none
        | _=>none
       | _=>none
      | none=>none
     | none=>none
    | none=>none
   | none=>none
  | _=>none
 | false=>none
theorem Ou {d:Nat}{t:TypeId}{x y:Operand}(hl:a5 s) (h:CR P s d t x y k=some r):fC P W s ⟨some d,.makeSlice t x y,ty,pos,after,guard⟩ k r:=by
 unfold CR at h
 split at h
 ·rename_i hf
  split at h
  ·rename_i e hu
   split at h
   ·rename_i τ _
    split at h
    ·rename_i i hi
     split at h
     ·rename_i z hz
      split at h
      ·rename_i a ha
       split at h
       ·rename_i n hx
        split at h
        ·rename_i c hy
         split at h
         ·rename_i hs _
          obtain⟨u,hc,h⟩:=bind_some h
          obtain⟨c1,c2,c3,c4⟩:=cm hc
          obtain⟨z1,z2⟩:=Gb ha
          obtain⟨e1,hag⟩:=oE hf (.aV e true true τ (List.replicate (Int.toNat n) a)) rfl
          letI:=jG S τ
          refine .one _ (ET.CR (α:=S.D τ) (x:=a) (sz:=S.sz τ) (bt:=i.bytes) (s.cR d) (jm hx) (jm hy) hu (by rw[hi,bL,hz,hs]) z2 rfl z1 c1 c2 c3 c4 (gq hf)) ?_ ((hl.add _ hf).put _ _) ⟨rfl,rfl,rfl⟩ h
          rw[fE,e1]
          have e2:(TV.aR (s.cR d) τ:TV S).er (s.add (s.cR d) (.aV e true true τ (List.replicate (Int.toNat n) a))).ln=.aR (s.cR d) (S.sz τ) 0 (List.replicate (Int.toNat n) a).length:=by
           show G.aR _ _ _ ((s.add (s.cR d) _).ln (s.cR d))=_
           rw[show(s.add (s.cR d) (.aV e true true τ (List.replicate (Int.toNat n) a))).ln (s.cR d)=_ from tV _ _]
           rfl
          rw[e2]
          exact Gh.refl _
         ·cases h
        ·cases h
       ·cases h
      ·cases h
     ·cases h
    ·cases h
   ·cases h
  ·cases h
 ·cases h
end
end
end Go.DN
/-
 DN,part I:values as plain data,cell by cell;slices built;stores.
-/
namespace Go.DN
open Go.AM
def Pl (m:G):Prop:=(∃u,m=.val u)∨∃n cs,m=.sl n cs
theorem JZ {O:Nat→Prop}{base:Nat}{w:World}{μ:Mu}{f:Bool}{m:G}{v:Value}(hm:Pl m) (h:aY O base w μ (dw f m) v):bG (bif f then eA O base else O) w m v:=by
 rcases hm with ⟨u,rfl⟩ | ⟨n,cs,rfl⟩
 ·have:dw f (.val u)=.val u:=by cases f <;> rfl
  rw[this] at h
  cases h with
  | aH h=>cases h;exact .val _
 ·cases f with
  | true=>cases h with
   | aH h=>cases h
   | fr h=>exact h
  | false=>cases h with
   | aH h=>exact h
theorem Pl.one {m:G}(hm:Pl m):∀{g:G}(f:Bool),g.one=true→True:=fun _ _=>trivial
section
variable {S:eE}
theorem wz {τ:Ty}(h:τ.fP=false) (a:S.D τ):Pl (dC S τ a):=by
 cases τ with
 | st n=>cases h
 | list t=>exact .inr ⟨_,_,rfl⟩
 | _=>exact .inl ⟨_,rfl⟩
theorem sf (τ:Ty) (a:S.D τ):∀m∈aN S τ a,Pl m:=by
 intro m hm
 cases τ with
 | st n=>
  rw[gv] at hm
  obtain⟨x,hx,rfl⟩:=gS.1 hm
  exact wz (jU n a x hx) x.a
 | _=>rw[kg S rfl] at hm;simp at hm;subst hm;exact wz rfl a
theorem QT (τ:Ty) (l:List (S.D τ)):∀m∈List.flatMap (aN S τ) l,Pl m:=by
 intro m hm
 obtain⟨a,_,h⟩:=ib.1 hm
 exact sf τ a m h
def wM (gs:List G) (f:Bool) (ms:List G):Prop:=gs.length=ms.length∧∀(j:Nat) (m:G),ms[j]?=some m→∃g,gs[j]?=some g∧RW g (dw f m)
theorem wM.flag {gs ms:List G}{f f':Bool}(h:wM gs f ms) (hf:f'=true→f=true):wM gs f' ms:=⟨h.1,fun j m hm=>let ⟨g,h1,h2⟩:=h.2 j m hm;⟨g,h1,h2.trans (RW.dw _ _ _ hf)⟩⟩
theorem wM.append {gs ms gs' ms':List G}{f:Bool}(h:wM gs f ms) (h':wM gs' f ms'):wM (gs++gs') f (ms++ms'):=by
 refine⟨by simp[h.1,h'.1],fun j m hm=>?_⟩
 rw[a9] at hm⊢
 rw[h.1]
 split at hm
 ·rename_i hj;rw[if_pos hj];exact h.2 j m hm
 ·rename_i hj;rw[if_neg hj];exact h'.2 _ m hm
theorem ED {τ:Ty}{v:TV S}{f:Bool}{a:S.D τ}(h:Cm τ v=some (f,a)) (ln:Nat→Nat):wM (cK (v.er ln)) f (aN S τ a):=by
 unfold Cm at h
 split at h
 ·rename_i f' τ' a'
  split at h
  ·rename_i b hb
   cases h
   have:=ec hb
   cases this
   cases τ with
   | st n=>
    have e:(f'||(Ty.st n).fZ)=f':=by cases f' <;> rfl
    rw[e]
    refine⟨by show((aN S (.st n) a).map (dw f')).length=_;rw[aW],fun j m hm=>⟨dw f' m,?_,RW.refl _⟩⟩
    show((aN S (.st n) a).map (dw f'))[j]?=_
    rw[ay,hm];rfl
   | list t=>
    have e:(f'||(Ty.list t).fZ)=f':=by cases f' <;> rfl
    rw[e,kg S rfl]
    refine⟨by cases f' <;> rfl,fun j m hm=>⟨dw f' m,?_,RW.refl _⟩⟩
    cases j with
    | zero=>cases hm;cases f' <;> rfl
    | succ j=>cases hm
   | _=>
    rw[kg S rfl]
    refine⟨by cases f' <;> rfl,fun j m hm=>⟨dw f' m,?_,?_⟩⟩
    ·cases j with
     | zero=>cases hm;cases f' <;> rfl
     | succ j=>cases hm
    ·cases j with
     | zero=>cases hm;cases f' <;> exact RW.refl _
     | succ j=>cases hm
  ·cases h
 ·split at h
  ·cases h
   refine⟨rfl,fun j m hm=>⟨.val (.slice none 0 0),?_,?_⟩⟩
   ·cases j with
    | zero=>rfl
    | succ j=>cases hm
   ·cases j with
    | zero=>cases hm;exact RW.nil
    | succ j=>cases hm
  ·cases h
 ·split at h
  ·rename_i _ vs _ n
   split at h
   ·rename_i f1 l h1
    split at h
    ·rename_i a1 h2
     cases h
     obtain⟨i1,i2⟩:=DF ln h1
     have h3:=S.kI n l a h2
     rw[gv,h3]
     show wM (TV.er.go ln vs) _ _
     rw[cU]
     refine⟨by simp[i1],fun j m hm=>?_⟩
     rw[ay] at hm
     obtain⟨x,hx,rfl⟩:=av.1 hm
     obtain⟨v,h4,h5⟩:=i2 j x hx
     exact⟨v.er ln,by rw[ay,h4];rfl,h5⟩
    ·cases h
   ·cases h
  ·cases h
 ·cases h
theorem Gh.pure {s:St}{h:Nat}{k:ap}{cs:List G}{f:Bool}(hk:aq s.st h=some k) (hp:k.pure=false) (hlp:k.lp=none) (hpl:∀m∈cs,Pl m) (hc:wM k.cells f cs):
  Gh s {fr:=s.fr,st:=bD s.st h {k with pure:=true,fresh:=f,cells:=cs},df:=s.df}:=by
 refine Gh.of (fun N cx μ a w hr=>hr.vV hk rfl rfl rfl (by dsimp only;rw[hc.1];exact az _) hlp hlp fun j g' hg'=>?_) fun x k1 hx=>?_
 ·obtain⟨g,h1,h2⟩:=hc.2 j g' hg'
  refine⟨g,h1,fun v hv=>?_⟩
  unfold cz at hv⊢
  rw[hp] at hv
  exact JZ (hpl g' (ar hg')) (h2 _ _ _ _ _ hv)
 ·rcases cI hk hx with ⟨e,_⟩ | ⟨_,h1⟩
  ·subst e;exact⟨k,hk⟩
  ·exact⟨k1,h1⟩
def KA (τ:Ty):List (TV S)→Option (Bool×List (S.D τ))
 | []=>some (true,[])
 | v::r=>match Ho v with
  | true=>match Cm τ v with
   | some (f,a)=>match KA τ r with
    | some (g,l)=>some (f&&g,a::l)
    | none=>none
   | none=>none
  | false=>none
theorem Ji {τ:Ty}(ln:Nat→Nat):∀{vs:List (TV S)}{f:Bool}{l:List (S.D τ)},KA τ vs=some (f,l)→
  pp (S.sz τ) (TV.er.go ln vs)=true∧l.length=vs.length∧wM ((TV.er.go ln vs).flatMap cK) f (List.flatMap (aN S τ) l)
 | [],_,_,h=>by cases h;exact⟨rfl,rfl,rfl,fun j m h=>by simp at h⟩
 | v::r,f,l,h=>by
  simp only[KA] at h
  split at h
  ·rename_i ho
   split at h
   ·rename_i f1 a h1
    split at h
    ·rename_i g l' h2
     cases h
     obtain⟨i1,i2,i3⟩:=Ji ln h2
     have h3:=ED h1 ln
     refine⟨?_,by simp[i2],?_⟩
     ·simp only[TV.er.go,pp,aj]
      refine⟨⟨qO ho ln,?_⟩,i1⟩
      rw[h3.1,qX];exact aI _
     ·simp only[TV.er.go,cp]
      exact(h3.flag fun h=>by simp at h;exact h.1).append (i3.flag fun h=>by simp at h;exact h.2)
    ·cases h
   ·cases h
  ·cases h
def vZ (s:ah S):List (Nat×Operand)→Nat→Option (List (TV S))
 | [],_=>some []
 | (i,x)::r,j=>match Nat.beq i j with
  | true=>match cn s x with
   | some v=>match vZ s r (j+1) with
    | some vs=>some (v::vs)
    | none=>none
   | none=>none
  | false=>none
theorem yX {s:ah S}:∀{l:List (Nat×Operand)}{j:Nat}{vs:List (TV S)},vZ s l j=some vs→Il s.er l j=some (TV.er.go s.ln vs)
 | [],_,_,h=>by cases h;rfl
 | (i,x)::r,j,vs,h=>by
  simp only[vZ] at h
  split at h
  ·rename_i hb
   split at h
   ·rename_i v hv
    split at h
    ·rename_i vs' hr
     cases h
     simp only[Il,hb,bh hv,yX hr,TV.er.go]
    ·cases h
   ·cases h
  ·cases h
section
variable {P:Program}{W:List Nat}{s:ah S}{ty:TypeId}{pos:String}{after:Array Edge}{guard:Option (Nat×Bool)}{A:Type}{k:ah S→Option A}{r:A}
def Pg (P:Program) (s:ah S) (d:Nat) (t:TypeId) (n:Nat) (parts:Array (Nat×Operand)){A:Type}(k:ah S→Option A):Option A:=
 match s.free (s.cR d) with
 | true=>match P.underlying t with
  | some (.slice e)=>match S.Px e with
   | some τ=>match P.info? e with
    | some i=>match i.zero with
     | some _=>match decEq i.size (S.sz τ) with
      | isTrue _=>match parts.toList with
       | []=>match n with
        | 0=>k ((s.add (s.cR d) (.aV e true true τ [])).put d (.aR (s.cR d) τ))
        | _=>none
       | p::ps=>match vZ s (p::ps) 0 with
        | some vs=>match KA τ vs with
         | some (f,l)=>match Nat.beq vs.length n&&(Nat.ble (n*S.sz τ) 16777216&&Nat.blt 0 n) with
          | true=>k ((s.add (s.cR d) (.aV e true f τ l)).put d (.aR (s.cR d) τ))
          | false=>none
         | none=>none
        | none=>none
      | isFalse _=>none
     | none=>none
    | none=>none
   | none=>none
  | _=>none
 | false=>none
theorem Hh {s:ah S}{h:Nat}{e:TypeId}{m f:Bool}{τ:Ty}{l:List (S.D τ)}:(TV.aR h τ:TV S).er (s.add h (.aV e m f τ l)).ln=.aR h (S.sz τ) 0 l.length:=by
 show G.aR _ _ _ ((s.add h _).ln h)=_
 rw[show(s.add h (.aV e m f τ l)).ln h=_ from tV _ _]
 rfl
theorem Mi {h:Nat}{k k':ap}{r:List (Nat×ap)}:bD ((h,k)::r) h k'=(h,k')::r:=by
 simp only[bD,aI,cond_true]
theorem Q1 {d:Nat}{t:TypeId}{n:Nat}{parts:Array (Nat×Operand)}(hl:a5 s) (h:Pg P s d t n parts k=some r):fC P W s ⟨some d,.buildSlice t n parts,ty,pos,after,guard⟩ k r:=by
 unfold Pg at h
 split at h
 ·rename_i hf
  split at h
  ·rename_i e hu
   split at h
   ·rename_i τ _
    split at h
    ·rename_i i hi
     split at h
     ·rename_i z hz
      split at h
      ·rename_i hs _
       have hinfo:(P.info? e).map (fun i=>(i.zero,i.size,i.bytes))=some (some z,S.sz τ,i.bytes):=by rw[hi,bL,hz,hs]
       split at h
       ·rename_i hp
        have:=Jg hp
        subst this
        split at h
        ·obtain⟨e1,_⟩:=oE hf (.aV e true true τ ([]:List (S.D τ))) rfl
         refine .one _ (EF.Je (s.cR d) hu hinfo (gq hf)) ?_ ((hl.add _ hf).put _ _) ⟨rfl,rfl,rfl⟩ h
         rw[fE,e1,Hh]
         exact Gh.refl _
        ·cases h
       ·rename_i p ps hp
        split at h
        ·rename_i vs hv
         split at h
         ·rename_i f l ht
          split at h
          ·rename_i hc
           simp only[aj] at hc
           obtain⟨c1,c2,c3⟩:=hc
           have c1:=aa c1
           have c2:=eX c2
           have c3:0<n:=by simpa[fW] using c3
           obtain⟨i1,i2,i3⟩:=Ji s.ln ht
           obtain⟨e1,_⟩:=oE hf (.aV e true f τ l) rfl
           refine .one _ (EF.buildSlice (sz:=S.sz τ) (z:=z) (bt:=i.bytes) (s.cR d) (gs:=TV.er.go s.ln vs) (by rw[hp];exact yX hv) (by rw[cU,aW,c1]) hu hinfo (Nat.mul_pos c3 (Cn S τ)) c2 i1 (gq hf)) ?_ ((hl.add _ hf).put _ _) ⟨rfl,rfl,rfl⟩ h
           rw[fE,e1,Hh,i2,c1]
           have:=Gh.pure (s:={fr:=(d,.aR (s.cR d) (S.sz τ) 0 n)::s.er.fr,st:=(s.cR d,⟨e,false,true,false,S.sz τ,(TV.er.go s.ln vs).flatMap cK,none⟩)::s.er.st,df:=s.er.df}) (h:=s.cR d)
            (dv _ _ _) rfl rfl (QT τ l) i3
           rw[Mi] at this
           exact this
          ·cases h
         ·cases h
        ·cases h
      ·cases h
     ·cases h
    ·cases h
   ·cases h
  ·cases h
 ·cases h
end
end
end Go.DN
/-
 DN,part J:stores.
-/
namespace Go.DN
open Go.AM
section
variable {P:Program}{W:List Nat}{s:St}{ty:TypeId}{pos:String}{after:Array Edge}{guard:Option (Nat×Bool)}
theorem EF.Jj {t:TypeId}{x y:Operand}{h off sz:Nat}{k:ap}{g:G}{gs ms cells':List G}{f:Bool}(hx:ev s x=some (.loc h off)) (hy:ev s y=some g) (hk:aq s.st h=some k) (hp:k.pure=true)
  (hok:CY g=true) (hgs:cK g=gs) (hone:gs.all G.one=true) (hl:gs.length=sz) (hsz:∀w,(sizeOf t).run P w=.ok sz w) (hoff:off+sz≤k.cells.length) (hW:W.contains h=true)
  (hms:wM gs f ms) (hpl:∀m∈ms,Pl m)
  (hc':k.cells.take off++ms++k.cells.drop (off+sz)=cells') (hlp:k.lp=none):
  bN P W s ⟨none,.store t x y,ty,pos,after,guard⟩ (·={fr:=s.fr,st:=bD s.st h {k with fresh:=k.fresh&&f,cells:=cells'},df:=s.df}):=by
 refine bN.skip rfl (fun _ h=>by cases h) ?_
 intro N cx μ a w hr
 obtain⟨b,m,e1,hm⟩:=hr.loc hx
 obtain⟨cs,h1,h2,h3,h4,hbt,h5⟩:=hr.own hk hm hlp
 obtain⟨hvl,hvc⟩:=(hr.ev hy).cells hok
 rw[hgs] at hvl hvc
 have hml:ms.length=sz:=hms.1▸hl
 have hlen:(a.eval y).cells.toList.length=sz:=by rw[Array.length_toList,hvl,hl]
 have hrun:=run_storeCells_at P b off k.bP (a.eval y).cells.toList 0 cs w h1 (by rw[hlen];omega) (fun v hv=>by
  obtain⟨j,hj⟩:=bR hv
  have hjl:j<gs.length:=by
   have:=(al.1 hj).1
   omega
  obtain⟨u,hu,hru⟩:=hvc j gs[j] (ag hjl)
  rw[bq] at hj
  rw[hj] at hu
  cases hu
  exact hru.one (dM.1 hone _ (dE hjl)))
 rw[dq,hlen] at hrun
 refine⟨μ,w.setRow b (cs.toList.take off++(a.eval y).cells.toList++cs.toList.drop (off+sz)).toArray,?_,?_⟩
 ·simp only[execOp,Instr.storeAt,Instr.sureAddr,e1,storeVar,hsz,Sem.run_bind,Sem.run_pure,Result.andThen_ok]
  rw[if_neg (by rw[hvl,hl];simp)]
  rw[hrun]
  rfl
 ·subst hc'
  refine hr.write (k':={k with fresh:=k.fresh&&f,cells:=k.cells.take off++ms++k.cells.drop (off+sz)}) hk hm (fY h1) ?_ (setRow_size _ _ _) (fun b' hb'=>setRow_other w b b' _ hb') rfl rfl rfl id ?_ hbt ?_ W hW hlp
  ·simp only[kD,ak,aX,cr,Array.length_toList,hvl,hl];omega
  ·simp only[ak,aX,cr,hml];omega
  ·intro j g' hg'
   have fo:∀(j:Nat),(cs.toList.take off++(a.eval y).cells.toList++cs.toList.drop (off+sz)).toArray[j]?=if j<off then cs[j]? else if j<off+sz then(a.eval y).cells[j-off]? else cs[j]?:=by
    intro j
    rw[km,aC,a9,aX,Array.length_toList,dy (by omega:off≤cs.size)]
    split
    ·rename_i hj;rw[bf,if_pos hj,bq]
    ·rw[a9,hlen]
     split
     ·rename_i hj1 hj2;rw[if_pos (by omega),bq]
     ·rename_i hj1 hj2;rw[if_neg (by omega),bj,bq];congr 1;omega
   dsimp only at hg'
   rw[aC,a9,aX,dy (by omega:off≤k.cells.length)] at hg'
   rw[fo]
   split at hg'
   ·rename_i hj
    rw[if_pos hj]
    rw[bf,if_pos hj] at hg'
    obtain⟨v,hv,hrv⟩:=h5 j g' hg'
    refine⟨v,hv,?_⟩
    unfold cz at hrv⊢
    dsimp only
    rw[hp] at hrv⊢
    exact hrv.flag fun h=>by simp at h;exact h.1
   ·rename_i hj
    rw[if_neg hj]
    rw[a9,hml] at hg'
    split at hg'
    ·rename_i hj2
     rw[if_pos (by omega)]
     obtain⟨g0,hg0,hw0⟩:=hms.2 _ g' hg'
     obtain⟨v,hv,hrv⟩:=hvc _ g0 hg0
     refine⟨v,hv,?_⟩
     unfold cz
     dsimp only
     rw[hp]
     exact(JZ (hpl g' (ar hg')) (hw0 _ _ _ _ _ hrv)).flag fun h=>by simp at h;exact h.2
    ·rename_i hj2
     rw[if_neg (by omega)]
     rw[bj] at hg'
     have:off+sz+(j-off-sz)=j:=by omega
     rw[this] at hg'
     obtain⟨v,hv,hrv⟩:=h5 j g' hg'
     refine⟨v,hv,?_⟩
     unfold cz at hrv⊢
     dsimp only
     rw[hp] at hrv⊢
     exact hrv.flag fun h=>by simp at h;exact h.1
end
section
variable {S:eE}
theorem eR (τ:Ty) (l:List (S.D τ)):(List.flatMap (aN S τ) l).length=l.length*S.sz τ:=@eT _ (jG S τ) l
theorem nU (τ:Ty) (l:List (S.D τ)) (n:Nat):(List.flatMap (aN S τ) l).take (n*S.sz τ)=List.flatMap (aN S τ) (l.take n):=@zy _ (jG S τ) l n
theorem nV (τ:Ty) (l:List (S.D τ)) (n:Nat):(List.flatMap (aN S τ) l).drop (n*S.sz τ)=List.flatMap (aN S τ) (l.drop n):=@zz _ (jG S τ) l n
theorem iI (τ:Ty) (l m:List (S.D τ)):List.flatMap (aN S τ) (l++m)=List.flatMap (aN S τ) l++List.flatMap (aN S τ) m:=List.flatMap_append
theorem Ns (τ:Ty){l:List (S.D τ)}{i:Nat}{a b:S.D τ}(hi:l[i]?=some b):List.flatMap (aN S τ) (l.set i a)=(List.flatMap (aN S τ) l).take (i*S.sz τ)++aN S τ a++(List.flatMap (aN S τ) l).drop (i*S.sz τ+S.sz τ):=by
 have hlt:=(al.1 hi).1
 rw[cL,if_pos hlt,iI,cp,nU]
 have:i*S.sz τ+S.sz τ=(i+1)*S.sz τ:=by rw[dD,Nat.one_mul]
 rw[this,nV,aC]
theorem Fl (n:Nat){l:List (S.α n)}{i j:Nat}{a b:S.α n}{x:br S.α}(hi:l[i]?=some b) (hj:j<(S.cells n b).length) (ha:S.cells n a=(S.cells n b).set j x):
  List.flatMap (aN S (.st n)) (l.set i a)=(List.flatMap (aN S (.st n)) l).take (i*S.sz (.st n)+j)++[dC S x.τ x.a]++(List.flatMap (aN S (.st n)) l).drop (i*S.sz (.st n)+j+1):=by
 have hlt:=(al.1 hi).1
 have hlen:(S.cells n b).length=S.sz (.st n):=by
  have:=congrArg List.length (S.mS n b)
  rw[aW] at this
  exact this
 have hsplit:List.flatMap (aN S (.st n)) l=List.flatMap (aN S (.st n)) (l.take i)++((S.cells n b).map (fun x=>dC S x.τ x.a)++List.flatMap (aN S (.st n)) (l.drop (i+1))):=by
  have e:l=l.take i++b::l.drop (i+1):=by
   have:=(al.1 hi).2
   rw[←this,List.getElem_cons_drop,List.take_append_drop]
  conv=>lhs;rw[e]
  rw[iI,cp]
  show _++(aN S (.st n) b++_)=_
  rw[gv]
 have hset:List.flatMap (aN S (.st n)) (l.set i a)=List.flatMap (aN S (.st n)) (l.take i)++((S.cells n a).map (fun x=>dC S x.τ x.a)++List.flatMap (aN S (.st n)) (l.drop (i+1))):=by
  rw[cL,if_pos hlt,iI,cp]
  show _++(aN S (.st n) a++_)=_
  rw[gv]
 have hpre:(List.flatMap (aN S (.st n)) (l.take i)).length=i*S.sz (.st n):=by
  rw[eR,aX,dy (Nat.le_of_lt hlt)]
 rw[hset,hsplit,ha]
 generalize List.flatMap (aN S (.st n)) (l.take i)=pre at hpre
 generalize List.flatMap (aN S (.st n)) (l.drop (i+1))=post
 generalize S.cells n b=cb at hj
 have e1:(pre++(cb.map (fun x=>dC S x.τ x.a)++post)).take (i*S.sz (.st n)+j)=pre++(cb.map (fun x=>dC S x.τ x.a)).take j:=by
  rw[List.take_append,hpre,b8 (by omega),List.take_append]
  have:i*S.sz (.st n)+j-i*S.sz (.st n)=j:=by omega
  rw[this]
  have:j-(cb.map (fun x=>dC S x.τ x.a)).length=0:=by rw[aW];omega
  rw[this,List.take_zero,cc]
 have e2:(pre++(cb.map (fun x=>dC S x.τ x.a)++post)).drop (i*S.sz (.st n)+j+1)=(cb.map (fun x=>dC S x.τ x.a)).drop (j+1)++post:=by
  rw[List.drop_append,hpre,List.drop_of_length_le (by omega),dj,List.drop_append]
  have:i*S.sz (.st n)+j+1-i*S.sz (.st n)=j+1:=by omega
  rw[this]
  have:j+1-(cb.map (fun x=>dC S x.τ x.a)).length=0:=by rw[aW];omega
  rw[this,eH]
 rw[e1,e2,kE,cL,if_pos (by rw[aW];exact hj)]
 simp only[aC,bx,dj]
theorem NC {τ:Ty}(hs:τ.fZ=true) (x:S.D τ):∃u,dC S τ x=.val u:=by
 cases τ with
 | list _=>cases hs
 | st _=>cases hs
 | _=>exact⟨_,rfl⟩
theorem O6 {f:Bool}{τ:Ty}(hs:τ.fZ=true){x:S.D τ}{u:Value}(hu:dC S τ x=.val u):nq f τ x=.val u:=by
 rw[←hu]
 cases τ with
 | list _=>cases hs
 | st _=>cases hs
 | _=>cases f <;> rfl
theorem Nw {f:Bool}{τ:Ty}(hs:τ.fZ=true){x:S.D τ}:dO (TV.ab f τ x:TV S)=[.ab f τ x]:=by
 cases τ with
 | list _=>cases hs
 | st _=>cases hs
 | _=>rfl
def Ed {A:Type}:(τ':Ty)→S.D τ'→Ty→Nat→Nat→TV S→(S.D τ'→Option A)→Option A
 | .list (.list t),ll,τ,i,j,vy,k=>match t.fZ with
  | true=>match decEq τ t with
   | isTrue _=>match mT t vy with
    | some x=>(ll[i]?).bind fun r=>(bo (j<List.length r)).bind fun _=>k (List.set ll i (List.set r j x.2))
    | none=>none
   | isFalse _=>none
  | false=>none
 | _,_,_,_,_,_,_=>none
theorem Lw {A:Type}{r0:A}:∀{τ':Ty}{a:S.D τ'}{τ:Ty}{i j:Nat}{vy:TV S}{k:S.D τ'→Option A},Ed τ' a τ i j vy k=some r0→
  ∃(u:Value) (n:Nat) (gs:List G) (a':S.D τ'),S.sz τ=1∧(∀ln,vy.er ln=.val u)∧dO vy=[vy]∧(dH τ' a).2[i]?=some (n,gs)∧j<gs.length∧k a'=some r0∧sq τ' a'=sq τ' a∧
   (dH τ' a').1=(dH τ' a).1∧(dH τ' a').2=(dH τ' a).2.set i (n,gs.set j (.val u))
 | .list (.list t),ll,τ,i,j,vy,k,h=>by
  simp only[Ed] at h
  split at h
  ·rename_i hs
   split at h
   ·rename_i e _
    subst e
    split at h
    ·rename_i x hx
     obtain⟨r,h1,h⟩:=bind_some h
     obtain⟨_,h2,h⟩:=bind_some h
     have h2:=cm h2
     obtain⟨f,x⟩:=x
     have hst:τ.fP=false:=by cases τ <;> first | rfl | cases hs
     have hv:∃u,dC S τ x=.val u∧(∀ln,vy.er ln=.val u)∧dO vy=[vy]:=by
      unfold mT at hx
      split at hx
      ·split at hx
       ·cases hx
       ·rename_i hns
        split at hx
        ·rename_i b hb
         cases hx
         have:=ec hb
         cases this
         obtain⟨u,hu⟩:=NC hs x
         exact⟨u,hu,fun _=>O6 hs hu,Nw hs⟩
        ·cases hx
      ·split at hx
       ·cases hs
       ·cases hx
      ·cases hx
     obtain⟨u,hu,hv1,hv2⟩:=hv
     have hsz:S.sz τ=1:=by cases τ <;> first | rfl | cases hs
     have hone:∀l:List (S.D τ),List.flatMap (aN S τ) l=l.map (dC S τ):=by
      intro l
      induction l with
      | nil=>rfl
      | cons y r ih=>rw[cp,ih,kg S hst];rfl
     refine⟨u,List.length r,List.flatMap (aN S τ) r,_,hsz,hv1,hv2,by show(List.map _ ll)[i]?=_;rw[ay,h1];rfl,?_,h,?_,rfl,?_⟩
     ·rw[hone,aW];exact h2
     ·show(List.set ll i _).length=ll.length
      exact cW
     ·show List.map _ (List.set ll i _)=List.set (List.map _ ll) i _
      rw[kE]
      congr 1
      show(List.length (List.set r j x),List.flatMap (aN S τ) (List.set r j x))=_
      rw[cW,hone,hone,kE,hu]
    ·cases h
   ·cases h
  ·cases h
 | .list (.int _),_,_,_,_,_,_,h=>by cases h
 | .list .bool,_,_,_,_,_,_,h=>by cases h
 | .list .str,_,_,_,_,_,_,h=>by cases h
 | .list (.st _),_,_,_,_,_,_,h=>by cases h
 | .int _,_,_,_,_,_,_,h=>by cases h
 | .bool,_,_,_,_,_,_,h=>by cases h
 | .str,_,_,_,_,_,_,h=>by cases h
 | .st _,_,_,_,_,_,_,h=>by cases h
def Bi (ki:IntKind) (l:List Int) (i:Nat) (v:Int):List (TV S):=(List.range l.length).map fun m=>.ab true (.int ki) ((l.set i v).getD m 0)
theorem Qi (ki:IntKind) (cs:List (TV S)) (j i:Nat) (v:Int) (hi:i<(jO ki (cs.drop j)).length) (ln:Nat→Nat):
  (cs.take j++Bi ki (jO ki (cs.drop j)) i v++cs.drop (j+(jO ki (cs.drop j)).length)).map (TV.er ln)=(cs.map (TV.er ln)).set (j+i) (.val (.int ki v)):=by
 generalize hl:jO ki (cs.drop j)=l at hi
 have hg:∀m,m<l.length→∃f,cs[j+m]?=some (.ab f (.int ki) (l.getD m 0)):=fun m hm=>by
  have h1:(jO ki (cs.drop j))[m]?=some (l.getD m 0):=by rw[hl,aE,ag hm];rfl
  obtain⟨f,h2⟩:=u1 h1
  exact⟨f,by rwa[bj] at h2⟩
 have hjl:j+l.length≤cs.length:=by
  obtain⟨f,h⟩:=hg (l.length-1) (by omega)
  have:=(al.1 h).1
  omega
 have htl:(cs.take j).length=j:=by rw[aX];omega
 have hpl:(Bi (S:=S) ki l i v).length=l.length:=by unfold Bi;simp
 apply kF
 intro q
 rw[ay,dr,aW]
 by_cases h1:q<j
 ·rw[cH (by rw[ak,htl];omega),cH (by omega),bf,if_pos h1,if_neg (by omega),ay]
 ·by_cases h2:q<j+l.length
  ·obtain⟨m,rfl⟩:∃m,q=j+m:=⟨q-j,by omega⟩
   have hm:m<l.length:=by omega
   rw[cH (by rw[ak,htl,hpl];omega),cV (by omega),htl,show j+m-j=m by omega]
   unfold Bi
   rw[ay,iL hm,bL,bL]
   show some (nq true (.int ki) _)=_
   rw[qZ]
   by_cases h3:m=i
   ·subst h3
    rw[if_pos rfl,if_pos (by omega),aE,cG hm]
    rfl
   ·rw[if_neg (by omega),aE,eG (fun e=>h3 e.symm),←aE]
    obtain⟨f,h4⟩:=hg m hm
    rw[ay,h4]
    exact congrArg some (qZ f ki _).symm
  ·rw[cV (by rw[ak,htl,hpl];omega),ak,htl,hpl,bj,show j+l.length+(q-(j+l.length))=q by omega,if_neg (by omega),ay]
def OI (ki:IntKind):TV S→Option Int
 | .ab _ (.int k) a=>match decEq k ki with
  | isTrue _=>some a
  | isFalse _=>none
 | _=>none
theorem QE {ki:IntKind}{v:TV S}{a:Int}(h:OI ki v=some a):∃f,v=.ab f (.int ki) a:=by
 unfold OI at h
 split at h
 ·rename_i f k b
  split at h
  ·rename_i e _
   subst e
   cases h
   exact⟨f,rfl⟩
  ·cases h
 ·cases h
def yH (P:Program) (ok:Nat→Bool) (s:ah S) (t:TypeId) (x y:Operand){A:Type}(k:ah S→Option A):Option A:=
 match cn s y with
 | some vy=>match Ho vy&&CJ (dO vy) with
  | true=>match decEq (kz P t) (some (dO vy).length) with
   | isTrue _=>match cn s x with
    | some (.loc h off)=>match ok h with
     | true=>match aw s.st h with
      | some (.box e m cs)=>match Nat.ble (off+(dO vy).length) cs.length with
       | true=>k (s.set h (.box e m (cs.take off++dO vy++cs.drop (off+(dO vy).length))))
       | false=>none
      | _=>none
     | false=>none
    | some (.gK h τ i j)=>match ok h with
     | true=>match aw s.st h with
      | some (.aV e m f τ' l)=>match decEq τ' τ with
       | isTrue _=>De s x h l i fun y=>match Nat.beq (dO vy).length (S.sz τ') with
        | true=>match j with
         | 0=>match Cm τ' vy with
          | some (fy,a)=>k (s.set h (.aV e m (f&&fy) τ' (l.set i a)))
          | none=>none
         | _=>none
        | false=>match τ',l,y with
         | .st n,l,⟨.st n',b⟩=>match decEq n' n with
          | isTrue hn=>match (S.dl n)[j]? with
           | some τj=>match mT τj vy with
            | some (fy,a)=>match S.put n ((S.cells n' b).set j ⟨τj,a⟩) with
             | some b'=>k (s.set h (.aV e m (f&&fy) (.st n) (l.set i b')))
             | none=>none
            | none=>none
           | none=>none
          | isFalse _=>none
         | _,_,_=>none
       | isFalse _=>none
      | some (.box e m cs)=>match τ with
       | .int ki=>match OI ki vy with
        | some v=>(bo (i<(jO ki (cs.drop j)).length)).bind fun _=>k (s.set h (.box e m (cs.take j++Bi ki (jO ki (cs.drop j)) i v++cs.drop (j+(jO ki (cs.drop j)).length))))
        | none=>none
       | _=>none
      | _=>none
     | false=>none
    | some (.kp h τ i j)=>match ok h with
     | true=>match aw s.st h with
      | some (.deep e m f (.dK kty) τ' a)=>Ed τ' a τ i j vy fun a'=>k (s.set h (.deep e m f (.dK kty) τ' a'))
      | _=>none
     | false=>none
    | _=>none
   | isFalse _=>none
  | false=>none
 | none=>none
theorem KB {τ:Ty}{v:TV S}{f:Bool}{a:S.D τ}(h:mT τ v=some (f,a)) (ln:Nat→Nat):wM (cK (v.er ln)) f [dC S τ a]∧dO v=[v]:=by
 have ⟨h1,h2⟩:=DH h ln
 have hc:dO v=[v]:=by
  cases v with
  | ab f' τ' a'=>
   cases τ' with
   | st n=>simp[mT,Ty.fP] at h
   | _=>rfl
  | agg l=>simp[mT] at h
  | _=>rfl
 refine⟨?_,hc⟩
 have hg:cK (v.er ln)=[v.er ln]:=by
  cases v with
  | ab f' τ' a'=>
   cases τ' with
   | st n=>simp[mT,Ty.fP] at h
   | _=>cases f' <;> rfl
  | val u=>
   unfold mT at h
   split at h
   ·rename_i e;cases e
   ·rename_i e;cases e;rfl
   ·cases h
  | _=>simp[mT] at h
 rw[hg]
 refine⟨rfl,fun j m hm=>?_⟩
 cases j with
 | zero=>cases hm;exact⟨_,rfl,h2⟩
 | succ j=>cases hm
section
variable {P:Program}{W:List Nat}{s:ah S}{ty:TypeId}{pos:String}{after:Array Edge}{guard:Option (Nat×Bool)}{A:Type}{k:ah S→Option A}{r:A}
theorem Mf {t:TypeId}{x y:Operand}{hh n i j:Nat}{e:TypeId}{m f fy:Bool}{l:List (S.D (.st n))}{b b2:S.D (.st n)}{vy:TV S}{τj:Ty}{a:S.D τj}(hl:a5 s) (hx:cn s x=some (.gK hh (.st n) i j)) (hy:cn s y=some vy) (hok:Ho vy=true) (hones:CJ (dO vy)=true)
  (hsz:kz P t=some (dO vy).length) (hW:W.contains hh=true) (ho:aw s.st hh=some (.aV e m f (.st n) l)) (hb:l[i]?=some b) (hj:(S.dl n)[j]?=some τj) (ha:mT τj vy=some (fy,a)) (hp:S.put n ((S.cells n b).set j ⟨τj,a⟩)=some b2)
  (h:k (s.set hh (.aV e m (f&&fy) (.st n) (l.set i b2)))=some r):fC P W s ⟨none,.store t x y,ty,pos,after,guard⟩ k r:=by
 have hg:=uR hok s.ln
 have hil:=(al.1 hb).1
 have htot:(i+1)*S.sz (.st n)≤l.length*S.sz (.st n):=b7 _ hil
 rw[dD,Nat.one_mul] at htot
 obtain⟨hcs,ht1⟩:=KB ha s.ln
 have hlen:(S.cells n b).length=S.sz (.st n):=by
  have:=congrArg List.length (S.mS n b)
  rw[aW] at this
  exact this
 have hjl:j<S.sz (.st n):=(al.1 hj).1
 rw[ht1] at hsz hones hg
 have hcell:=S.kI _ _ _ hp
 have hset:=Fl n hb (by rw[hlen];exact hjl) hcell
 obtain⟨e2,_⟩:=lc (o':=.aV e m (f&&fy) (.st n) (l.set i b2)) ho (by show(l.set i b2).length=l.length;exact cW)
 refine .one _ (EF.Jj (f:=fy) (ms:=[dC S τj a]) (bh hx) (bh hy) (cQ (dU ho)) rfl (qO hok s.ln) hg (nK s.ln hones) (by rw[cU,aW]) (dA hsz)
  (by show i*S.sz (.st n)+j+1≤(List.flatMap (aN S (.st n)) l).length;rw[eR];omega) hW (hg▸hcs) (fun m hm=>by simp at hm;subst hm;exact wz (DH ha s.ln).1 a) rfl rfl) ?_ (hl.set ho _) ⟨rfl,rfl,rfl⟩ h
 rw[e2]
 have:(TO.aV e m (f&&fy) (.st n) (l.set i b2):TO S).er s.ln=⟨e,true,m,f&&fy,S.sz (.st n),(List.flatMap (aN S (.st n)) l).take (i*S.sz (.st n)+j)++[dC S τj a]++(List.flatMap (aN S (.st n)) l).drop (i*S.sz (.st n)+j+1),none⟩:=by
  simp only[TO.er]
  rw[hset]
 rw[this]
 exact Gh.refl _
theorem yG {ok:Nat→Bool}(hokW:∀h,ok h=true→W.contains h=true){t:TypeId}{x y:Operand}(hl:a5 s) (h:yH P ok s t x y k=some r):fC P W s ⟨none,.store t x y,ty,pos,after,guard⟩ k r:=by
 unfold yH at h
 split at h
 ·rename_i vy hy
  split at h
  ·rename_i hov
   simp only[aj] at hov
   obtain⟨hok,hones⟩:=hov
   have hg:=uR hok s.ln
   split at h
   ·rename_i hsz _
    split at h
    ·rename_i hh off hx
     split at h
     ·rename_i hW
      split at h
      ·rename_i e m cs ho
       split at h
       ·rename_i hb
        have hb:=eX hb
        obtain⟨e1,_⟩:=lc (o':=.box e m (cs.take off++dO vy++cs.drop (off+(dO vy).length))) ho rfl
        refine .one _ (EF.Me (bh hx) (bh hy) (cQ (dU ho)) rfl (qO hok s.ln) hg (nK s.ln hones) (by rw[cU,aW]) (dA hsz) (by show _≤(TV.er.go s.ln cs).length;rw[cU,aW];exact hb) (hokW _ hW) rfl) ?_ (hl.set ho _) ⟨rfl,rfl,rfl⟩ h
        rw[e1]
        have:(TO.box e m (cs.take off++dO vy++cs.drop (off+(dO vy).length)):TO S).er s.ln={(TO.box e m cs:TO S).er s.ln with cells:=((TO.box e m cs:TO S).er s.ln).cells.take off++TV.er.go s.ln (dO vy)++((TO.box e m cs:TO S).er s.ln).cells.drop (off+(dO vy).length)}:=by
         simp only[TO.er,cU,jC,List.map_take,List.map_drop]
        rw[this]
        exact Gh.refl _
       ·cases h
      ·cases h
     ·cases h
    ·rename_i hh τ i j hx
     split at h
     ·rename_i hW
      split at h
      ·rename_i e m f τ' l ho
       split at h
       ·rename_i e1 _
        subst e1
        obtain⟨b,hb,h2⟩:=BV hl ⟨j,hx⟩ (dU ho) h
        replace h:=h2
        clear h2
        have hil:=(al.1 hb).1
        have htot:(i+1)*S.sz τ'≤l.length*S.sz τ':=b7 _ hil
        rw[dD,Nat.one_mul] at htot
        split at h
        ·rename_i hc
         have hc:=aa hc
         split at h
         ·split at h
          ·rename_i fy a ha
           have hcs:=ED ha s.ln
           obtain⟨e2,_⟩:=lc (o':=.aV e m (f&&fy) τ' (l.set i a)) ho (by show(l.set i a).length=l.length;simp)
           refine .one _ (EF.Jj (f:=fy) (ms:=aN S τ' a) (bh hx) (bh hy) (cQ (dU ho)) rfl (qO hok s.ln) hg (nK s.ln hones) (by rw[cU,aW]) (dA hsz) (by show _≤(List.flatMap (aN S τ') l).length;rw[eR,hc];omega) (hokW _ hW) (hg▸hcs) (sf τ' a) rfl rfl) ?_ (hl.set ho _) ⟨rfl,rfl,rfl⟩ h
           rw[e2]
           have:(TO.aV e m (f&&fy) τ' (l.set i a):TO S).er s.ln=⟨e,true,m,f&&fy,S.sz τ',(List.flatMap (aN S τ') l).take (i*S.sz τ'+0)++aN S τ' a++(List.flatMap (aN S τ') l).drop (i*S.sz τ'+0+(dO vy).length),none⟩:=by
            simp only[TO.er]
            rw[Ns τ' hb,hc,dq]
           rw[this]
           exact Gh.refl _
          ·cases h
         ·cases h
        ·rename_i hc
         split at h
         ·rename_i n l' n' b' _ _ _
          split at h
          ·rename_i hn _
           subst hn
           split at h
           ·rename_i τj hj
            split at h
            ·rename_i fy a ha
             split at h
             ·rename_i b2 hp
              have he:=‹({τ:=Ty.st n,a:=b}:br S.α)={τ:=Ty.st n,a:=l'}›
              cases he
              exact Mf hl hx hy hok hones hsz (hokW _ hW) ho hb hj ha hp h
             ·cases h
            ·cases h
           ·cases h
          ·cases h
         ·cases h
       ·cases h
      ·rename_i e m cs ho
       split at h
       ·rename_i ki
        split at h
        ·rename_i v hiv
         obtain⟨fv,rfl⟩:=QE hiv
         ·obtain⟨_,hc,h⟩:=bind_some h
          have hc:=cm hc
          obtain⟨f0,hv0⟩:=u1 (ag hc)
          rw[bj] at hv0
          have hjl:=(al.1 hv0).1
          obtain⟨e1,_⟩:=lc (o':=.box e m (cs.take j++Bi ki (jO ki (cs.drop j)) i v++cs.drop (j+(jO ki (cs.drop j)).length))) ho rfl
          refine .one _ (EF.Me (bh hx) (bh hy) (cQ (dU ho)) rfl (qO hok s.ln) hg (nK s.ln hones) (by rw[cU,aW]) (dA hsz) (by
           show i*1+j+1≤(TV.er.go s.ln cs).length
           rw[cU,aW];omega) (hokW _ hW) rfl) ?_ (hl.set ho _) ⟨rfl,rfl,rfl⟩ h
          rw[e1]
          have:(TO.box e m (cs.take j++Bi ki (jO ki (cs.drop j)) i v++cs.drop (j+(jO ki (cs.drop j)).length)):TO S).er s.ln={(TO.box e m cs:TO S).er s.ln with cells:=((TO.box e m cs:TO S).er s.ln).cells.take (i*1+j)++TV.er.go s.ln (dO (.ab fv (.int ki) v:TV S))++((TO.box e m cs:TO S).er s.ln).cells.drop (i*1+j+1)}:=by
           simp only[TO.er,cU]
           rw[Qi ki cs j i v hc s.ln,cL,if_pos (by rw[aW];omega),show i*1+j=j+i by omega]
           have:(dO (.ab fv (.int ki) v:TV S)).map (TV.er s.ln)=[.val (.int ki v)]:=congrArg (fun g=>[g]) (qZ fv ki v)
           rw[this]
           simp
          rw[this]
          exact Gh.refl _
        ·cases h
       ·cases h
      ·cases h
     ·cases h
    ·rename_i hh τ i j hx
     split at h
     ·rename_i hW
      split at h
      ·rename_i e m f kty τ' a ho
       obtain⟨u,n,gs,a',hsz1,hv1,hv2,h1,h2,h0,h3,h4,h5⟩:=Lw h
       rw[hv2] at hsz
       obtain⟨e1,_⟩:=lc (o':=.deep e m f (.dK kty) τ' a') ho h3
       refine .one _ (EF.Eg (f:=true) (g:=.val u) (g':=.val u) (by rw[bh hx];rfl) (by rw[bh hy,hv1]) (cQ (dU ho)) rfl h1 (by rw[hsz1,ed];exact h2) rfl (by
        have:=nK s.ln hones
        rw[hv2] at this
        simpa[TV.er.go,hv1] using this) (dA hsz) (hokW _ hW)) ?_ (hl.set ho _) ⟨rfl,rfl,rfl⟩ h0
       rw[e1,hsz1,ed]
       have:(TO.deep e m f (.dK kty) τ' a':TO S).er s.ln=⟨e,true,m,f&&true,1,[],some (.deep (iu e kty (dH τ' a).1 ((dH τ' a).2.set i (n,gs.set j (.val u)))))⟩:=by
        show ap.mk _ _ _ _ _ _ (some (.deep (iu e kty (dH τ' a').1 (dH τ' a').2)))=_
        rw[h4,h5,jb]
       rw[this]
       exact Gh.refl _
      ·cases h
     ·cases h
    ·cases h
   ·cases h
  ·cases h
 ·cases h
end
end
end Go.DN
/-
 DN,part K:append.
-/
namespace Go.DN
open Go.AM
theorem bN.gh {P:Program}{W:List Nat}{s t:St}{o:Oper}{T:St→Prop}(h:Gh s t) (he:bN P W t o T):bN P W s o T:=by
 refine⟨he.1,fun N cx μ a w hr hd K Q hK=>?_⟩
 obtain⟨μ',h1,h2⟩:=h N cx μ a w hr
 refine he.2 N cx μ' a w h1 hd K Q fun μ2 s' a' w' hr' ht hst=>hK μ2 s' a' w' hr' ht ⟨hst.size,fun b hb hn=>hst.block b hb fun x k c m hx hk hm hi=>?_,fun x k' c m' b hx hk hm hi=>?_⟩
 ·obtain⟨k0,c0,m0,h3,h4,h5⟩:=h2 x k c m b hk hm hi
  exact hn x k0 c0 m0 hx h3 h4 h5
 ·rcases hst.hand x k' c m' b hx hk hm hi with ⟨h0,k,c1,m,h3,h4,h5,h5i⟩ | h3
  ·obtain⟨k0,c0,m0,h6,h7,h8⟩:=h2 h0 k c1 m b h4 h5 h5i
   exact .inl ⟨h0,k0,c0,m0,h3,h6,h7,h8⟩
  ·exact .inr h3
theorem Gh.l5 {s:St}{t:Nat}(hd:Nat) (k:ap) (hg:get s.fr t=some (.val (.slice none 0 0))) (hf:fresh s hd=true) (hk:k.cells=[]) (hlp:k.lp=none):
  Gh s {fr:=(t,.aR hd k.sz 0 0)::s.fr,st:=(hd,k)::s.st,df:=s.df}:=fun N cx μ a w h=>by
 obtain⟨h1,h2,h3,h5,h6⟩:=fc hf
 obtain⟨h4,hO⟩:=h.st.wh h1 h3 (gW h6) hk hlp
 refine⟨fV μ hd none,{st:=h4,nd:=(h.nd.mono (Kept.refl _ _) (fun b _=>hO b)).fH (fun g hg y hy=>aT fun e=>by subst e;rw[lX h5 hg] at hy;cases hy),sz:=h.sz,fr:=fun t' g hg'=>?_},Gh.same fun x k1 b m hx hm=>?_⟩
 ·rw[gH] at hg'
  cases hb:Nat.beq t t' with
  | true=>
   rw[hb] at hg'
   cases hg'
   have:=aa hb
   subst this
   obtain⟨v,hv,hr⟩:=h.fr t _ hg
   cases hr with
   | aH hr=>cases hr;exact⟨_,hv,.eQ hd k.sz (bz _ _ _)⟩
  | false=>
   rw[hb] at hg'
   obtain⟨v,hv,hr⟩:=h.fr t' g hg'
   refine⟨v,hv,(hr.mono (Kept.refl _ _) (fun b _=>hO b) (az _)).fH fun y hy=>aT ?_⟩
   intro e
   subst e
   rw[kQ h2 hg'] at hy
   cases hy
 ·by_cases e:x=hd
  ·subst e;rw[bz] at hm;cases hm
  ·rw[aT e] at hm
   exact⟨k1,by rw[←aD k _ e];exact hx,hm⟩
section
variable {S:eE}
def KG (s:ah S) (h:Nat) (τ:Ty):TV S→Option (Bool×List (S.D τ))
 | .ab f (.list τ') m=>match iw (.list τ') (.list τ) m with
  | some m=>some (f,m)
  | none=>none
 | .aR h2 τ2=>match Nat.beq h2 h with
  | true=>none
  | false=>match aw s.bi h2 with
   | some (.aV _ _ f τ' m)=>match decEq τ' τ2 with
    | isTrue _=>match iw (.list τ') (.list τ) m with
     | some m=>some (f,m)
     | none=>none
    | isFalse _=>none
   | _=>none
 | .sub h2 τ2 o n=>match Nat.beq h2 h with
  | true=>none
  | false=>match aw s.bi h2 with
   | some (.aV _ _ f τ' m)=>match decEq τ' τ2 with
    | isTrue _=>match iw (.list τ') (.list τ) m with
     | some m=>some (f,(m.drop o).take n)
     | none=>none
    | isFalse _=>none
   | _=>none
 | .val (.slice none 0 0)=>some (true,[])
 | _=>none
def KH (s:ah S) (v:TV S){A:Type}(k:Option A):Option A:=
 match v with
 | .sub h2 τ2 o n=>match aw s.bi h2 with
  | some (.aV _ _ _ _ m)=>(bo (o+n≤m.length)).bind fun _=>k
  | _=>none
 | _=>k
def LP (P:Program) (ok:Nat→Bool) (s:ah S) (d:Nat) (t h:Nat) (τ:Ty) (vy:TV S){A:Type}(k:ah S→Option A):Option A:=
 match ok h&&(Nat.blt h 1000&&(!(TV.has.go h s.df)&&(!(gr h s.lo)&&!(eL h s.bO)))) with
 | true=>match aw s.st h with
  | some (.aV e m f τ' l)=>match decEq τ' τ with
   | isTrue _=>match P.underlying t with
    | some (.slice e')=>match decEq e e' with
     | isTrue _=>match P.info? e with
      | some i=>match i.zero with
       | some z=>match decEq i.size (S.sz τ),decEq z.cells.size (S.sz τ) with
        | isTrue _,isTrue _=>match KG s h τ' vy with
         | some (fy,ml)=>KH s vy ((bo (List.length l+List.length ml≤maxLen∧(List.length l+List.length ml)*i.bytes≤140737488355328)).bind fun _=>
          k ((s.renew h (.aV e m (f&&(fy||τ'.fZ)) τ' (l++ml))).put d (.aR h τ')))
         | none=>none
        | _,_=>none
       | none=>none
      | none=>none
     | isFalse _=>none
    | _=>none
   | isFalse _=>none
  | _=>none
 | false=>none
theorem Gh.fZ {s:St}{h:Nat}{k:ap}{τ:Ty}{l:List (S.D τ)}(hs:τ.fZ=true) (hk:aq s.st h=some k) (hc:k.cells=List.flatMap (aN S τ) l) (hp:k.pure=true) (hlp:k.lp=none):
  Gh s {fr:=s.fr,st:=bD s.st h {k with fresh:=true},df:=s.df}:=by
 letI:=jG S τ
 haveI:Flat (S.D τ):=⟨fun a g hg=>by
  have hg:g∈aN S τ a:=hg
  cases τ with
  | int _=>exact⟨_,cu.1 hg⟩
  | bool=>exact⟨_,cu.1 hg⟩
  | str=>exact⟨_,cu.1 hg⟩
  | list _=>cases hs
  | st _=>cases hs
  | map=>cases hs⟩
 refine Gh.of (fun N cx μ a w hr=>hr.qH (l:=l) hk hc hp hlp) fun x k' hx=>?_
 rcases cI hk hx with ⟨rfl,_⟩ | ⟨_,h2⟩
 ·exact⟨k,hk⟩
 ·exact⟨k',h2⟩
theorem KF {h:Nat}{k k':ap}{r:List (Nat×ap)}:bD ((h,k)::r) h k'=(h,k')::r:=by
 simp[bD]
theorem Gh.Sr {fr:List (Nat×G)}{r:List (Nat×ap)}{df:List G}{h:Nat}{e:TypeId}{m f fy:Bool}{n:Nat}{τ:Ty}{l:List (S.D τ)}:
  Gh ⟨fr,(h,⟨e,true,m,f&&fy,n,List.flatMap (aN S τ) l,none⟩)::r,df⟩ ⟨fr,(h,⟨e,true,m,f&&(fy||τ.fZ),n,List.flatMap (aN S τ) l,none⟩)::r,df⟩:=by
 cases hs:τ.fZ with
 | false=>rw[Bool.or_false];exact Gh.refl _
 | true=>
  cases f with
  | false=>exact Gh.refl _
  | true=>
   rw[Bool.or_true,Bool.true_and]
   have hk:aq ((h,(⟨e,true,m,fy,n,List.flatMap (aN S τ) l,none⟩:ap))::r) h=some ⟨e,true,m,fy,n,List.flatMap (aN S τ) l,none⟩:=by simp[aq]
   have:=Gh.fZ (s:=⟨fr,(h,⟨e,true,m,fy,n,List.flatMap (aN S τ) l,none⟩)::r,df⟩) hs hk rfl rfl rfl
   rw[KF] at this
   exact this
theorem nW {τ' τ:Ty}{m:List (S.D τ')}{m':List (S.D τ)}(h:iw (α:=S.α) (.list τ') (.list τ) m=some m'):∃e:τ'=τ,e▸m=m':=by
 have:=ec h
 cases this
 exact⟨rfl,rfl⟩
theorem Jl {s:ah S}{h:Nat}{τ:Ty}{v:TV S}{f:Bool}{m:List (S.D τ)}{A:Type}{k:Option A}{r:A}(ht:KG s h τ v=some (f,m)) (hc:KH s v k=some r):
  oT s.er.st (S.sz τ) (v.er s.ln)=some (List.flatMap (aN S τ) m,m.length,f)∧v.has h=false∧k=some r:=by
 unfold KG at ht
 split at ht
 ·rename_i f' τ' m'
  split at ht
  ·rename_i m2 hm
   cases ht
   obtain⟨e,hm⟩:=nW hm
   subst e
   cases hm
   refine⟨?_,rfl,hc⟩
   rw[tF]
   cases f <;> rfl
  ·cases ht
 ·rename_i h2 τ2
  split at ht
  ·cases ht
  ·rename_i hb
   split at ht
   ·rename_i e mm f' τ' m' ho
    split at ht
    ·rename_i e' _
     subst e'
     split at ht
     ·rename_i m2 hm
      cases ht
      obtain⟨e,hm⟩:=nW hm
      subst e
      cases hm
      refine⟨?_,hb,hc⟩
      show oT s.er.st (S.sz τ') (.aR h2 (S.sz τ') 0 (s.ln h2))=_
      simp only[oT,cQ ho,TO.er]
      rw[mf ho,eH,b8 (by rw[eR];exact az _)]
     ·cases ht
    ·cases ht
   ·cases ht
 ·rename_i h2 τ2 o n
  split at ht
  ·cases ht
  ·rename_i hb
   split at ht
   ·rename_i e mm f' τ' m' ho
    split at ht
    ·rename_i e' _
     subst e'
     split at ht
     ·rename_i m2 hm
      cases ht
      obtain⟨e,hm⟩:=nW hm
      subst e
      cases hm
      unfold KH at hc
      dsimp only at hc
      rw[ho] at hc
      obtain⟨u,h1,h2'⟩:=bind_some hc
      have h1:=cm h1
      refine⟨?_,hb,h2'⟩
      show oT s.er.st (S.sz τ') (.aR h2 (S.sz τ') (o*S.sz τ') n)=_
      simp only[oT,cQ ho,TO.er]
      rw[nV,nU,aX,cr,dy (by omega)]
     ·cases ht
    ·cases ht
   ·cases ht
 ·cases ht
  exact⟨rfl,rfl,hc⟩
 ·cases ht
section
variable {P:Program}{W:List Nat}{s:ah S}{ty:TypeId}{pos:String}{after:Array Edge}{guard:Option (Nat×Bool)}{A:Type}{k:ah S→Option A}{r:A}
theorem Qo {s:ah S}{h:Nat}{e:TypeId}{m f:Bool}{τ:Ty}{l:List (S.D τ)}:(TV.aR h τ:TV S).er (s.renew h (.aV e m f τ l)).ln=.aR h (S.sz τ) 0 l.length:=by
 show G.aR _ _ _ ((s.renew h _).ln h)=_
 rw[show(s.renew h (.aV e m f τ l)).ln h=_ from tV _ _]
 rfl
theorem Kn {ok:Nat→Bool}(hokW:∀h,ok h=true→W.contains h=true){d t h:Nat}{τ:Ty}{x y:Operand}{vy:TV S}(hl:a5 s) (hx:cn s x=some (.aR h τ)) (hy:cn s y=some vy) (hk:LP P ok s d t h τ vy k=some r):
  fC P W s ⟨some d,.call ⟨.builtin .append,#[x,y],#[t,t]⟩,ty,pos,after,guard⟩ k r:=by
 unfold LP at hk
 split at hk
 ·rename_i hc
  simp only[aj,a8] at hc
  obtain⟨hW,hpn,hdf,hlo,hls⟩:=hc
  split at hk
  ·rename_i e m f τ' l ho
   split at hk
   ·rename_i e1 _
    subst e1
    split at hk
    ·rename_i e' hu
     split at hk
     ·rename_i e2 _
      subst e2
      split at hk
      ·rename_i i hi
       split at hk
       ·rename_i z hz
        split at hk
        ·rename_i hs hzs _ _
         split at hk
         ·rename_i fy ml hsr
          obtain⟨g1,g2,hk⟩:=Jl hsr hk
          obtain⟨u,hck,hk⟩:=bind_some hk
          obtain⟨c1,c2⟩:=cm hck
          letI:=jG S τ'
          have ho':=cQ (dU ho)
          have hpin:pinned h=false:=gW hpn
          have hdf':qe h s.er.df=true:=by
           show qe h (TV.er.go s.ln s.df)=true
           rw[Aq,hdf];rfl
          have hinfo:(P.info? e).map (fun i=>(i.zero,i.size,i.bytes))=some (some z,S.sz τ',i.bytes):=by rw[hi,bL,hz,hs]
          have hx':ev s.er x=some (.aR h (S.sz τ') 0 l.length):=by rw[bh hx];show some (G.aR _ _ _ (s.ln h))=_;rw[mf (dU ho)]
          obtain⟨e1,_,_⟩:=G7 (.aV e m (f&&(fy||τ'.fZ)) τ' (l++ml)) rfl hdf hlo hls
          refine .one _ (ET.append (α:=S.D τ') (m:=ml) hx' (bh hy) ho' rfl rfl rfl rfl g1 (by rw[ub];exact g2) hu hinfo hzs c1 c2 (hokW h hW) rfl hpin hdf') ?_ ((hl.renew h _ hlo hls).put _ _) ⟨rfl,rfl,rfl⟩ hk
          rw[fE,e1,Qo]
          exact Gh.Sr (h:=h) (e:=e) (m:=m) (f:=f) (fy:=fy) (τ:=τ') (l:=l++ml) (n:=S.sz τ')
         ·cases hk
        ·cases hk
       ·cases hk
      ·cases hk
     ·cases hk
    ·cases hk
   ·cases hk
  ·cases hk
 ·cases hk
def ah.l5 (s:ah S) (hd t:Nat) (e:TypeId) (τ:Ty):ah S:={s.add hd (.aV e true true τ []) with fr:=(t,.aR hd τ)::s.fr,last:=G1 t s.last}
theorem Cf {hd t:Nat}{e:TypeId}{τ:Ty}(hl:a5 s) (hx:bg s.bZ t=some (.val (.slice none 0 0))) (hf:s.free hd=true):Gh s.er (s.l5 hd t e τ).er∧a5 (s.l5 hd t e τ):=by
 obtain⟨e1,_⟩:=oE hf (.aV e true true τ ([]:List (S.D τ))) rfl
 have h1:=Gh.l5 (s:=s.er) (t:=t) hd ⟨e,true,true,true,S.sz τ,[],none⟩ (fh hx) (gq hf) rfl rfl
 have e2:(s.l5 hd t e τ).er=((s.add hd (.aV e true true τ [])).put t (.aR hd τ)).er:=rfl
 refine⟨?_,(hl.add (.aV e true true τ []) hf).put t (.aR hd τ)⟩
 rw[e2,fE,e1,Hh]
 exact h1
def Pr (P:Program) (ok:Nat→Bool) (s:ah S) (d:Nat) (c:Call){A:Type}(k:ah S→Option A):Option A:=
 match c.args.toList,c.argTypes.toList with
 | [x,y],[t,t']=>match decEq t t' with
  | isTrue _=>match cn s x with
   | some (.aR h τ)=>match cn s y with
    | some vy=>LP P ok s d t h τ vy k
    | none=>none
   | some (.val (.slice none 0 0))=>match x with
    | .tmp tx=>match s.free (s.cR d) with
     | true=>match P.underlying t with
      | some (.slice e)=>match S.Px e with
       | some τ=>match cn (s.l5 (s.cR d) tx e τ) y with
        | some vy=>match cn (s.l5 (s.cR d) tx e τ) x with
         | some (.aR h τ2)=>LP P ok (s.l5 (s.cR d) tx e τ) d t h τ2 vy k
         | _=>none
        | none=>none
       | none=>none
      | _=>none
     | false=>none
    | _=>none
   | _=>none
  | isFalse _=>none
 | _,_=>none
theorem fC.gh {s t:ah S}{o:Oper}(hg:Gh s.er t.er) (hkp:bF s t) (h:fC P W t o k r):fC P W s o k r:=by
 obtain⟨T,h1,h2⟩:=h
 exact⟨T,bN.gh hg h1,fun s' ht=>let ⟨u,a1,a2,a3,a4⟩:=h2 s' ht;⟨u,a1,a2,hkp.trans a3,a4⟩⟩
theorem Q8 {ok:Nat→Bool}(hokW:∀h,ok h=true→W.contains h=true){d:Nat}{args:Array Operand}{ts:Array TypeId}(hl:a5 s) (h:Pr P ok s d ⟨.builtin .append,args,ts⟩ k=some r):
  fC P W s ⟨some d,.call ⟨.builtin .append,args,ts⟩,ty,pos,after,guard⟩ k r:=by
 unfold Pr at h
 dsimp only at h
 split at h
 ·rename_i h1 h2
  have h1:=mn h1
  have h2:=mn h2
  subst h1;subst h2
  split at h
  ·rename_i e _
   subst e
   split at h
   ·rename_i hx
    split at h
    ·rename_i hy
     exact Kn hokW hl hx hy h
    ·cases h
   ·rename_i hx
    split at h
    ·rename_i tx
     split at h
     ·rename_i hf
      split at h
      ·split at h
       ·split at h
        ·rename_i hy
         split at h
         ·rename_i hx'
          exact fC.gh (Cf hl hx hf).1 ⟨rfl,rfl,rfl⟩ (Kn hokW (Cf hl hx hf).2 hx' hy h)
         ·cases h
        ·cases h
       ·cases h
      ·cases h
     ·cases h
    ·cases h
   ·cases h
  ·cases h
 ·cases h
theorem EF.PI {s:St}{d:Nat}{op:BinOp}{t t' e:TypeId}{x:Operand}{g:G}{n:Int}(hx:ev s x=some g) (hn:Lh g=some n) (ht:P.underlying t=some (.slice e)) (hop:op=.eql∨op=.neq):
  bN P W s ⟨some d,.binOp op t x (.const (.slice none 0 0)) t',ty,pos,after,guard⟩ (fun s'=>∃b:Bool,(b=true→n=0)∧s'=s.put d (.val (.bool (match op with | .eql=>b | _=>!b)))):=by
 refine⟨fun _ h=>(by cases h),?_⟩
 intro N cx μ a w hr hd K Q hK
 obtain⟨b,m,c,e1,e2,e3⟩:=aY.NZ (hr.ev hx) hn
 have hst:Step W s.st μ s.st μ w w:=⟨az _,fun _ _ _=>rfl,fun h k' c m' b hw h1 h2 hi=>.inl ⟨h,k',c,m',hw,h1,h2,hi⟩⟩
 have hb:b.isNone=true→n=0:=fun h=>e3 (Option.isNone_iff_eq_none.1 h)
 unfold Oper.wp
 rcases hop with rfl | rfl
 ·have hrun:(execOp a.eval ⟨some d,.binOp .eql t x (.const (.slice none 0 0)) t',ty,pos,after,guard⟩).run P w=.ok (.value (.bool b.isNone)) w:=by
   have:=Mq (P:=P) ht x (.const (.slice none 0 0)) b m c w
   simp only[execOp,e1,show a.eval (.const (.slice none 0 0))=.slice none 0 0 from rfl,Sem.run_bind,this,Result.andThen_ok,Sem.run_pure]
  rw[hrun]
  exact hK μ _ _ w (hr.put (d:=d) (hd d rfl) (.aH (.val _))) ⟨b.isNone,hb,rfl⟩ hst
 ·have hrun:(execOp a.eval ⟨some d,.binOp .neq t x (.const (.slice none 0 0)) t',ty,pos,after,guard⟩).run P w=.ok (.value (.bool (!b.isNone))) w:=by
   have:=Mp (P:=P) ht x (.const (.slice none 0 0)) b m c w
   simp only[execOp,e1,show a.eval (.const (.slice none 0 0))=.slice none 0 0 from rfl,Sem.run_bind,this,Result.andThen_ok,Sem.run_pure]
  rw[hrun]
  exact hK μ _ _ w (hr.put (d:=d) (hd d rfl) (.aH (.val _))) ⟨b.isNone,hb,rfl⟩ hst
noncomputable def On (P:Program) (s:ah S) (d:Nat) (op:BinOp) (t:TypeId) (x y:Operand){A:Type}(k:ah S→Option A):Option A:=
 match y with
 | .const (.slice none 0 0)=>match P.underlying t with
  | some (.slice _)=>match cn s x with
   | some v=>match Lg s v with
    | some n=>match op with
     | .eql=>sv n (k (s.put d (.ab true .bool true))) (k (s.put d (.ab true .bool false)))
     | .neq=>sv n (k (s.put d (.ab true .bool false))) (k (s.put d (.ab true .bool true)))
     | _=>none
    | none=>none
   | none=>none
  | _=>none
 | _=>none
theorem Qv {d:Nat}{op:BinOp}{t t':TypeId}{x y:Operand}(hl:a5 s) (h:On P s d op t x y k=some r):fC P W s ⟨some d,.binOp op t x y t',ty,pos,after,guard⟩ k r:=by
 unfold On at h
 split at h
 ·split at h
  ·rename_i hu
   split at h
   ·rename_i hx
    split at h
    ·rename_i hn
     have hb:∀b:Bool,(s.put d (.ab true .bool b)).er=s.er.put d (.val (.bool b)):=fun b=>by rw[fE];exact congrArg _ (gf true b)
     split at h
     ·obtain⟨h1,h2⟩:=EU h
      refine⟨_,EF.PI (bh hx) (D5 hn) hu (.inl rfl),fun s' ⟨b,hb0,e⟩=>?_⟩
      subst e
      refine⟨s.put d (.ab true .bool b),by rw[hb];exact Gh.refl _,hl.put _ _,⟨rfl,rfl,rfl⟩,?_⟩
      cases b with
      | true=>exact h1 (hb0 rfl)
      | false=>exact h2
     ·obtain⟨h1,h2⟩:=EU h
      refine⟨_,EF.PI (bh hx) (D5 hn) hu (.inr rfl),fun s' ⟨b,hb0,e⟩=>?_⟩
      subst e
      refine⟨s.put d (.ab true .bool (!b)),by rw[hb];exact Gh.refl _,hl.put _ _,⟨rfl,rfl,rfl⟩,?_⟩
      cases b with
      | true=>exact h1 (hb0 rfl)
      | false=>exact h2
     ·cases h
    ·cases h
   ·cases h
  ·cases h
 ·cases h
end
end
end Go.DN
/-
 DN,part Kb:a state told in another way:less of it,aA as plain data,blocks that are written no more.
-/
namespace Go.DN
open Go.AM
def CV (st st':List (Nat×ap)) (g g':G):Prop:=∀(cx:Cx) (μ:Mu) (w:World) (v:Value),cO cx μ st w→(∀b,b<w.heap.size→¬cx.O st μ b→¬cx.O st' μ b)→
 aY (cx.O st μ) cx.base w μ g v→aY (cx.O st' μ) cx.base w μ g' v
theorem CV.rw {st st':List (Nat×ap)}{g g':G}(h:RW g g'):CV st st' g g':=fun cx μ w v _ hO hv=>h _ _ _ _ _ (hv.mono (Kept.refl _ _) hO (az _))
theorem CV.refl (st st':List (Nat×ap)) (g:G):CV st st' g g:=CV.rw (RW.refl g)
theorem CV.any (st st':List (Nat×ap)) (g:G):CV st st' g .any:=fun _ _ _ v _ _ _=>.aH (.any v)
theorem CV.fz {st st':List (Nat×ap)}{g g':G}(hd:∀x k,aq st' x=some k→∃k0,aq st x=some k0) (h:iZ st st' g=some g'):CV st st' g g':=fun cx μ w v hst _ hv=>Ia hst hd hv h
def I3 (st st':List (Nat×ap)) (gs gs':List G):Prop:=gs'.length=gs.length∧∀(j:Nat) (g':G),gs'[j]?=some g'→∃g,gs[j]?=some g∧CV st st' g g'
theorem CV.agg {st st':List (Nat×ap)}{gs gs':List G}(h:I3 st st' gs gs'):CV st st' (.agg gs) (.agg gs'):=fun cx μ w v hst hO hv=>by
 cases hv with
 | aH hv=>cases hv with
  | agg _ us h1 h2=>exact .agg _ us (h1.trans h.1.symm) fun j g' v hg' hv=>(by
    obtain⟨g,hg,hw⟩:=h.2 j g' hg'
    exact hw cx μ w _ hst hO (.aH (h2 j g v hg hv)))
 | agg _ us h1 h2=>exact .agg _ us (h1.trans h.1.symm) fun j g' v hg' hv=>(by
   obtain⟨g,hg,hw⟩:=h.2 j g' hg'
   exact hw cx μ w _ hst hO (h2 j g v hg hv))
theorem CV.bl {st st':List (Nat×ap)}{gs gs':List G}(h:I3 st st' gs gs'):CV st st' (.bl gs) (.bl gs'):=fun cx μ w v hst hO hv=>by
 cases hv with
 | aH hv=>cases hv
 | bl _ us h1 h2=>exact .bl _ us (h1.trans h.1.symm) fun j g' v hg' hv=>(by
   obtain⟨g,hg,hw⟩:=h.2 j g' hg'
   exact hw cx μ w _ hst hO (h2 j g v hg hv))
theorem CV.aF {st st':List (Nat×ap)}{f:FuncId}{gs gs':List G}(h:I3 st st' gs gs'):CV st st' (.aF f gs) (.aF f gs'):=fun cx μ w v hst hO hv=>by
 cases hv with
 | aH hv=>cases hv
 | aF _ _ us h1 h2=>exact .aF f _ us (h1.trans h.1.symm) fun j g' v hg' hv=>(by
   obtain⟨g,hg,hw⟩:=h.2 j g' hg'
   exact hw cx μ w _ hst hO (h2 j g v hg hv))
structure oF (st st':List (Nat×ap)) (k k':ap):Prop where
 bP:k'.bP=k.bP
 cw:k'.cw=true→k.cw=true
 sz:k'.sz=k.sz
 lp:k'.lp=k.lp
 pure:k'.pure=k.pure
 len:k'.cells.length=k.cells.length
 cells:(k.pure=true∧k'.cells=k.cells∧(k'.fresh=true→k.fresh=true∨(k.lp=none∧∀g,g∈k.cells→∃v,g=.val v)∨∃d,k.lp=some (.deep d)∧∀(O O':Nat→Prop) (w:World) (b:Nat) (m:Mm),d.φ O w b m→d.φ O' w b m))∨(k.pure=false∧∀(j:Nat) (g':G),k'.cells[j]?=some g'→∃g,k.cells[j]?=some g∧CV st st' g g')
theorem oF.refl (st st':List (Nat×ap)) (k:ap):oF st st' k k:=by
 refine⟨rfl,id,rfl,rfl,rfl,rfl,?_⟩
 cases h:k.pure with
 | true=>exact .inl ⟨rfl,rfl,.inl⟩
 | false=>exact .inr ⟨rfl,fun j g hg=>⟨g,hg,CV.refl _ _ g⟩⟩
theorem Gh.gen {s t:St}(hfr:∀d g',get t.fr d=some g'→∃g,get s.fr d=some g∧CV s.st t.st g g') (hst:∀x k',aq t.st x=some k'→∃k,aq s.st x=some k∧oF s.st t.st k k') (hdf:s.df=t.df):Gh s t:=by
 have hdom:∀x k,aq t.st x=some k→∃k0,aq s.st x=some k0:=fun x k hk=>let ⟨k0,h1,_⟩:=hst x k hk;⟨k0,h1⟩
 refine Gh.of (fun N cx μ a w h=>?_) hdom
 have hO:∀b,b<w.heap.size→¬cx.O s.st μ b→¬cx.O t.st μ b:=fun b _ hn ho=>hn (ho.imp id fun ⟨x,k,c,m,h1,h2,hi⟩=>let ⟨k0,h3⟩:=hdom x k h1;⟨x,k0,c,m,h3,h2,hi⟩)
 have hE:∀{g g':G}{v:Value},CV s.st t.st g g'→aY (cx.O s.st μ) cx.base w μ g v→aY (cx.O t.st μ) cx.base w μ g' v:=by
  intro g g' v hz hv
  exact hz cx μ w v h.st hO hv
 refine {st:={dc:=?_,cE:=?_,bU:=?_,ei:=?_,eg:=h.st.eg,hb:=h.st.hb,os:=h.st.os,tape:=h.st.tape,output:=h.st.output,da:=h.st.da},nd:=hdf▸h.nd.mono (Kept.refl _ _) hO,sz:=h.sz,fr:=fun d g' hg'=>?_}
 ·intro x k' hk'
  obtain⟨k,hk,c⟩:=hst x k' hk'
  have hb:=h.st.dc x k hk
  cases hm:μ x with
  | none=>
   rw[hm] at hb
   exact hb.tS (by rw[hb.1];exact bp (by rw[c.len,hb.1];rfl)) c.lp c.pure
  | some bm=>
   obtain⟨b,m⟩:=bm
   rw[hm] at hb
   cases hlp:k.lp with
   | none=>
    obtain⟨cs,h1,h2,h3,h4,h5,h6⟩:=hb.cells hlp
    refine .mk (c.lp.trans hlp) (hb.kn hlp) ⟨cs,by rw[c.bP];exact h1,h2,by rw[c.len];exact h3,fun hmn=>h4 (c.cw hmn),by rw[c.sz];exact h5,fun j g' hg'=>?_⟩
    rcases c.cells with ⟨hp,e,hf⟩ | ⟨hp,e⟩
    ·rw[e] at hg'
     obtain⟨v,hv,hr⟩:=h6 j g' hg'
     refine⟨v,hv,?_⟩
     have:=hr.mono (Kept.refl _ _) hO
     unfold cz at this⊢
     rw[c.pure]
     rw[hp] at this⊢
     by_cases hk2:k'.fresh=true→k.fresh=true
     ·exact this.flag hk2
     ·rcases Classical.em (k'.fresh=true) with hq | hq
      ·rcases hf hq with hf | ⟨_,hf⟩ | ⟨d,hd,_⟩
       ·exact this.flag fun _=>hf
       rotate_left
       ·rw[hlp] at hd;cases hd
       ·obtain⟨u,rfl⟩:=hf g' (ar hg')
        revert this
        show bG _ w (.val u) v→bG _ w (.val u) v
        intro this
        cases this
        exact .val _
      ·exact absurd (fun h=>absurd h hq) hk2
    ·obtain⟨g,hg,hz⟩:=e j g' hg'
     obtain⟨v,hv,hr⟩:=h6 j g hg
     refine⟨v,hv,?_⟩
     unfold cz at hr⊢
     rw[c.pure]
     simp only[hp] at hr⊢
     exact hE hz hr
   | some kd=>
    cases kd with
    | loop lp=>
     obtain⟨D,vs,h1,h2,h3,h4,h5⟩:=(aQ.loop hlp).1 hb
     refine(aQ.loop (c.lp.trans hlp)).2 ⟨D,vs,h1,h2,(by cases hq:k'.cw with | false=>rfl | true=>rw[c.cw hq] at h3;cases h3),c.pure.trans h4,fun j t g' ht hg'=>?_⟩
     rcases c.cells with ⟨hp,_⟩ | ⟨_,e⟩
     ·rw[h4] at hp;cases hp
     ·obtain⟨g,hg,hz⟩:=e j g' hg'
      obtain⟨v,hv,hr⟩:=h5 j t g ht hg
      exact⟨v,hv,hE hz hr⟩
    | deep d=>
     obtain⟨h1,h2,h3,h4⟩:=((aQ.deep hlp).1 hb).mono (fun _ _=>rfl) (Kept.refl _ _) hO
     refine(aQ.deep (c.lp.trans hlp)).2 ⟨?_,c.pure.trans h2,bp (by rw[c.len,h3];rfl),fun hmn=>h4 (c.cw hmn)⟩
     rcases c.cells with ⟨_,_,hf⟩ | ⟨hp,_⟩
     ·cases hkf:k.fresh with
      | true=>
       rw[hkf] at h1
       cases k'.fresh with
       | true=>exact h1
       | false=>exact d.mono h1 (Kept.refl _ _) (fun x _ hn ho=>hn (.inr ho)) (fun _ _=>rfl)
      | false=>
       rw[hkf] at h1
       cases hq:k'.fresh with
       | false=>exact h1
       | true=>
        rcases hf hq with hf | ⟨hf,_⟩ | ⟨d',hd,hany⟩
        ·rw[hkf] at hf;cases hf
        ·rw[hlp] at hf;cases hf
        ·rw[hlp] at hd;cases hd;exact hany _ _ _ _ _ h1
     ·rw[h2] at hp;cases hp
 ·intro x x' k1 k2 y b m b' m' h1 h2
  obtain⟨k1',h1'⟩:=hdom x k1 h1
  obtain⟨k2',h2'⟩:=hdom x' k2 h2
  exact h.st.cE x x' k1' k2' y b m b' m' h1' h2'
 ·intro x k1 b m y h1 h2 hi
  obtain⟨k,hk,c⟩:=hst x k1 h1
  obtain⟨a1,a2,a3,a4⟩:=h.st.bU x k b m y hk h2 hi
  exact⟨a1,a2,a3,fun hm=>a4 (c.cw hm)⟩
 ·intro x k1 h1 h2
  obtain⟨k1',h1'⟩:=hdom x k1 h1
  exact h.st.ei x k1' h1' h2
 ·obtain⟨g,hg,hz⟩:=hfr d g' hg'
  obtain⟨v,hv,hr⟩:=h.fr d g hg
  exact⟨v,hv,hE hz hr⟩
section
variable {S:eE}
def TV.fz (h:Nat) (f:Bool) (τ:Ty) (l:List (S.D τ)):TV S→TV S
 | .aR h' τ'=>match Nat.beq h' h with
  | true=>match decEq τ' τ with
   | isTrue _=>.ab f (.list τ) l
   | isFalse _=>.any
  | false=>.aR h' τ'
 | .agg vs=>.agg (go h f τ l vs)
 | .bl vs=>.bl (go h f τ l vs)
 | .aF g vs=>.aF g (go h f τ l vs)
 | .sub h' τ' o n=>match Nat.beq h' h with
  | true=>.any
  | false=>.sub h' τ' o n
 | .gK h' τ' i j=>match Nat.beq h' h with
  | true=>.any
  | false=>.gK h' τ' i j
 | .loc h' o=>match Nat.beq h' h with
  | true=>.any
  | false=>.loc h' o
 | .ct h'=>match Nat.beq h' h with
  | true=>.any
  | false=>.ct h'
 | .mp h'=>match Nat.beq h' h with
  | true=>.any
  | false=>.mp h'
 | v=>v
where go (h:Nat) (f:Bool) (τ:Ty) (l:List (S.D τ)):List (TV S)→List (TV S)
 | []=>[]
 | v::r=>v.fz h f τ l::go h f τ l r
def JX (h:Nat) (f:Bool) (τ:Ty) (l:List (S.D τ)):List (Nat×TV S)→List (Nat×TV S)
 | []=>[]
 | (t,v)::r=>(t,v.fz h f τ l)::JX h f τ l r
def TO.fz (h:Nat) (f:Bool) (τ:Ty) (l:List (S.D τ)):TO S→TO S
 | .box e m cs=>.box e m (TV.fz.go h f τ l cs)
 | .lp p n cs=>.lp p n (TV.fz.go h f τ l cs)
 | o=>o
def yn (h:Nat) (f:Bool) (τ:Ty) (l:List (S.D τ)):List (Nat×TO S)→List (Nat×TO S)
 | []=>[]
 | (t,o)::r=>match Nat.beq t h with
  | true=>yn h f τ l r
  | false=>(t,o.fz h f τ l)::yn h f τ l r
def Ap (s:ah S) (h:Nat):Option (ah S):=
 match aw s.st h with
 | some (.aV e true f τ l)=>match !(gr h s.lo)&&(!(eL h s.bO)&&(!(TV.has.go h s.df)&&(match aw s.bO h with | none=>true | some _=>false))) with
  | true=>some {s with fr:=JX h f τ l s.fr,st:=yn h f τ l s.st,last:=yR h s.last}
  | false=>none
 | _=>none
theorem Br {h:Nat}{f:Bool}{τ:Ty}{l:List (S.D τ)}:∀{st:List (Nat×TO S)}{x:Nat}{o:TO S},aw (yn h f τ l st) x=some o→x≠h∧∃o0,aw st x=some o0∧o=o0.fz h f τ l
 | [],_,_,e=>by cases e
 | (t,o0)::r,x,o,e=>by
  simp only[yn] at e
  cases hb:Nat.beq t h with
  | true=>
   rw[hb] at e
   obtain⟨h1,o1,h2,h3⟩:=Br e
   refine⟨h1,o1,?_,h3⟩
   have:=aa hb
   subst this
   rw[ju _ _ h1];exact h2
  | false=>
   rw[hb] at e
   simp only[aw] at e⊢
   cases hx:Nat.beq t x with
   | true=>
    rw[hx] at e
    cases e
    refine⟨?_,o0,rfl,rfl⟩
    intro e
    subst e
    have:=aa hx
    subst this
    rw[aI] at hb;cases hb
   | false=>rw[hx] at e;exact Br e
theorem FG {h:Nat}{f:Bool}{τ:Ty}{l:List (S.D τ)}:∀(st:List (Nat×TO S)),aw (yn h f τ l st) h=none:=by
 intro st
 cases e:aw (yn h f τ l st) h with
 | none=>rfl
 | some o=>exact absurd rfl (Br e).1
theorem RP (h:Nat) (f:Bool) (τ:Ty) (l:List (S.D τ)) (o:TO S):(o.fz h f τ l).len=o.len:=by cases o <;> rfl
theorem vF {h:Nat}{f:Bool}{τ:Ty}{l:List (S.D τ)}{x:Nat}(hx:x≠h):∀{st:List (Nat×TO S)},aw (yn h f τ l st) x=(aw st x).map (TO.fz h f τ l)
 | []=>rfl
 | (t,o0)::r=>by
  simp only[yn,aw]
  cases hb:Nat.beq t h with
  | true=>
   have:=aa hb
   subst this
   have:Nat.beq t x=false:=by
    cases h2:Nat.beq t x with
    | true=>exact absurd (aa h2).symm hx
    | false=>rfl
   rw[this]
   exact vF hx
  | false=>
   simp only[aw]
   cases Nat.beq t x with
   | true=>rfl
   | false=>exact vF hx
theorem Gu {h:Nat}{f:Bool}{τ:Ty}{l:List (S.D τ)}:∀{fr:List (Nat×TV S)}{t:Nat},bg (JX h f τ l fr) t=(bg fr t).map (TV.fz h f τ l)
 | [],_=>rfl
 | (t',v)::r,t=>by
  simp only[JX,bg]
  cases Nat.beq t' t with
  | true=>rfl
  | false=>exact Gu
theorem j5 {fr fr':List (Nat×TV S)}{t:Nat}:bg (fr++fr') t=match bg fr t with | some v=>some v | none=>bg fr' t:=by
 induction fr with
 | nil=>rfl
 | cons x r ih=>
  obtain⟨k,g⟩:=x
  simp only[bx,bg]
  cases Nat.beq k t with
  | true=>rfl
  | false=>exact ih
theorem di {st st':List (Nat×TO S)}{t:Nat}:aw (st++st') t=match aw st t with | some v=>some v | none=>aw st' t:=by
 induction st with
 | nil=>rfl
 | cons x r ih=>
  obtain⟨k,g⟩:=x
  simp only[bx,aw]
  cases Nat.beq k t with
  | true=>rfl
  | false=>exact ih
mutual
theorem Ls {h:Nat}{f:Bool}{τ:Ty}{l:List (S.D τ)}:∀v:TV S,v.has h=false→v.fz h f τ l=v
 | .ab _ _ _,_=>rfl
 | .ptr _ _ _,_=>rfl
 | .agg vs,e=>congrArg TV.agg (wx vs e)
 | .bl vs,e=>congrArg TV.bl (wx vs e)
 | .aF g vs,e=>congrArg (TV.aF g) (wx vs e)
 | .loc h' o,e=>by simp only[TV.has] at e;simp only[TV.fz,e]
 | .gK h' _ _ _,e=>by simp only[TV.has] at e;simp only[TV.fz,e]
 | .aR h' _,e=>by simp only[TV.has] at e;simp only[TV.fz,e]
 | .sub h' _ _ _,e=>by simp only[TV.has] at e;simp only[TV.fz,e]
 | .ct h',e=>by simp only[TV.has] at e;simp only[TV.fz,e]
 | .mp h',e=>by simp only[TV.has] at e;simp only[TV.fz,e]
 | .ks _ _ _ _,_=>rfl
 | .kp _ _ _ _,_=>rfl
 | .fD _ _ _ _ _,_=>rfl
 | .val _,_=>rfl
 | .any,_=>rfl
theorem wx {h:Nat}{f:Bool}{τ:Ty}{l:List (S.D τ)}:∀vs:List (TV S),TV.has.go h vs=false→TV.fz.go h f τ l vs=vs
 | [],_=>rfl
 | v::r,e=>by
  simp only[TV.has.go,bI] at e
  simp only[TV.fz.go,Ls v e.1,wx r e.2]
end
structure I1 (st st':List (Nat×ap)) (ln ln':Nat→Nat) (h:Nat) (bP:TypeId) (f:Bool) (τ:Ty) (l:List (S.D τ)):Prop where
 get:aq st h=some ⟨bP,true,true,f,S.sz τ,List.flatMap (aN S τ) l,none⟩
 gone:aq st' h=none
 J9:∀x k,aq st' x=some k→∃k0,aq st x=some k0
 len:ln h=l.length
 yf:jB ln ln' h
theorem RO {st st':List (Nat×ap)}{ln ln':Nat→Nat}{h:Nat}{bP:TypeId}{f:Bool}{τ:Ty}{l:List (S.D τ)}(H:I1 (S:=S) st st' ln ln' h bP f τ l):iZ st st' (.aR h (S.sz τ) 0 (ln h))=some ((TV.ab f (.list τ) l:TV S).er ln'):=by
 rw[tF]
 simp only[iZ,H.gone,H.get,H.len,eH]
 rw[b8 (by rw[eR];exact az _)]
 cases f <;> rfl
mutual
theorem PN {st st':List (Nat×ap)}{ln ln':Nat→Nat}{h:Nat}{bP:TypeId}{f:Bool}{τ:Ty}{l:List (S.D τ)}(H:I1 (S:=S) st st' ln ln' h bP f τ l):∀v:TV S,CV st st' (v.er ln) ((v.fz h f τ l).er ln')
 | .ab _ _ _=>CV.refl _ _ _
 | .ptr _ _ _=>CV.refl _ _ _
 | .agg vs=>CV.agg (sd H vs)
 | .bl vs=>CV.bl (sd H vs)
 | .aF g vs=>CV.aF (sd H vs)
 | .loc h' o=>by
  simp only[TV.fz]
  cases Nat.beq h' h with
  | true=>exact CV.any _ _ _
  | false=>exact CV.refl _ _ _
 | .gK h' _ _ _=>by
  simp only[TV.fz]
  cases Nat.beq h' h with
  | true=>exact CV.any _ _ _
  | false=>exact CV.refl _ _ _
 | .aR h' τ'=>by
  simp only[TV.fz]
  cases hb:Nat.beq h' h with
  | true=>
   have:=aa hb
   subst this
   dsimp only
   split
   ·rename_i e _
    subst e
    exact CV.fz H.J9 (RO H)
   ·exact CV.any _ _ _
  | false=>
   show CV st st' (.aR h' _ 0 (ln h')) (.aR h' _ 0 (ln' h'))
   rw[H.yf h' fun e=>by subst e;rw[aI] at hb;cases hb]
   exact CV.refl _ _ _
 | .sub h' _ _ _=>by
  simp only[TV.fz]
  cases Nat.beq h' h with
  | true=>exact CV.any _ _ _
  | false=>exact CV.refl _ _ _
 | .ct h'=>by
  simp only[TV.fz]
  cases Nat.beq h' h with
  | true=>exact CV.any _ _ _
  | false=>exact CV.refl _ _ _
 | .mp h'=>by
  simp only[TV.fz]
  cases Nat.beq h' h with
  | true=>exact CV.any _ _ _
  | false=>exact CV.refl _ _ _
 | .ks _ _ _ _=>CV.refl _ _ _
 | .kp _ _ _ _=>CV.refl _ _ _
 | .fD _ _ _ _ _=>CV.refl _ _ _
 | .val _=>CV.refl _ _ _
 | .any=>CV.refl _ _ _
theorem sd {st st':List (Nat×ap)}{ln ln':Nat→Nat}{h:Nat}{bP:TypeId}{f:Bool}{τ:Ty}{l:List (S.D τ)}(H:I1 (S:=S) st st' ln ln' h bP f τ l):∀vs:List (TV S),I3 st st' (TV.er.go ln vs) (TV.er.go ln' (TV.fz.go h f τ l vs))
 | []=>⟨rfl,fun j g' hg'=>by simp[TV.fz.go,TV.er.go] at hg'⟩
 | v::r=>by
  obtain⟨h1,h2⟩:=sd H r
  refine⟨by simp only[TV.fz.go,TV.er.go,bA,h1],fun j g' hg'=>?_⟩
  simp only[TV.fz.go,TV.er.go] at hg'⊢
  cases j with
  | zero=>cases hg';exact⟨_,rfl,PN H v⟩
  | succ j=>exact h2 j g' hg'
end
theorem RS {st st':List (Nat×ap)}{ln ln':Nat→Nat}{h:Nat}{bP:TypeId}{f:Bool}{τ:Ty}{l:List (S.D τ)}(H:I1 (S:=S) st st' ln ln' h bP f τ l) (o:TO S):oF st st' (o.er ln) ((o.fz h f τ l).er ln'):=by
 cases o with
 | box e m cs=>exact⟨rfl,id,rfl,rfl,rfl,(sd H cs).1,.inr ⟨rfl,(sd H cs).2⟩⟩
 | aV e m f τ l=>exact oF.refl _ _ _
 | lp p n cs=>exact⟨rfl,id,rfl,rfl,rfl,(sd H cs).1,.inr ⟨rfl,(sd H cs).2⟩⟩
 | deep=>exact oF.refl _ _ _
theorem pi {k:Nat}:∀{st:List (Nat×TO S)}{x:Nat}{o:TO S},aw st x=some o→eL k st=false→o.has k=false
 | [],_,_,h,_=>by cases h
 | (t,o')::r,x,o,h,hf=>by
  simp only[eL,bI] at hf
  simp only[aw] at h
  cases hb:Nat.beq t x with
  | true=>rw[hb] at h;cases h;exact hf.1
  | false=>rw[hb] at h;exact pi h hf.2
theorem RQ {h:Nat}{f:Bool}{τ:Ty}{l:List (S.D τ)}{o:TO S}(e:o.has h=false):o.fz h f τ l=o:=by
 cases o with
 | box e' m cs=>simp only[TO.fz];rw[wx cs e]
 | aV e m f τ l=>rfl
 | lp p n cs=>simp only[TO.fz];rw[wx cs e]
 | deep=>rfl
theorem xz {ln:Nat→Nat}:∀{fr:List (Nat×TV S)}{t:Nat}{g:G},AM.get (gi ln fr) t=some g→∃v,bg fr t=some v∧g=v.er ln
 | [],_,_,h=>by cases h
 | (k,v)::r,t,g,h=>by
  simp only[gi,AM.get] at h
  simp only[bg]
  cases hk:Nat.beq k t with
  | true=>rw[hk] at h;cases h;exact⟨v,rfl,rfl⟩
  | false=>rw[hk] at h;exact xz h
theorem pk {ln:Nat→Nat}:∀{st:List (Nat×TO S)}{t:Nat}{k:ap},aq (ca ln st) t=some k→∃o,aw st t=some o∧k=o.er ln
 | [],_,_,h=>by cases h
 | (x,o)::r,t,k,h=>by
  simp only[ca,aq] at h
  simp only[aw]
  cases hk:Nat.beq x t with
  | true=>rw[hk] at h;cases h;exact⟨o,rfl,rfl⟩
  | false=>rw[hk] at h;exact pk h
theorem Gh.rB {s t:ah S}(hfr:∀d v',bg t.bZ d=some v'→∃v,bg s.bZ d=some v∧CV s.er.st t.er.st (v.er s.ln) (v'.er t.ln)) (hst:∀x o',aw t.bi x=some o'→∃o,aw s.bi x=some o∧oF s.er.st t.er.st (o.er s.ln) (o'.er t.ln))
  (hdf:TV.er.go s.ln s.df=TV.er.go t.ln t.df):Gh s.er t.er:=by
 refine Gh.gen (fun d g' hg'=>?_) (fun x k' hk'=>?_) hdf
 ·obtain⟨v',h1,rfl⟩:=xz hg'
  obtain⟨v,h2,h3⟩:=hfr d v' h1
  exact⟨_,fh h2,h3⟩
 ·obtain⟨o',h1,rfl⟩:=pk hk'
  obtain⟨o,h2,h3⟩:=hst x o' h1
  exact⟨_,fM h2,h3⟩
theorem C8 {s t:ah S}{h:Nat}(hl:a5 s) (hf:Ap s h=some t):Gh s.er t.er∧a5 t∧bF s t:=by
 unfold Ap at hf
 split at hf
 ·rename_i e f τ l ho
  split at hf
  ·rename_i hc
   simp only[aj,a8] at hc
   obtain⟨c1,c2,c3,c4⟩:=hc
   cases hf
   generalize ht:({s with fr:=JX h f τ l s.fr,st:=yn h f τ l s.st,last:=yR h s.last}:ah S)=t
   have hlst:aw s.bO h=none:=by
    cases hq:aw s.bO h with
    | none=>rfl
    | some o=>rw[hq] at c4;cases c4
   have hgone:aw t.bi h=none:=by
    subst ht
    show aw (yn h f τ l s.st++s.bO) h=none
    rw[di,FG];exact hlst
   have hother:∀{x:Nat},x≠h→∃g:TO S→TO S,(∀o,(g o).len=o.len)∧aw t.bi x=(aw s.bi x).map g∧∀o,aw s.bi x=some o→g o=o.fz h f τ l:=by
    intro x hx
    subst ht
    show ∃g:TO S→TO S,_∧aw (yn h f τ l s.st++s.bO) x=(aw (s.st++s.bO) x).map g∧_
    refine⟨TO.fz h f τ l,RP h f τ l,?_,fun o _=>rfl⟩
    rw[di,di,vF hx]
    cases h1:aw s.st x with
    | some o=>rfl
    | none=>
     show aw s.bO x=(aw s.bO x).map _
     cases h2:aw s.bO x with
     | none=>rfl
     | some o=>rw[bL,RQ (pi h2 c2)]
   have hag:jB s.ln t.ln h:=by
    intro x hx
    show b6 s.bi x=b6 t.bi x
    obtain⟨g,g1,g2,_⟩:=hother hx
    unfold b6
    rw[g2]
    cases aw s.bi x with
    | none=>rfl
    | some o=>exact(g1 o).symm
   have H:I1 (S:=S) s.er.st t.er.st s.ln t.ln h e f τ l:={
    get:=cQ (dU ho)
    gone:=pJ hgone
    J9:=fun x k hk=>by
     obtain⟨o',h1,_⟩:=pk hk
     have hx:x≠h:=fun e=>by subst e;rw[hgone] at h1;cases h1
     obtain⟨g,_,g2,_⟩:=hother hx
     rw[g2] at h1
     obtain⟨o,h2,_⟩:=av.1 h1
     exact⟨_,fM h2⟩
    len:=mf (dU ho)
    yf:=hag}
   have hfrA:∀d,bg t.bZ d=(bg s.bZ d).map (TV.fz h f τ l):=by
    intro d
    subst ht
    show bg (JX h f τ l s.fr++s.lo) d=(bg (s.fr++s.lo) d).map _
    rw[j5,j5,Gu]
    cases bg s.fr d with
    | some v=>rfl
    | none=>
     show bg s.lo d=(bg s.lo d).map _
     cases h2:bg s.lo d with
     | none=>rfl
     | some v=>rw[bL,Ls v (nl h2 c1)]
   refine⟨Gh.rB (fun d v' hv'=>?_) (fun x o' ho'=>?_) ?_,?_,by subst ht;exact⟨rfl,rfl,rfl⟩⟩
   ·rw[hfrA] at hv'
    obtain⟨v,h1,rfl⟩:=av.1 hv'
    exact⟨v,h1,PN H v⟩
   ·have hx:x≠h:=fun e=>by subst e;rw[hgone] at ho';cases ho'
    obtain⟨g,_,g2,g3⟩:=hother hx
    rw[g2] at ho'
    obtain⟨o,h1,h2⟩:=av.1 ho'
    refine⟨o,h1,?_⟩
    rw[←h2,g3 o h1]
    exact RS H o
   ·have:t.df=s.df:=by subst ht;rfl
    rw[this]
    exact oU hag s.df c3
   ·intro d hh x hm
    have hm:(d,hh,x)∈yR h s.last:=by subst ht;exact hm
    obtain⟨h1,h2⟩:=tv hm
    obtain⟨i,bP,m,f',τ',l',a,e1,e2,e3⟩:=hl d hh x h1
    refine⟨i,bP,m,f',τ',l',a,?_,?_,e3⟩
    ·rw[hfrA,e1]
     show some ((TV.gK hh τ' i 0:TV S).fz h f τ l)=_
     rw[Ls _ (by
      simp only[TV.has]
      cases hb:Nat.beq hh h with
      | false=>rfl
      | true=>exact absurd (aa hb) h2)]
    ·obtain⟨g,_,g2,g3⟩:=hother h2
     rw[g2,e2,bL,g3 _ e2];rfl
  ·cases hf
 ·cases hf
end
end Go.DN
