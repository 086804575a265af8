/-
  DN, first half: a typed interpreter over AM.
-/
import Derived.Test.YtaobkpnecfcefaaDoorMgI
import Derived.Test.YtaobkpnecfcefaaDoorMgF
set_option linter.unusedSectionVars false
set_option linter.unusedSimpArgs false
set_option linter.unusedVariables false
/-
 DN,part A:kinds of plain data,their encodings;typed values and states,and what they say of a state.
-/
namespace Go.DN
open Go.AM
structure lu where
 a:Int
 b:Int
 t:Nat
 f:List (Nat×List Int)
structure UC where
 n:Nat
 es:List lu
 pd:Option (Option (Nat×Nat)×Nat×List Int)
inductive Ty where
 | int (k:IntKind)
 | bool
 | str
 | list (t:Ty)
 | st (n:Nat)
 | map
 | cH
 deriving DecidableEq
@[reducible] def Ty.den (α:Nat→Type):Ty→Type
 | .int _=>Int
 | .bool=>Bool
 | .str=>ByteArray
 | .list t=>List (t.den α)
 | .st n=>α n
 | .map=>UC
 | .cH=>Bool
def Ty.fU:Ty→Bool
 | .st _=>true
 | _=>false
def Ty.iS:Ty→Bool
 | .int _=>true
 | .bool=>true
 | .str=>true
 | _=>false
structure bi (α:Nat→Type) where
 τ:Ty
 a:τ.den α
def iW {α:Nat→Type}(τ' τ:Ty) (a:τ'.den α):Option (τ.den α):=if h:τ'=τ then some (h▸a) else none
theorem dU {α:Nat→Type}{τ' τ:Ty}{a:τ'.den α}{b:τ.den α}(h:iW τ' τ a=some b):(⟨τ',a⟩:bi α)=⟨τ,b⟩:=by
 unfold iW at h
 split at h
 ·rename_i e;subst e;cases h;rfl
 ·cases h
def BX {α:Nat→Type}(se:(n:Nat)→α n→List G):(τ:Ty)→τ.den α→List G
 | .int k,a=>[.val (.int k a)]
 | .bool,a=>[.val (.bool a)]
 | .str,a=>[.val (.string a)]
 | .list t,l=>[.sl (List.length l) (List.flatMap (BX se t) l)]
 | .st n,a=>se n a
 | .map,_=>[.val (.bool true)]
 | .cH,b=>[.cH b]
structure UD where
 N:Nat
 al:List Nat
 ps:Array Tmp
 ot:Code
 body:Code
 id:Nat
structure dx where
 uR:Bool:=false
 Vy:TypeId→Option TypeId:=fun _=>none
 jh:Nat→UD:=fun _=>⟨0,[],#[],.skip,.skip,0⟩
 α:Nat→Type
 cn:Nat→List Ty
 cells:(n:Nat)→α n→List (bi α)
 put:(n:Nat)→List (bi α)→Option (α n)
 fw:(n:Nat)→α n→List G
 ty:TypeId→Option Nat
 Q6:TypeId→Option Ty
 oy:∀n a,(cells n a).map bi.τ=cn n
 one:∀n t,t∈cn n→t.fU=false
 pos:∀n,cn n≠[]
 lY:∀n l a,put n l=some a→cells n a=l
 vU:∀n a,fw n a=(cells n a).flatMap (fun x=>BX fw x.τ x.a)
section
variable (S:dx)
abbrev dx.D (τ:Ty):Type:=τ.den S.α
abbrev dx.L:Type:=bi S.α
abbrev aW (τ:Ty) (a:S.D τ):List G:=BX S.fw τ a
def dx.sz (τ:Ty):Nat:=match τ with | .st n=>(S.cn n).length | _=>1
theorem BY {τ:Ty}(h:τ.fU=false) (a:S.D τ):∃g,aW S τ a=[g]∧g.one=true:=by
 cases τ with
 | st n=>cases h
 | _=>exact⟨_,rfl,rfl⟩
theorem oM:∀(l:List S.L),(∀t∈l.map bi.τ,t.fU=false)→(l.flatMap (fun x=>BX S.fw x.τ x.a)).length=l.length∧∀g∈l.flatMap (fun x=>BX S.fw x.τ x.a),g.one=true
 | [],_=>⟨rfl,fun g h=>by cases h⟩
 | x::r,h=>by
  obtain⟨i1,i2⟩:=oM r fun t ht=>h t (ap _ ht)
  obtain⟨g,hg,ho⟩:=BY S (τ:=x.τ) (h _ au) x.a
  simp only[cj]
  constructor
  ·have:(BX S.fw x.τ x.a).length=1:=by show(aW S x.τ x.a).length=1;rw[hg];rfl
   simp[i1,this];omega
  ·intro g' hg'
   rcases eS.1 hg' with h1 | h1
   ·have h1:g'∈aW S x.τ x.a:=h1
    rw[hg] at h1;simp at h1;subst h1;exact ho
   ·exact i2 _ h1
theorem sD (τ:Ty) (a:S.D τ):(aW S τ a).length=S.sz τ:=by
 cases τ with
 | st n=>
  show(S.fw n a).length=(S.cn n).length
  have:=S.oy n a
  rw[S.vU n a,(oM S _ (fun t ht=>S.one n t (by rw[←this];exact ht))).1,←this,aN]
 | _=>rfl
theorem G9 (τ:Ty):0<S.sz τ:=by
 cases τ with
 | st n=>exact List.length_pos_iff.2 (S.pos n)
 | _=>exact Nat.one_pos
theorem zL (τ:Ty) (a:S.D τ):∀g∈aW S τ a,g.one=true:=by
 cases τ with
 | st n=>
  show ∀g∈S.fw n a,_
  have:=S.oy n a
  rw[S.vU n a]
  exact(oM S _ (fun t ht=>S.one n t (by rw[←this];exact ht))).2
 | _=>intro g hg;obtain⟨g',h1,h2⟩:=BY S (τ:=_) rfl a;rw[h1] at hg;simp at hg;subst hg;exact h2
@[reducible] def mP (τ:Ty):aR (S.D τ):=⟨S.sz τ,aW S τ,sD S τ,G9 S τ,fun a=>zL S τ a⟩
def du (τ:Ty) (a:S.D τ):G:=(aW S τ a).headD .any
theorem kN {τ:Ty}(h:τ.fU=false) (a:S.D τ):aW S τ a=[du S τ a]:=by
 obtain⟨g,hg,_⟩:=BY S h a
 unfold du
 rw[hg];rfl
theorem gJ (n:Nat) (a:S.α n):aW S (.st n) a=(S.cells n a).map fun x=>du S x.τ x.a:=by
 show S.fw n a=_
 have h0:=S.oy n a
 have h1:∀t∈(S.cells n a).map bi.τ,t.fU=false:=fun t ht=>S.one n t (by rw[←h0];exact ht)
 rw[S.vU n a]
 generalize S.cells n a=l at h1
 induction l with
 | nil=>rfl
 | cons x r ih=>
  simp only[cj,aB]
  rw[ih fun t ht=>h1 t (ap _ ht)]
  have:=kN S (τ:=x.τ) (h1 _ au) x.a
  show aW S x.τ x.a++_=_
  rw[this];rfl
end
inductive TV (S:dx) where
 | ab (f:Bool) (τ:Ty) (a:τ.den S.α)
 | ptr (f:Bool) (τ:Ty) (a:τ.den S.α)
 | agg (l:List (TV S))
 | aU (l:List (TV S))
 | loc (h off:Nat)
 | gY (h:Nat) (τ:Ty) (i j:Nat)
 | aK (h:Nat) (τ:Ty)
 | sub (h:Nat) (τ:Ty) (o n:Nat)
 | aP (f:FuncId) (caps:List (TV S))
 | cA (h:Nat)
 | mp (h:Nat)
 | ks (h:Nat) (τ:Ty) (i n:Nat)
 | kp (h:Nat) (τ:Ty) (i j:Nat)
 | fX (b:Bool) (h:Nat) (τ:Ty) (i j:Nat)
 | bT (b:Bool) (h off:Nat)
 | val (v:Value)
 | any
inductive Dk where
 | uR (kty:TypeId)
 | rows (kty:TypeId) (ho:Option Nat)
 | map (q:IntKind) (kty tty:TypeId)
 deriving DecidableEq
inductive TO (S:dx) where
 | box (bw:TypeId) (dn:Bool) (cs:List (TV S))
 | arr (bw:TypeId) (dn fresh:Bool) (τ:Ty) (l:List (τ.den S.α))
 | lp (key:Nat) (n:Int) (cs:List (TV S))
 | deep (bw:TypeId) (dn fresh:Bool) (dk:Dk) (τ:Ty) (a:τ.den S.α)
structure aj (S:dx) where
 fr:List (Nat×TV S)
 lo:List (Nat×TV S)
 st:List (Nat×TO S)
 bM:List (Nat×TO S)
 df:List (TV S)
 nx:Nat
 last:List (Nat×Nat×bi S.α)
section
variable {S:dx}
def dc (f:Bool) (g:G):G:=bif f then A0 g else g
def nZ (f:Bool) (τ:Ty) (a:S.D τ):G:=
 match τ with
 | .st n=>.agg ((aW S (.st n) a).map (dc f))
 | τ=>dc f (du S τ a)
def Pv (f:Bool) (τ:Ty) (a:S.D τ):G:=bif f then .fr (.ptr (aW S τ a)) else .ptr (aW S τ a)
def TV.er (ln:Nat→Nat):TV S→G
 | .ab f τ a=>nZ f τ a
 | .ptr f τ a=>Pv f τ a
 | .agg l=>.agg (go ln l)
 | .aU l=>.aU (go ln l)
 | .loc h off=>.loc h off
 | .gY h τ i j=>.loc h (i*S.sz τ+j)
 | .aK h τ=>.aK h (S.sz τ) 0 (ln h)
 | .sub h τ o n=>.aK h (S.sz τ) (o*S.sz τ) n
 | .aP f caps=>.aP f (go ln caps)
 | .cA h=>.cA h
 | .mp h=>.eV h
 | .ks h τ i n=>.ks h i (S.sz τ) n
 | .kp h τ i j=>.kp h i (j*S.sz τ)
 | .fX b h τ i j=>bif b then .val (.pointer none) else .kp h i (j*S.sz τ)
 | .bT b h off=>bif b then .val (.pointer none) else .loc h off
 | .val v=>.val v
 | .any=>.any
where go (ln:Nat→Nat):List (TV S)→List G
 | []=>[]
 | x::r=>x.er ln::go ln r
theorem da (ln:Nat→Nat) (l:List (TV S)):TV.er.go ln l=l.map (TV.er ln):=by
 induction l with
 | nil=>rfl
 | cons x r ih=>simp only[TV.er.go,aB,ih]
def TY (id:Nat) (n:Int):Option Code:=bif n==0 then none else bif n==1 then some (.exit id) else some .ret
def dx.lp (S:dx) (key:Nat) (n:Int):Lp:=⟨0,(S.jh key).N,(S.jh key).al,(S.jh key).ps,(S.jh key).ot,(S.jh key).body,TY (S.jh key).id n⟩
def wg:(τ:Ty)→S.D τ→Nat
 | .list _,l=>List.length l
 | _,_=>0
def TO.len:TO S→Nat
 | .arr _ _ _ _ l=>l.length
 | .deep _ _ _ _ τ a=>wg τ a
 | _=>0
def kG:(τ:Ty)→S.D τ→Nat×List (Nat×List G)
 | .list (.list t),ll=>(S.sz t,List.map (fun l=>(List.length l,List.flatMap (aW S t) l)) ll)
 | _,_=>(1,[])
def Vx:bi S.α→Nat×List G
 | ⟨.list t,l⟩=>(List.length l,List.flatMap (aW S t) l)
 | _=>(0,[])
def UK:List Ty→Nat
 | .list t::_=>S.sz t
 | _=>1
def Gg:(τ:Ty)→S.D τ→Nat×Nat×List (Nat×List G)
 | .list (.st n),l=>(UK (S:=S) (S.cn n),(S.cn n).length,List.flatMap (fun a=>(S.cells n a).map Vx) l)
 | _,_=>(1,1,[])
def oK (q:IntKind) (l:List Int):List G:=l.map fun x=>.val (.int q x)
def lu.me (q:IntKind) (e:lu):ME:=⟨(e.a,e.b),e.t,e.f.map fun p=>(p.1,oK q p.2)⟩
def mapOf:(τ:Ty)→S.D τ→UC
 | .map,d=>d
 | _,_=>⟨0,[],none⟩
def Ns (q:IntKind):Option (Option (Nat×Nat)×Nat×List Int)→Option (Option (Nat×Nat)×Nat×List G)
 | some (s,x,l)=>some (s,x,oK q l)
 | none=>none
def Dk.dp (e:TypeId) (τ:Ty) (a:S.D τ):Dk→Dp
 | .uR kty=>sP e kty (kG τ a).1 (kG τ a).2
 | .rows kty ho=>M6 e kty (Gg τ a).1 (Gg τ a).2.1 (Gg τ a).2.2 ho
 | .map q kty tty=>CW q kty tty (mapOf τ a).n ((mapOf τ a).es.map (lu.me q)) (Ns q (mapOf τ a).pd)
def TO.er (ln:Nat→Nat):TO S→ao
 | .box e m cs=>⟨e,false,m,false,0,TV.er.go ln cs,none⟩
 | .arr e m f τ l=>⟨e,true,m,f,S.sz τ,List.flatMap (aW S τ) l,none⟩
 | .lp key n cs=>⟨0,false,false,false,0,TV.er.go ln cs,some (.loop (S.lp key n))⟩
 | .deep e m f dk τ a=>⟨e,true,m,f,1,[],some (.deep (dk.dp e τ a))⟩
def bp:List (Nat×TV S)→Nat→Option (TV S)
 | [],_=>none
 | (k,g)::r,t=>bif Nat.beq k t then some g else bp r t
def aF:List (Nat×TO S)→Nat→Option (TO S)
 | [],_=>none
 | (k,g)::r,t=>bif Nat.beq k t then some g else aF r t
def bI (st:List (Nat×TO S)) (h:Nat):Nat:=match aF st h with | some o=>o.len | none=>0
def gX (ln:Nat→Nat):List (Nat×TV S)→List (Nat×G)
 | []=>[]
 | (t,v)::r=>(t,v.er ln)::gX ln r
def bG (ln:Nat→Nat):List (Nat×TO S)→List (Nat×ao)
 | []=>[]
 | (t,o)::r=>(t,o.er ln)::bG ln r
def aj.bV (s:aj S):List (Nat×TV S):=s.fr++s.lo
def aj.bj (s:aj S):List (Nat×TO S):=s.st++s.bM
def aj.ln (s:aj S):Nat→Nat:=bI s.bj
def aj.er (s:aj S):St:=⟨gX s.ln s.bV,bG s.ln s.bj,TV.er.go s.ln s.df⟩
structure bA (s t:aj S):Prop where
 lo:t.lo=s.lo
 bM:t.bM=s.bM
 df:t.df=s.df
theorem bA.refl (s:aj S):bA s s:=⟨rfl,rfl,rfl⟩
theorem bA.trans {a b c:aj S}(h:bA a b) (h':bA b c):bA a c:=⟨h'.lo.trans h.lo,h'.bM.trans h.bM,h'.df.trans h.df⟩
theorem fG {ln:Nat→Nat}:∀{fr:List (Nat×TV S)}{t:Nat}{v:TV S},bp fr t=some v→get (gX ln fr) t=some (v.er ln)
 | [],_,_,h=>by cases h
 | (k,g)::r,t,v,h=>by
  simp only[bp] at h
  simp only[gX,AM.get]
  cases hk:Nat.beq k t with
  | true=>rw[hk] at h;cases h;rfl
  | false=>rw[hk] at h;exact fG h
theorem kL {ln:Nat→Nat}:∀{st:List (Nat×TO S)}{t:Nat}{o:TO S},aF st t=some o→az (bG ln st) t=some (o.er ln)
 | [],_,_,h=>by cases h
 | (k,g)::r,t,v,h=>by
  simp only[aF] at h
  simp only[bG,az]
  cases hk:Nat.beq k t with
  | true=>rw[hk] at h;cases h;rfl
  | false=>rw[hk] at h;exact kL h
def vt:Value→TV S
 | .int k n=>.ab true (.int k) n
 | .bool b=>.ab true .bool b
 | .string s=>.ab true .str s
 | v=>.val v
theorem GZ (ln:Nat→Nat) (v:Value):(vt v:TV S).er ln=.val v:=by cases v <;> rfl
def cG (s:aj S):Operand→Option (TV S)
 | .tmp t=>bp s.bV t
 | .const v=>some (vt v)
 | .func f=>some (.aP f [])
 | .global _=>none
theorem bu {s:aj S}{x:Operand}{v:TV S}(h:cG s x=some v):ev s.er x=some (v.er s.ln):=by
 cases x with
 | tmp t=>exact fG h
 | const v'=>cases h;simp only[ev,GZ]
 | func f=>cases h;rfl
 | global _=>cases h
def Hp (d:Nat):List (Nat×Nat×bi S.α)→List (Nat×Nat×bi S.α)
 | []=>[]
 | x::r=>bif Nat.beq x.1 d then Hp d r else x::Hp d r
def AS (h:Nat):List (Nat×Nat×bi S.α)→List (Nat×Nat×bi S.α)
 | []=>[]
 | x::r=>bif Nat.beq x.2.1 h then AS h r else x::AS h r
theorem Ef {d:Nat}{y:Nat×Nat×bi S.α}:∀{l:List (Nat×Nat×bi S.α)},y∈Hp d l→y∈l∧y.1≠d
 | [],h=>by cases h
 | x::r,h=>by
  simp only[Hp] at h
  cases hb:Nat.beq x.1 d with
  | true=>rw[hb] at h;obtain⟨h1,h2⟩:=Ef h;exact⟨ap _ h1,h2⟩
  | false=>
   rw[hb] at h
   rcases bf.1 h with e | h
   ·subst e
    exact⟨au,fun e=>by rw[e,aQ] at hb;cases hb⟩
   ·obtain⟨h1,h2⟩:=Ef h;exact⟨ap _ h1,h2⟩
theorem uh {d:Nat}{y:Nat×Nat×bi S.α}:∀{l:List (Nat×Nat×bi S.α)},y∈AS d l→y∈l∧y.2.1≠d
 | [],h=>by cases h
 | x::r,h=>by
  simp only[AS] at h
  cases hb:Nat.beq x.2.1 d with
  | true=>rw[hb] at h;obtain⟨h1,h2⟩:=uh h;exact⟨ap _ h1,h2⟩
  | false=>
   rw[hb] at h
   rcases bf.1 h with e | h
   ·subst e
    exact⟨au,fun e=>by rw[e,aQ] at hb;cases hb⟩
   ·obtain⟨h1,h2⟩:=uh h;exact⟨ap _ h1,h2⟩
def aj.put (s:aj S) (d:Nat) (v:TV S):aj S:={s with fr:=(d,v)::s.fr,last:=Hp d s.last}
def aO (s:aj S):Prop:=∀d h x,(d,h,x)∈s.last→∃i bw m f τ l a,bp s.bV d=some (.gY h τ i 0)∧aF s.bj h=some (.arr bw m f τ l)∧x=⟨τ,a⟩∧l[i]?=some a
theorem Cq {d t:Nat}(v:TV S) (fr:List (Nat×TV S)) (h:t≠d):bp ((d,v)::fr) t=bp fr t:=by
 simp only[bp]
 cases hb:Nat.beq d t with
 | true=>exact absurd (af hb).symm h
 | false=>rfl
theorem aO.put {s:aj S}(h:aO s) (d:Nat) (v:TV S):aO (s.put d v):=by
 intro d' hh x hm
 obtain⟨h1,h2⟩:=Ef hm
 obtain⟨i,bw,m,f,τ,l,a,e1,e2⟩:=h d' hh x h1
 exact⟨i,bw,m,f,τ,l,a,(Cq v s.bV h2).trans e1,e2⟩
theorem iT (s:aj S) (d:Nat) (v:TV S):(s.put d v).er=s.er.put d (v.er s.ln):=rfl
end
end Go.DN
/-
 DN,part B:operations that yield a value and leave the world alone.
-/
namespace Go.DN
open Go.AM
section
variable {S:dx}
def nY (P:Program) (t:TypeId):Option Nat:=(P.info? t).map (·.size)
def EU (P:Program) (t:TypeId):Option Bool:=match P.underlying t with
 | some (.struct _)=>some true
 | some (.array _ _)=>some true
 | some _=>some false
 | none=>none
theorem cU {P:Program}{t:TypeId}{n:Nat}(h:nY P t=some n):∀w,(sizeOf t).run P w=.ok n w:=by
 intro w
 unfold nY at h
 obtain⟨i,h1,h2⟩:=ay.1 h
 subst h2
 simp[sizeOf,typeInfo,h1]
theorem ff {P:Program}{t:TypeId}{b:Bool}(h:EU P t=some b):∀w,(isAgg t).run P w=.ok b w:=by
 intro w
 unfold EU at h
 cases hu:P.underlying t with
 | none=>rw[hu] at h;cases h
 | some d=>rw[hu] at h;cases d <;> cases h <;> simp[isAgg,underlying,hu]
def QS (op:BinOp) (k:IntKind) (a b:Int):Option (TV S):=
 match op with
 | .add=>some (.ab true (.int k) (k.wrap (a+b)))
 | .sub=>some (.ab true (.int k) (k.wrap (a-b)))
 | .mul=>some (.ab true (.int k) (k.wrap (a*b)))
 | .eql=>some (.ab true .bool (a==b))
 | .neq=>some (.ab true .bool (a !=b))
 | .lss=>some (.ab true .bool (decide (a<b)))
 | .leq=>some (.ab true .bool (decide (a≤b)))
 | .gtr=>some (.ab true .bool (decide (a>b)))
 | .geq=>some (.ab true .bool (decide (a≥b)))
 | .and=>some (.ab true (.int k) (k.wrap ((BitVec.ofInt k.bits a &&& BitVec.ofInt k.bits b).toNat:Int)))
 | .or=>some (.ab true (.int k) (k.wrap ((BitVec.ofInt k.bits a ||| BitVec.ofInt k.bits b).toNat:Int)))
 | _=>none
theorem S1 {op:BinOp}{k:IntKind}{a b:Int}{v:TV S}(h:QS op k a b=some v) (ln:Nat→Nat):∃r,v.er ln=.val r∧Ce op (.int k a) (.int k b)=some r:=by
 cases op <;> simp only[QS] at h <;> cases h <;> exact⟨_,rfl,by simp[Ce]⟩
def QR (op:BinOp) (a b:ByteArray):Option (TV S):=
 match op with
 | .eql=>some (.ab true .bool (a.toList==b.toList))
 | .neq=>some (.ab true .bool (!(a.toList==b.toList)))
 | .lss=>some (.ab true .bool (Op.bytesLess a.toList b.toList))
 | _=>none
theorem SZ {op:BinOp}{a b:ByteArray}{v:TV S}(h:QR op a b=some v) (ln:Nat→Nat):∃r,v.er ln=.val r∧Ce op (.string a) (.string b)=some r:=by
 cases op <;> simp only[QR] at h <;> cases h <;> exact⟨_,rfl,by simp[Ce]⟩
def Dd (ki:IntKind):List (bi S.α)→Option (List Int)
 | []=>some []
 | ⟨.int k,a⟩::r=>match decEq k ki with
  | isTrue _=>match Dd ki r with
   | some l=>some (a::l)
   | none=>none
  | isFalse _=>none
 | _=>none
theorem Ik {ki:IntKind}:∀{l:List (bi S.α)}{xs:List Int},Dd ki l=some xs→(l.map fun x=>du S x.τ x.a)=xs.map fun a=>.val (.int ki a)
 | [],_,h=>by cases h;rfl
 | ⟨.int k,a⟩::r,xs,h=>by
  simp only[Dd] at h
  split at h
  ·rename_i e _
   subst e
   split at h
   ·rename_i l hl
    cases h
    rw[aB,aB,Ik hl]
    rfl
   ·cases h
  ·cases h
 | ⟨.bool,_⟩::_,_,h=>by cases h
 | ⟨.cH,_⟩::_,_,h=>by cases h
 | ⟨.str,_⟩::_,_,h=>by cases h
 | ⟨.list _,_⟩::_,_,h=>by cases h
 | ⟨.st _,_⟩::_,_,h=>by cases h
theorem SJ {f:Bool}{n:Nat}{a:S.α n}{ki:IntKind}{xs:List Int}(h:Dd ki (S.cells n a)=some xs) (ln:Nat→Nat):(TV.ab f (.st n) a:TV S).er ln=.agg (xs.map fun a=>.val (.int ki a)):=by
 show G.agg ((aW S (.st n) a).map (dc f))=_
 rw[gJ,Ik h,iM]
 congr 1
 refine fH fun x _=>?_
 cases f <;> rfl
def Gr (ki:IntKind):List (TV S)→Option (List Int)
 | []=>some []
 | .ab _ (.int k) a::r=>match decEq k ki with
  | isTrue _=>match Gr ki r with
   | some l=>some (a::l)
   | none=>none
  | isFalse _=>none
 | _::_=>none
theorem Ij {ki:IntKind}(ln:Nat→Nat):∀{l:List (TV S)}{xs:List Int},Gr ki l=some xs→TV.er.go ln l=xs.map fun a=>.val (.int ki a)
 | [],_,h=>by cases h;rfl
 | v::r,xs,h=>by
  unfold Gr at h
  split at h
  ·rename_i e;cases e
  ·rename_i f k a r' e
   cases e
   split at h
   ·rename_i e _
    subst e
    split at h
    ·rename_i l hl
     cases h
     simp only[TV.er.go,Ij ln hl,aB]
     congr 1
     cases f <;> rfl
    ·cases h
   ·cases h
  ·cases h
def Mv (ki:IntKind):TV S→Option (List Int)
 | .ab _ (.st n) a=>Dd ki (S.cells n a)
 | .agg vs=>Gr ki vs
 | _=>none
theorem KH {ki:IntKind}{v:TV S}{xs:List Int}(h:Mv ki v=some xs) (ln:Nat→Nat):v.er ln=.agg (xs.map fun a=>.val (.int ki a)):=by
 unfold Mv at h
 split at h
 ·exact SJ h ln
 ·exact congrArg G.agg (Ij ln h)
 ·cases h
def QU (P:Program) (op:BinOp) (t:TypeId) (x y:TV S){A:Type}(k:TV S→Option A):Option A:=
 match op with
 | .eql=>match P.underlying t with
  | some (.array len e)=>match P.underlying e with
   | some (.int ki)=>match Mv ki x with
    | some xs=>match Mv ki y with
     | some ys=>match decEq (nY P e) (some 1) with
      | isTrue _=>match !(P.eqGuardType P.depth t)&&(Nat.beq xs.length len&&Nat.beq ys.length len) with
       | true=>k (.ab true .bool (Dv xs ys))
       | false=>none
      | isFalse _=>none
     | none=>none
    | none=>none
   | _=>none
  | _=>none
 | _=>none
def K2:(τ:Ty)→S.D τ→Option Value
 | .int k,a=>some (.int k a)
 | .bool,a=>some (.bool a)
 | .str,a=>some (.string a)
 | _,_=>none
theorem Hi:∀{τ:Ty}{a:S.D τ}{v:Value},K2 τ a=some v→∀f,dc f (du S τ a)=.val v∧nZ f τ a=.val v
 | .int k,a,_,h,f=>by cases h;cases f <;> exact⟨rfl,rfl⟩
 | .bool,a,_,h,f=>by cases h;cases f <;> exact⟨rfl,rfl⟩
 | .str,a,_,h,f=>by cases h;cases f <;> exact⟨rfl,rfl⟩
 | .list _,_,_,h,_=>by cases h
 | .st _,_,_,h,_=>by cases h
 | .map,_,_,h,_=>by cases h
 | .cH,_,_,h,_=>by cases h
def K3:List (bi S.α)→Option (List Value)
 | []=>some []
 | x::r=>match K2 x.τ x.a,K3 r with
  | some v,some l=>some (v::l)
  | _,_=>none
def Hj:List (TV S)→Option (List Value)
 | []=>some []
 | .ab _ τ a::r=>match K2 τ a,Hj r with
  | some v,some l=>some (v::l)
  | _,_=>none
 | _::_=>none
def Q8:TV S→Option (List Value)
 | .ab _ (.st n) a=>K3 (S.cells n a)
 | .agg vs=>Hj vs
 | _=>none
theorem MW {v:TV S}{us:List Value}(h:Q8 v=some us) (ln:Nat→Nat):v.er ln=.agg (us.map .val):=by
 unfold Q8 at h
 split at h
 ·rename_i f n a
  show G.agg ((aW S (.st n) a).map (dc f))=_
  rw[gJ,iM]
  congr 1
  generalize S.cells n a=l at h
  induction l generalizing us with
  | nil=>cases h;rfl
  | cons x r ih=>
   simp only[K3] at h
   split at h
   ·rename_i hv hl
    cases h
    rw[aB,aB,←ih hl]
    congr 1
    exact(Hi hv f).1
   ·cases h
 ·rename_i vs
  refine congrArg G.agg ?_
  induction vs generalizing us with
  | nil=>cases h;rfl
  | cons x r ih=>
   unfold Hj at h
   split at h
   ·rename_i e;cases e
   ·rename_i f τ a r' e
    cases e
    split at h
    ·rename_i hv hl
     cases h
     simp only[TV.er.go,aB,←ih hl]
     congr 1
     exact(Hi hv f).2
    ·cases h
   ·cases h
 ·cases h
def cP (P:Program) (op:BinOp) (t:TypeId) (x y:TV S){A:Type}(k:TV S→Option A):Option A:=
 match P.underlying t with
 | some (.struct fs)=>match Q8 x with
  | some us=>match Q8 y with
   | some vs=>match EH P fs.toList us vs with
    | some b=>match !(P.stoodInHeld t)&&!(P.eqGuardType P.depth t) with
     | true=>match op with
      | .eql=>k (.ab true .bool b)
      | .neq=>k (.ab true .bool (!b))
      | _=>none
     | false=>none
    | none=>none
   | none=>none
  | none=>none
 | _=>none
def Ru (P:Program) (op:BinOp) (t:TypeId) (x y:TV S){A:Type}(k:TV S→Option A):Option A:=
 match P.underlying t with
 | some (.struct _)=>cP P op t x y k
 | _=>QU P op t x y k
def QT (P:Program) (op:BinOp) (t:TypeId) (x y:TV S){A:Type}(k:TV S→Option A):Option A:=
 match x with
 | .ab _ (.int ka) a=>match y with
  | .ab _ (.int kb) b=>match op with
   | .quo=>match decEq ka kb with
    | isTrue _=>(dA (b≠0)).bind fun _=>k (.ab true (.int ka) (ka.wrap (Int.tdiv a b)))
    | isFalse _=>none
   | .rem=>match decEq ka kb with
    | isTrue _=>(dA (b≠0)).bind fun _=>k (.ab true (.int ka) (Int.tmod a b))
    | isFalse _=>none
   | .shr=>(dA (0≤b)).bind fun _=>k (.ab true (.int ka) (Int.fdiv a (2^(min (Int.toNat b) ka.bits))))
   | .shl=>(dA (0≤b)).bind fun _=>k (.ab true (.int ka) (ka.wrap (a*2^(min (Int.toNat b) ka.bits))))
   | op=>match decEq ka kb with
    | isTrue _=>match QS op ka a b with
     | some v=>k v
     | none=>none
    | isFalse _=>none
  | _=>none
 | .ab _ .str a=>match y with
  | .ab _ .str b=>match op with
   | .add=>(dA (((a.size+b.size:Nat):Int)≤9223372036854775807)).bind fun _=>k (.ab true .str (a++b))
   | op=>match QR op a b with
    | some v=>k v
    | none=>none
  | _=>none
 | .ab _ .bool a=>match y with
  | .ab _ .bool b=>match P.underlying t with
   | some .bool=>match op with
    | .eql=>k (.ab true .bool (a==b))
    | .neq=>k (.ab true .bool (!(a==b)))
    | _=>none
   | _=>none
  | _=>none
 | .ab f (.st n) a=>Ru P op t (.ab f (.st n) a) y k
 | .agg vs=>Ru P op t (.agg vs) y k
 | _=>none
section
variable {P:Program}{s:aj S}{dst:Option Tmp}{ty:TypeId}{pos:String}{after:Array Edge}{guard:Option (Nat×Bool)}
theorem uX (f:Bool) (k:IntKind) (a:Int):nZ (S:=S) f (.int k) a=.val (.int k a):=by cases f <;> rfl
theorem gZ (f:Bool) (a:Bool):nZ (S:=S) f .bool a=.val (.bool a):=by cases f <;> rfl
theorem Qu (f:Bool) (a:ByteArray):nZ (S:=S) f .str a=.val (.string a):=by cases f <;> rfl
theorem lC {x:Operand}{f:Bool}{k:IntKind}{a:Int}(h:cG s x=some (.ab f (.int k) a)):ev s.er x=some (.val (.int k a)):=by rw[bu h];exact congrArg some (uX f k a)
theorem ID {x:Operand}{f:Bool}{a:Bool}(h:cG s x=some (.ab f .bool a)):ev s.er x=some (.val (.bool a)):=by rw[bu h];exact congrArg some (gZ f a)
theorem Ds {x:Operand}{f:Bool}{a:ByteArray}(h:cG s x=some (.ab f .str a)):ev s.er x=some (.val (.string a)):=by rw[bu h];exact congrArg some (Qu f a)
theorem S6 {op:BinOp}{t t':TypeId}{x y:Operand}{vx vy:TV S}{A:Type}{k:TV S→Option A}{r:A}(hx:cG s x=some vx) (hy:cG s y=some vy) (h:QU P op t vx vy k=some r):
  ∃v,PY P s.er ⟨dst,.binOp op t x y t',ty,pos,after,guard⟩ (v.er s.ln)∧k v=some r:=by
 unfold QU at h
 split at h
 ·split at h
  ·rename_i hu
   split at h
   ·rename_i hue
    split at h
    ·rename_i hxs
     split at h
     ·rename_i hys
      split at h
      ·rename_i hz _
       split at h
       ·rename_i hc
        simp only[ag,a7] at hc
        obtain⟨c1,c2,c3⟩:=hc
        exact⟨_,PY.Va (by rw[bu hx,KH hxs]) (by rw[bu hy,KH hys]) hu hue (cU hz) (af c2) (af c3) c1,h⟩
       ·cases h
      ·cases h
     ·cases h
    ·cases h
   ·cases h
  ·cases h
 ·cases h
theorem Oi {op:BinOp}{t t':TypeId}{x y:Operand}{vx vy:TV S}{A:Type}{k:TV S→Option A}{r:A}(hx:cG s x=some vx) (hy:cG s y=some vy) (h:Ru P op t vx vy k=some r):
  ∃v,PY P s.er ⟨dst,.binOp op t x y t',ty,pos,after,guard⟩ (v.er s.ln)∧k v=some r:=by
 unfold Ru at h
 split at h
 ·unfold cP at h
  split at h
  ·rename_i hu
   split at h
   ·rename_i hxs
    split at h
    ·rename_i hys
     split at h
     ·rename_i b hb
      split at h
      ·rename_i hc
       simp only[ag,a7] at hc
       have:=PY.Vw (s:=s.er) (dst:=dst) (ty:=ty) (pos:=pos) (after:=after) (guard:=guard) (t':=t') (by rw[bu hx,MW hxs]) (by rw[bu hy,MW hys]) hu hc.1 hc.2 hb
       split at h
       ·exact⟨.ab true .bool b,this.1,h⟩
       ·exact⟨.ab true .bool (!b),this.2,h⟩
       ·cases h
      ·cases h
     ·cases h
    ·cases h
   ·cases h
  ·cases h
 ·exact S6 hx hy h
theorem S2 {op:BinOp}{t t':TypeId}{x y:Operand}{vx vy:TV S}{A:Type}{k:TV S→Option A}{r:A}(hx:cG s x=some vx) (hy:cG s y=some vy) (h:QT P op t vx vy k=some r):
  ∃v,PY P s.er ⟨dst,.binOp op t x y t',ty,pos,after,guard⟩ (v.er s.ln)∧k v=some r:=by
 unfold QT at h
 split at h
 ·split at h
  ·rename_i fa ka a fb kb b
   have e1:=lC hx
   have e2:=lC hy
   split at h
   ·split at h
    ·rename_i _ e _
     subst e
     obtain⟨u,hu,h⟩:=bind_some h
     exact⟨_,PY.quo e1 e2 (cS hu),h⟩
    ·cases h
   ·split at h
    ·rename_i _ e _
     subst e
     obtain⟨u,hu,h⟩:=bind_some h
     exact⟨_,PY.rem e1 e2 (cS hu),h⟩
    ·cases h
   ·obtain⟨u,hu,h⟩:=bind_some h
    exact⟨_,PY.shr e1 e2 (cS hu),h⟩
   ·obtain⟨u,hu,h⟩:=bind_some h
    exact⟨_,PY.shl e1 e2 (cS hu),h⟩
   ·split at h
    ·rename_i e _
     subst e
     split at h
     ·rename_i v hv
      obtain⟨w,h1,h2⟩:=S1 hv s.ln
      exact⟨v,by rw[h1];exact PY.bin e1 e2 h2,h⟩
     ·cases h
    ·cases h
  ·cases h
 ·split at h
  ·split at h
   ·obtain⟨u,hu,h⟩:=bind_some h
    exact⟨_,PY.cat (Ds hx) (Ds hy) (cS hu),h⟩
   ·split at h
    ·rename_i v hv
     obtain⟨w,h1,h2⟩:=SZ hv s.ln
     exact⟨v,by rw[h1];exact PY.bin (Ds hx) (Ds hy) h2,h⟩
    ·cases h
  ·cases h
 ·split at h
  ·split at h
   ·rename_i hu
    split at h
    ·exact⟨_,PY.V4 (ID hx) (ID hy) hu,h⟩
    ·exact⟨_,PY.V1 (ID hx) (ID hy) hu,h⟩
    ·cases h
   ·cases h
  ·cases h
 ·exact Oi hx hy h
 ·exact Oi hx hy h
 ·cases h
end
end
end Go.DN
/-
 DN,part C:more operations that yield a value;a value seen as plain data.
-/
namespace Go.DN
open Go.AM
def RW (g g':G):Prop:=∀(O:Nat→Prop) (base:Nat) (w:World) (μ:Mu) (v:Value),aM O base w μ g v→aM O base w μ g' v
theorem RW.refl (g:G):RW g g:=fun _ _ _ _ _ h=>h
theorem RW.trans {a b c:G}(h:RW a b) (h':RW b c):RW a c:=fun _ _ _ _ _ x=>h' _ _ _ _ _ (h _ _ _ _ _ x)
theorem PY.rw {P:Program}{s:St}{o:Oper}{g g':G}(h:PY P s o g) (hw:RW g g'):PY P s o g':=fun N cx μ a w hr=>
 let ⟨v,h1,h2⟩:=h N cx μ a w hr
 ⟨v,hw _ _ _ _ _ h1,h2⟩
theorem eQ.rw {P:Program}{W:List Nat}{s:St}{o:Oper}{g g':G}(h:eQ P W s o g) (hw:RW g g'):eQ P W s o g':=fun N cx μ a w hr=>
 let ⟨v,h1,h2⟩:=h N cx μ a w hr
 ⟨v,hw _ _ _ _ _ h1,h2⟩
theorem bB.uF {O:Nat→Prop}{w:World}{cs:List G}{v:Value}(n:Nat) (h:bB O w (.ptr cs) v):bB O w (.ptr (cs.take n)) v:=by
 cases h with
 | ptr _ b off us h1 h2 h3 h4=>
  refine .ptr _ b off us h1 h2 (fun j hj=>h3 j ?_) (fun j g hg=>h4 j g ?_)
  ·rw[bo] at hj;omega
  ·rw[aV] at hg;split at hg
   ·exact hg
   ·cases hg
def Eh (f:Bool) (cs:List G):G:=bif f then .fr (.ptr cs) else .ptr cs
theorem RW.uF (f:Bool) (cs:List G) (n:Nat):RW (Eh f cs) (Eh f (cs.take n)):=by
 intro O base w μ v h
 cases f with
 | true=>cases h with
  | aC h=>cases h
  | fr h=>exact .fr (bB.uF n h)
 | false=>cases h with
  | aC h=>exact .aC (bB.uF n h)
theorem RW.nil:RW (.val (.slice none 0 0)) (.fr (.sl 0 [])):=by
 intro O base w μ v h
 cases h with
 | aC h=>cases h;exact .fr .nil
theorem RW.Td (g:G):RW (A0 g) g:=by
 intro O base w μ v h
 cases g <;> first | exact h | (cases h with
  | aC h=>cases h
  | fr h=>exact .aC h.wO)
theorem RW.dc (f f':Bool) (g:G) (h:f'=true→f=true):RW (DN.dc f g) (DN.dc f' g):=by
 cases f with
 | true=>cases f' with
  | true=>exact RW.refl _
  | false=>exact RW.Td g
 | false=>cases f' with
  | true=>cases h rfl
  | false=>exact RW.refl _
theorem RW.agg {gs gs':List G}(hl:gs'.length=gs.length) (h:∀(j:Nat) (g':G),gs'[j]?=some g'→∃g,gs[j]?=some g∧RW g g'):RW (.agg gs) (.agg gs'):=by
 intro O base w μ v hv
 cases hv with
 | aC hv=>cases hv with
  | agg _ us h1 h2=>exact .agg _ us (h1.trans hl.symm) fun j g' v hg' hv=>(by
    obtain⟨g,hg,hw⟩:=h j g' hg'
    exact hw _ _ _ _ _ (.aC (h2 j g v hg hv)))
 | agg _ us h1 h2=>exact .agg _ us (h1.trans hl.symm) fun j g' v hg' hv=>(by
   obtain⟨g,hg,hw⟩:=h j g' hg'
   exact hw _ _ _ _ _ (h2 j g v hg hv))
theorem RW.aU {gs gs':List G}(hl:gs'.length=gs.length) (h:∀(j:Nat) (g':G),gs'[j]?=some g'→∃g,gs[j]?=some g∧RW g g'):RW (.aU gs) (.aU gs'):=by
 intro O base w μ v hv
 cases hv with
 | aC hv=>cases hv
 | aU _ us h1 h2=>exact .aU _ us (h1.trans hl.symm) fun j g' v hg' hv=>(by
   obtain⟨g,hg,hw⟩:=h j g' hg'
   exact hw _ _ _ _ _ (h2 j g v hg hv))
section
variable {S:dx}
def oA (τ:Ty):TV S→Option (Bool×S.D τ)
 | .ab f τ' a=>match τ'.fU with
  | true=>none
  | false=>match iW τ' τ a with
   | some b=>some (f||τ.iS,b)
   | none=>none
 | .val (.slice none 0 0)=>match τ with
  | .list _=>some (true,[])
  | _=>none
 | _=>none
theorem Ea {τ:Ty}{v:TV S}{f:Bool}{a:S.D τ}(h:oA τ v=some (f,a)) (ln:Nat→Nat):τ.fU=false∧RW (v.er ln) (dc f (du S τ a)):=by
 unfold oA at h
 split at h
 ·rename_i f' τ' a'
  split at h
  ·cases h
  ·rename_i h1
   split at h
   ·rename_i b hb
    cases h
    have:=dU hb
    cases this
    refine⟨h1,?_⟩
    cases τ with
    | st n=>cases h1
    | _=>cases f' <;> exact RW.refl _
   ·cases h
 ·split at h
  ·cases h
   exact⟨rfl,RW.nil⟩
  ·cases h
 ·cases h
def D9:List Ty→List (TV S)→Option (Bool×List (bi S.α))
 | [],[]=>some (true,[])
 | τ::ts,v::vs=>match oA τ v with
  | some (f,a)=>match D9 ts vs with
   | some (g,l)=>some (f&&g,⟨τ,a⟩::l)
   | none=>none
  | none=>none
 | _,_=>none
theorem D7 (ln:Nat→Nat):∀{ts:List Ty}{vs:List (TV S)}{f:Bool}{l:List (bi S.α)},D9 ts vs=some (f,l)→
  l.length=vs.length∧∀(j:Nat) (x:bi S.α),l[j]?=some x→∃v,vs[j]?=some v∧RW (v.er ln) (dc f (du S x.τ x.a))
 | [],[],_,_,h=>by cases h;exact⟨rfl,fun j x h=>by simp at h⟩
 | τ::ts,v::vs,f,l,h=>by
  simp only[D9] at h
  split at h
  ·rename_i f1 a h1
   split at h
   ·rename_i g l' h2
    cases h
    obtain⟨i1,i2⟩:=D7 ln h2
    obtain⟨_,h3⟩:=Ea h1 ln
    refine⟨by simp[i1],fun j x hx=>?_⟩
    cases j with
    | zero=>cases hx;exact⟨v,rfl,h3.trans (RW.dc _ _ _ fun h=>by simp at h;exact h.1)⟩
    | succ j=>
     obtain⟨v',h4,h5⟩:=i2 j x hx
     exact⟨v',h4,h5.trans (RW.dc _ _ _ fun h=>by simp at h;exact h.2)⟩
   ·cases h
  ·cases h
 | [],_::_,_,_,h=>by cases h
 | _::_,[],_,_,h=>by cases h
def Cs (τ:Ty) (v:TV S):Option (Bool×S.D τ):=
 match v with
 | .ab f τ' a=>match iW τ' τ a with
  | some b=>some (f||τ.iS,b)
  | none=>none
 | .val (.slice none 0 0)=>match τ with
  | .list _=>some (true,[])
  | _=>none
 | .agg vs=>match τ with
  | .st n=>match D9 (S.cn n) vs with
   | some (f,l)=>match S.put n l with
    | some a=>some (f,a)
    | none=>none
   | none=>none
  | _=>none
 | _=>none
theorem Tn {τ:Ty}{v:TV S}{f:Bool}{a:S.D τ}(h:Cs τ v=some (f,a)) (ln:Nat→Nat):RW (v.er ln) (nZ f τ a):=by
 unfold Cs at h
 split at h
 ·split at h
  ·rename_i f' _ _ _ b hb
   cases h
   have:=dU hb
   cases this
   cases τ with
   | st n=>cases f' <;> exact RW.refl _
   | _=>cases f' <;> exact RW.refl _
  ·cases h
 ·split at h
  ·cases h;exact RW.nil
  ·cases h
 ·split at h
  ·rename_i _ vs _ n
   split at h
   ·rename_i f1 l h1
    split at h
    ·rename_i a1 h2
     cases h
     obtain⟨i1,i2⟩:=D7 ln h1
     have h3:=S.lY n l a h2
     show RW (.agg (TV.er.go ln vs)) (.agg ((aW S (.st n) a).map (dc f)))
     rw[da,gJ,h3]
     refine RW.agg (by simp[i1]) fun j g' hg'=>?_
     simp only[ar,Option.map_map] at hg'
     obtain⟨x,hx,rfl⟩:=ay.1 hg'
     obtain⟨v,h4,h5⟩:=i2 j x hx
     exact⟨v.er ln,by rw[ar,h4];rfl,h5⟩
    ·cases h
   ·cases h
  ·cases h
 ·cases h
def split (f:Bool) (n:Nat) (a:S.α n):List (TV S):=(S.cells n a).map fun x=>.ab f x.τ x.a
theorem pf {τ:Ty}(h:τ.fU=false) (f:Bool) (a:S.D τ) (ln:Nat→Nat):(TV.ab f τ a:TV S).er ln=dc f (du S τ a):=by
 cases τ with
 | st n=>cases h
 | _=>rfl
theorem la (n:Nat) (a:S.α n):∀x∈S.cells n a,x.τ.fU=false:=fun x hx=>
 S.one n _ (by rw[←S.oy n a];exact gM hx)
theorem Hg (f:Bool) (n:Nat) (a:S.α n) (ln:Nat→Nat):TV.er.go ln (split f n a)=(aW S (.st n) a).map (dc f):=by
 rw[da,gJ]
 have h:=la n a
 unfold split
 generalize S.cells n a=l at h
 induction l with
 | nil=>rfl
 | cons x r ih=>
  simp only[aB]
  rw[pf (h x au),ih fun y hy=>h y (ap _ hy)]
def dK:TV S→List (TV S)
 | .agg l=>l
 | .ab f (.st n) a=>split f n a
 | v=>[v]
theorem MR (v:TV S) (ln:Nat→Nat) (h:∀u,v=.val u→u.oneCell'=true):cI (v.er ln)=TV.er.go ln (dK v):=by
 have fr1:∀(f:Bool) (τ:Ty) (a:S.D τ),τ.fU=false→cI (dc f (du S τ a))=[dc f (du S τ a)]:=by
  intro f τ a hs
  cases τ with
  | st n=>cases hs
  | _=>cases f <;> rfl
 cases v with
 | ab f τ a=>
  cases τ with
  | st n=>exact(Hg f n a ln).symm
  | _=>exact fr1 f _ a rfl
 | agg l=>rfl
 | ptr f τ a=>cases f <;> rfl
 | val u=>exact congrArg (List.map G.val) (congrArg Array.toList (tD (h u rfl)))
 | fX b h τ i j=>cases b <;> rfl
 | bT b h off=>cases b <;> rfl
 | _=>rfl
end
end Go.DN
/-
 DN,part D:the operations that yield a value and leave the world alone,as one function.
-/
namespace Go.DN
open Go.AM
section
variable {S:dx}
def Ql (P:Program) (t:TypeId) (i:Nat) (x:TV S):Option (TV S):=
 match P.underlying t with
 | some (.struct fs)=>match fs[i]? with
  | some f=>match nY P f.type with
   | some (z+1)=>match x with
    | .loc h off=>some (.loc h (off+f.offset))
    | .gY h τ i j=>some (.gY h τ i (j+f.offset))
    | .kp h (.list τ) i j=>some (.kp h (.list τ) i (j+f.offset))
    | .ptr fl (.st n) a=>match EU P f.type with
     | some false=>match (S.cells n a)[f.offset]? with
      | some y=>some (.ptr fl y.τ y.a)
      | none=>none
     | some true=>match S.ty f.type with
      | some n'=>match S.put n' (((S.cells n a).drop f.offset).take (z+1)) with
       | some a'=>some (.ptr fl (.st n') a')
       | none=>none
      | none=>none
     | none=>none
    | _=>none
   | _=>none
  | none=>none
 | _=>none
def Qk (P:Program) (t:TypeId) (i:Nat) (x:TV S):Option (TV S):=
 match P.underlying t with
 | some (.struct fs)=>match fs[i]? with
  | some f=>match EU P f.type with
   | some false=>match x with
    | .agg l=>l[f.offset]?
    | .ab fl (.st n) a=>match (S.cells n a)[f.offset]? with
     | some y=>some (.ab fl y.τ y.a)
     | none=>none
    | _=>none
   | _=>none
  | none=>none
 | _=>none
section
variable {P:Program}{s:aj S}{dst:Option Tmp}{ty:TypeId}{pos:String}{after:Array Edge}{guard:Option (Nat×Bool)}
theorem SC {t:TypeId}{i:Nat}{x:Operand}{vx v:TV S}(hx:cG s x=some vx) (h:Qk P t i vx=some v):
  PY P s.er ⟨dst,.field t x i,ty,pos,after,guard⟩ (v.er s.ln):=by
 unfold Qk at h
 split at h
 ·rename_i fs hu
  split at h
  ·rename_i f hf
   split at h
   ·rename_i ha
    split at h
    ·rename_i l
     refine PY.Oc (gs:=TV.er.go s.ln l) (bu hx) hu hf (ff ha) ?_
     rw[da,ar,h];rfl
    ·rename_i fl n a
     split at h
     ·rename_i y hy
      cases h
      refine PY.Oc (gs:=(aW S (.st n) a).map (dc fl)) (bu hx) hu hf (ff ha) ?_
      rw[←Hg fl n a s.ln,da,ar]
      unfold split
      rw[ar,hy];rfl
     ·cases h
    ·cases h
   ·cases h
  ·cases h
 ·cases h
theorem Du (f:Bool) (τ:Ty) (a:S.D τ) (ln:Nat→Nat):(TV.ptr f τ a:TV S).er ln=Eh f (aW S τ a):=rfl
theorem SD {t:TypeId}{i:Nat}{x:Operand}{vx v:TV S}(hx:cG s x=some vx) (h:Ql P t i vx=some v):
  PY P s.er ⟨dst,.fieldAddr t x i,ty,pos,after,guard⟩ (v.er s.ln):=by
 unfold Ql at h
 split at h
 ·rename_i fs hu
  split at h
  ·rename_i f hf
   split at h
   ·rename_i z hz
    split at h
    ·cases h
     exact PY.field (bu hx) rfl hu hf (cU hz) (by omega)
    ·cases h
     rename_i hh τ i' j
     refine PY.rw (PY.field (g':=.loc hh (i'*S.sz τ+j+f.offset)) (bu hx) rfl hu hf (cU hz) (by omega)) ?_
     show RW _ (.loc hh (i'*S.sz τ+(j+f.offset)))
     rw[nR]
     exact RW.refl _
    ·cases h
     rename_i hh τ i' j
     refine PY.rw (PY.field (g':=.kp hh i' (j*S.sz (.list τ)+f.offset)) (bu hx) rfl hu hf (cU hz) (by omega)) ?_
     show RW _ (.kp hh i' ((j+f.offset)*S.sz (.list τ)))
     rw[show S.sz (.list τ)=1 from rfl,kc,kc]
     exact RW.refl _
    ·rename_i fl n a
     have key:∀(cs:List G) (m:Nat),((aW S (.st n) a).drop f.offset).take m=cs→PY P s.er ⟨dst,.fieldAddr t x i,ty,pos,after,guard⟩ (Eh fl cs):=by
      intro cs m he
      subst he
      have e0:=bu hx
      rw[Du] at e0
      refine PY.rw (PY.field (g':=Eh fl ((aW S (.st n) a).drop f.offset)) e0 ?_ hu hf (cU hz) (by omega)) (RW.uF _ _ _)
      cases fl <;> rfl
     split at h
     ·split at h
      ·rename_i y hy
       cases h
       refine key _ 1 ?_
       rw[gJ,kN S (la n a y (aL hy))]
       rw[←List.map_drop,←List.map_take]
       have:((S.cells n a).drop f.offset).take 1=[y]:=by
        have:=aw.1 hy
        obtain⟨h1,h2⟩:=this
        rw[fc h1,h2];rfl
       rw[this];rfl
      ·cases h
     ·split at h
      ·rename_i n' _
       split at h
       ·rename_i a' h'
        cases h
        refine key _ (z+1) ?_
        rw[gJ,gJ,S.lY _ _ _ h',List.map_take,List.map_drop]
       ·cases h
      ·cases h
     ·cases h
    ·cases h
   ·cases h
  ·cases h
 ·cases h
def zd (h:Nat) (τ:Ty) (o n:Nat) (lo hi:Option (TV S)){A:Type}(k:TV S→Option A):Option A:=
 match lo,hi with
 | some (.ab _ (.int _) i),some (.ab _ (.int _) j)=>(dA (0≤i∧i≤j∧j≤(n:Int))).bind fun _=>k (.sub h τ (o+Int.toNat i) (Int.toNat j-Int.toNat i))
 | some (.ab _ (.int _) i),none=>(dA (0≤i∧i≤(n:Int))).bind fun _=>k (.sub h τ (o+Int.toNat i) (n-Int.toNat i))
 | none,some (.ab _ (.int _) j)=>(dA (0≤j∧j≤(n:Int))).bind fun _=>k (.sub h τ o (Int.toNat j))
 | none,none=>none
 | _,_=>none
def Po (ln:Nat→Nat) (t:TypeId) (P:Program) (x:TV S) (lo hi:Option (TV S)){A:Type}(k:TV S→Option A):Option A:=
 match P.underlying t with
 | some (.slice e)=>match x with
  | .ab f (.list τ) l=>match decEq (nY P e) (some (S.sz τ)) with
   | isFalse _=>none
   | isTrue _=>match lo,hi with
    | some (.ab _ (.int _) i),some (.ab _ (.int _) j)=>(dA (0≤i∧i≤j∧j≤(List.length l:Int))).bind fun _=>k (.ab f (.list τ) (jm l i j))
    | some (.ab _ (.int _) i),none=>(dA (0≤i∧i≤(List.length l:Int))).bind fun _=>k (.ab f (.list τ) (jm l i (List.length l:Int)))
    | none,some (.ab _ (.int _) j)=>(dA (0≤j∧j≤(List.length l:Int))).bind fun _=>k (.ab f (.list τ) (jm l 0 j))
    | _,_=>none
  | .aK h τ=>match decEq (nY P e) (some (S.sz τ)) with
   | isFalse _=>none
   | isTrue _=>zd h τ 0 (ln h) lo hi k
  | .sub h τ o n=>match decEq (nY P e) (some (S.sz τ)) with
   | isFalse _=>none
   | isTrue _=>zd h τ o n lo hi k
  | _=>none
 | some .string=>match x with
  | .ab _ .str b=>match lo,hi with
   | some (.ab _ (.int _) i),some (.ab _ (.int _) j)=>(dA (0≤i∧i≤j∧j≤(b.size:Int))).bind fun _=>k (.ab true .str (b.extract i.toNat j.toNat))
   | some (.ab _ (.int _) i),none=>(dA (0≤i∧i≤(b.size:Int))).bind fun _=>k (.ab true .str (b.extract i.toNat b.size))
   | none,some (.ab _ (.int _) j)=>(dA (0≤j∧j≤(b.size:Int))).bind fun _=>k (.ab true .str (b.extract 0 j.toNat))
   | _,_=>none
  | _=>none
 | _=>none
theorem aM.zd {O:Nat→Prop}{base:Nat}{w:World}{μ:Mu}{h sz off n i j:Nat}{v:Value}(hv:aM O base w μ (.aK h sz off n) v) (h1:i≤j) (h2:j≤n):
  ∃(a:Option Addr) (cap:Nat),v=.slice a n cap∧n≤cap∧aM O base w μ (.aK h sz (off+i*sz) (j-i)) (sliced a i j cap sz):=by
 cases hv with
 | aC hv=>cases hv
 | eD _ _ hm=>
  obtain rfl:i=0:=by omega
  obtain rfl:j=0:=by omega
  refine⟨none,0,rfl,aq _,?_⟩
  simp only[sliced,fg,dJ,if_true]
  exact .eD h sz hm
 | aK _ _ _ _ b m cap hm hn hc=>
  refine⟨_,cap,rfl,hn,?_⟩
  unfold sliced
  by_cases e:cap=i
  ·rw[if_pos e]
   have hj:j-i=0:=by omega
   have hci:cap-i=0:=by omega
   rw[hj,hci]
   by_cases hpos:0<m.1
   ·have:off+i*sz=m.1:=by rw[←e];exact hc
    rw[this]
    exact .dO h sz off b m.1 hm hpos
   ·have h5:off=0:=by omega
    have h6:i*sz=0:=by rw[←e];omega
    rw[h5,h6]
    exact .aK h sz 0 0 b m 0 hm (aq _) (by omega)
  ·rw[if_neg e]
   simp only[b9,Addr.lf]
   refine .aK h sz _ _ b m _ hm (by omega) ?_
   have:i*sz+(cap-i)*sz=cap*sz:=by rw[←eI];congr 1;omega
   omega
 | dO _ _ off0 b m hm hpos=>
  obtain rfl:i=0:=by omega
  obtain rfl:j=0:=by omega
  refine⟨_,0,rfl,aq _,?_⟩
  simp only[sliced,fg,dJ,if_true]
  exact .dO h sz off0 b _ hm hpos
theorem ur (f:Bool) (τ:Ty) (l:List (S.D τ)) (ln:Nat→Nat):(TV.ab f (.list τ) l:TV S).er ln=@Cu _ (mP S τ) f l:=by cases f <;> rfl
def qM (s:aj S):Option Operand→Option (Option (TV S))
 | none=>some none
 | some x=>match cG s x with
  | some v=>some (some v)
  | none=>none
theorem KT {j:Int}{n:Nat}(h:j≤(n:Int)):j.toNat≤n:=by omega
theorem NP {j:Int}{n cap:Nat}(h:j≤(n:Int)) (h':n≤cap):j≤(cap:Int):=by omega
theorem JF {t e:TypeId}{x:Operand}{lo hi:Option Operand}{h n o:Nat}{τ:Ty}{vl vh:Option (TV S)}{A:Type}{k:TV S→Option A}{r:A}(hx:ev s.er x=some (.aK h (S.sz τ) (o*S.sz τ) n))
  (hl:qM s lo=some vl) (hh:qM s hi=some vh) (hu:P.underlying t=some (.slice e)) (hz:nY P e=some (S.sz τ))
  (hk:zd h τ o n vl vh k=some r):∃v,PY P s.er ⟨dst,.slice t x lo hi none,ty,pos,after,guard⟩ (v.er s.ln)∧k v=some r:=by
 letI:=mP S τ
 have opS:∀{o:Option Operand}{v:TV S},qM s o=some (some v)→∃y,o=some y∧cG s y=some v:=by
  intro o v h
  cases o with
  | none=>cases h
  | some y=>
   simp only[qM] at h
   split at h
   ·rename_i v' hv;cases h;exact⟨y,rfl,hv⟩
   ·cases h
 have opN:∀{o:Option Operand},qM s o=some none→o=none:=by
  intro o h
  cases o with
  | none=>rfl
  | some y=>
   simp only[qM] at h
   split at h <;> cases h
 have er:∀(i m:Nat),(TV.sub h τ (o+i) m:TV S).er s.ln=.aK h (S.sz τ) (o*S.sz τ+i*S.sz τ) m:=by
  intro i m;show G.aK h (S.sz τ) ((o+i)*S.sz τ) m=_;rw[eI]
 unfold zd at hk
 split at hk
 ·obtain⟨u,hc,hk⟩:=bind_some hk
  obtain⟨y,rfl,hy⟩:=opS hl
  obtain⟨y',rfl,hy'⟩:=opS hh
  obtain⟨c1,c2,c3⟩:=cS hc
  refine⟨_,?_,hk⟩
  rw[er]
  intro N cx μ a w hr
  obtain⟨ad,cap,e1,e2,e3⟩:=aM.zd (hr.ev hx) (Int.toNat_le_toNat c2) (KT c3)
  refine⟨_,e3,fun w'=>?_⟩
  simp[execOp,e1,hr.val (lC hy),hr.val (lC hy'),Hm (α:=S.D τ) (P:=P) hu (cU hz) ad n cap c1 c2 (NP c3 e2) w']
  rfl
 ·obtain⟨u,hc,hk⟩:=bind_some hk
  obtain⟨y,rfl,hy⟩:=opS hl
  cases opN hh
  obtain⟨c1,c2⟩:=cS hc
  refine⟨_,?_,hk⟩
  rw[er]
  intro N cx μ a w hr
  obtain⟨ad,cap,e1,e2,e3⟩:=aM.zd (i:=Int.toNat _) (j:=n) (hr.ev hx) (KT c2) (aq _)
  refine⟨_,e3,fun w'=>?_⟩
  simp[execOp,e1,hr.val (lC hy),Cz (α:=S.D τ) (P:=P) hu (cU hz) ad n cap c1 c2 w']
  rfl
 ·obtain⟨u,hc,hk⟩:=bind_some hk
  cases opN hl
  obtain⟨y,rfl,hy⟩:=opS hh
  obtain⟨c1,c2⟩:=cS hc
  refine⟨_,?_,hk⟩
  have:=er 0 (Int.toNat ‹_›)
  rw[dJ] at this
  rw[this]
  intro N cx μ a w hr
  obtain⟨ad,cap,e1,e2,e3⟩:=aM.zd (i:=0) (j:=Int.toNat _) (hr.ev hx) (cv _) (KT c2)
  refine⟨_,e3,fun w'=>?_⟩
  simp[execOp,e1,hr.val (lC hy),CA (α:=S.D τ) (P:=P) hu (cU hz) ad n cap c1 (NP c2 e2) w']
  rfl
 ·cases hk
 ·cases hk
theorem RX {t:TypeId}{x:Operand}{lo hi:Option Operand}{vx:TV S}{vl vh:Option (TV S)}{A:Type}{k:TV S→Option A}{r:A}(hx:cG s x=some vx) (hl:qM s lo=some vl) (hh:qM s hi=some vh)
  (h:Po s.ln t P vx vl vh k=some r):∃v,PY P s.er ⟨dst,.slice t x lo hi none,ty,pos,after,guard⟩ (v.er s.ln)∧k v=some r:=by
 have opS:∀{o:Option Operand}{v:TV S},qM s o=some (some v)→∃y,o=some y∧cG s y=some v:=by
  intro o v h
  cases o with
  | none=>cases h
  | some y=>
   simp only[qM] at h
   split at h
   ·rename_i v' hv;cases h;exact⟨y,rfl,hv⟩
   ·cases h
 have opN:∀{o:Option Operand},qM s o=some none→o=none:=by
  intro o h
  cases o with
  | none=>rfl
  | some y=>
   simp only[qM] at h
   split at h <;> cases h
 unfold Po at h
 split at h
 ·rename_i e hu
  split at h
  ·rename_i f τ l
   split at h
   ·cases h
   ·rename_i hz _
    have e0:=bu hx
    rw[ur] at e0
    split at h
    ·obtain⟨u,hc,h⟩:=bind_some h
     obtain⟨y,rfl,hy⟩:=opS hl
     obtain⟨y',rfl,hy'⟩:=opS hh
     obtain⟨c1,c2,c3⟩:=cS hc
     refine⟨_,?_,h⟩
     rw[ur]
     letI:=mP S τ;exact PY.slice (α:=S.D τ) e0 (lC hy) (lC hy') hu (cU hz) c1 c2 c3
    ·obtain⟨u,hc,h⟩:=bind_some h
     obtain⟨y,rfl,hy⟩:=opS hl
     cases opN hh
     obtain⟨c1,c2⟩:=cS hc
     refine⟨_,?_,h⟩
     rw[ur]
     letI:=mP S τ;exact PY.Tu (α:=S.D τ) e0 (lC hy) hu (cU hz) c1 c2
    ·obtain⟨u,hc,h⟩:=bind_some h
     cases opN hl
     obtain⟨y,rfl,hy⟩:=opS hh
     obtain⟨c1,c2⟩:=cS hc
     refine⟨_,?_,h⟩
     rw[ur]
     letI:=mP S τ;exact PY.Tv (α:=S.D τ) e0 (lC hy) hu (cU hz) c1 c2
    ·cases h
  ·split at h
   ·cases h
   ·rename_i hz _
    refine JF (n:=s.ln _) (o:=0) ?_ hl hh hu hz h
    rw[bu hx,fg];rfl
  ·split at h
   ·cases h
   ·rename_i hz _
    exact JF (bu hx) hl hh hu hz h
  ·cases h
 ·rename_i hu
  split at h
  ·rename_i b
   have e0:=Ds hx
   split at h
   ·obtain⟨u,hc,h⟩:=bind_some h
    obtain⟨y,rfl,hy⟩:=opS hl
    obtain⟨y',rfl,hy'⟩:=opS hh
    obtain⟨c1,c2,c3⟩:=cS hc
    exact⟨_,PY.Tt e0 (lC hy) (lC hy') hu c1 c2 c3,h⟩
   ·obtain⟨u,hc,h⟩:=bind_some h
    obtain⟨y,rfl,hy⟩:=opS hl
    cases opN hh
    obtain⟨c1,c2⟩:=cS hc
    exact⟨_,PY.RU e0 (lC hy) hu c1 c2,h⟩
   ·obtain⟨u,hc,h⟩:=bind_some h
    cases opN hl
    obtain⟨y,rfl,hy⟩:=opS hh
    obtain⟨c1,c2⟩:=cS hc
    exact⟨_,PY.RV e0 (lC hy) hu c1 c2,h⟩
   ·cases h
  ·cases h
 ·cases h
end
end
end Go.DN
/-
 DN,part E:the operations that yield a value,put together.
-/
namespace Go.DN
open Go.AM
section
variable {S:dx}
def okV:TV S→Bool
 | .any=>false
 | .val u=>u.oneCell'
 | _=>true
theorem sn {v:TV S}(h:okV v=true) (ln:Nat→Nat):Dg (v.er ln)=true:=by
 cases v with
 | ab f τ a=>cases τ with
  | st n=>rfl
  | _=>cases f <;> rfl
 | ptr f τ a=>cases f <;> rfl
 | fX b h τ i j=>cases b <;> rfl
 | bT b h off=>cases b <;> rfl
 | any=>cases h
 | _=>rfl
theorem vD {v:TV S}(h:okV v=true) (ln:Nat→Nat):cI (v.er ln)=TV.er.go ln (dK v):=MR v ln fun u e=>by subst e;exact h
def Gf (places:List (Nat×Nat)) (cells:List (TV S)):List (Nat×TV S)→Option (List (TV S))
 | []=>some cells
 | (i,v)::r=>match places[i]? with
  | some (off,size)=>match okV v&&(Nat.beq (dK v).length size&&Nat.ble (off+size) cells.length) with
   | true=>Gf places (setAt cells off (dK v)) r
   | false=>none
  | none=>none
theorem E4 {α β:Type}(f:α→β):∀(xs:List α) (off:Nat) (cs:List α),(setAt cs off xs).map f=setAt (cs.map f) off (xs.map f)
 | [],_,_=>rfl
 | x::r,off,cs=>by simp only[setAt,aB,E4 f r,qH]
theorem G6 (ln:Nat→Nat) (places:List (Nat×Nat)):∀{parts:List (Nat×TV S)}{cells out:List (TV S)},Gf places cells parts=some out→
  AA (places[·]?) (TV.er.go ln cells) (parts.map fun x=>(x.1,x.2.er ln))=some (TV.er.go ln out)
 | [],_,_,h=>by cases h;rfl
 | (i,v)::r,cells,out,h=>by
  simp only[Gf] at h
  split at h
  ·rename_i off size hp
   split at h
   ·rename_i hc
    simp only[ag] at hc
    obtain⟨h1,h2,h3⟩:=hc
    have h4:=sn h1 ln
    have h5:=vD h1 ln
    have ih:=G6 ln places h
    simp only[aB,AA,hp]
    have h6:(cI (v.er ln)).length=(dK v).length:=by rw[h5,da,aN]
    have h7:(TV.er.go ln cells).length=cells.length:=by rw[da,aN]
    rw[h4,h6,h7,h2,h3,h5]
    simp only[gu]
    have h8:setAt (TV.er.go ln cells) off (TV.er.go ln (dK v))=TV.er.go ln (setAt cells off (dK v)):=by
     simp only[da,E4]
    rw[h8]
    exact ih
   ·cases h
  ·cases h
def KU (s:aj S):List (Nat×Operand)→Option (List (Nat×TV S))
 | []=>some []
 | (i,x)::r=>match cG s x with
  | some v=>match KU s r with
   | some vs=>some ((i,v)::vs)
   | none=>none
  | none=>none
theorem Jx {s:aj S}:∀{l:List (Nat×Operand)}{vs:List (Nat×TV S)},KU s l=some vs→IC s.er l=some (vs.map fun x=>(x.1,x.2.er s.ln))
 | [],_,h=>by cases h;rfl
 | (i,x)::r,vs,h=>by
  simp only[KU] at h
  split at h
  ·rename_i v hv
   split at h
   ·rename_i vs' hr
    cases h
    simp only[IC,bu hv,Jx hr,aB]
   ·cases h
  ·cases h
def tC (s:aj S):List Operand→Option (List (TV S))
 | []=>some []
 | x::r=>match cG s x with
  | some v=>match tC s r with
   | some vs=>some (v::vs)
   | none=>none
  | none=>none
theorem lK {s:aj S}:∀{l:List Operand}{vs:List (TV S)},tC s l=some vs→l.map (ev s.er)=(TV.er.go s.ln vs).map some∧tc s.er l=some (TV.er.go s.ln vs)
 | [],_,h=>by cases h;exact⟨rfl,rfl⟩
 | x::r,vs,h=>by
  simp only[tC] at h
  split at h
  ·rename_i v hv
   split at h
   ·rename_i vs' hr
    cases h
    obtain⟨i1,i2⟩:=lK hr
    exact⟨by simp only[aB,TV.er.go,bu hv,i1],by simp only[TV.er.go,tc,bu hv,i2]⟩
   ·cases h
  ·cases h
def LB (s:aj S):TV S→Option Int
 | .ab _ (.list _) l=>some (List.length l:Int)
 | .aK h _=>match aF s.bj h with
  | some (.arr _ _ _ _ l)=>some (List.length l:Int)
  | some (.deep _ _ _ _ τ a)=>some (wg τ a:Int)
  | _=>none
 | .ks _ _ _ n=>some (n:Int)
 | .sub _ _ _ n=>some (n:Int)
 | .val (.slice none 0 0)=>some 0
 | _=>none
def Qa (P:Program) (t:TypeId) (v:TV S) (y:Operand):Option Bool:=
 match v with
 | .ab _ .cH b=>match y with
  | .const .nilIface=>match P.underlying t with
   | some (.interface _)=>some b
   | _=>none
  | _=>none
 | _=>none
theorem Sx {P:Program}{t:TypeId}{v:TV S}{y:Operand}{b:Bool}(h:Qa P t v y=some b) (ln:Nat→Nat):y=.const .nilIface∧(∃ms,P.underlying t=some (.interface ms))∧∀o:Option G,o=some (v.er ln)→o=some (.cH b)∨o=some (.fr (.cH b)):=by
 unfold Qa at h
 split at h
 ·rename_i f b'
  split at h
  ·split at h
   ·rename_i hu
    cases h
    refine⟨rfl,⟨_,hu⟩,fun o ho=>?_⟩
    subst ho
    cases f
    ·exact .inl rfl
    ·exact .inr rfl
   ·cases h
  ·cases h
 ·cases h
def nilPtr (P:Program) (t:TypeId) (v:TV S) (y:Operand):Option Bool:=
 match y with
 | .const (.pointer none)=>match P.underlying t with
  | some (.pointer _)=>match v with
   | .kp _ _ _ _=>some false
   | .fX b _ _ _ _=>some b
   | .bT b _ _=>some b
   | .val (.pointer none)=>some true
   | .loc _ _=>some false
   | _=>none
  | _=>none
 | _=>none
theorem NA {P:Program}{t:TypeId}{v:TV S}{y:Operand}{b:Bool}(h:nilPtr P t v y=some b) (ln:Nat→Nat):y=.const (.pointer none)∧(∃e,P.underlying t=some (.pointer e))∧uG (v.er ln)=some b:=by
 unfold nilPtr at h
 split at h
 ·split at h
  ·rename_i e hu
   refine⟨rfl,⟨e,hu⟩,?_⟩
   split at h
   ·cases h;rfl
   ·cases h;cases b <;> rfl
   ·cases h;cases b <;> rfl
   ·cases h;rfl
   ·cases h;rfl
   ·cases h
  ·cases h
 ·cases h
def Sq (s:aj S) (x:Operand):Option Operand→Option Operand→Bool
 | some _,some _=>match cG s x with
  | some (.sub h _ _ _)=>match aF s.bj h with
   | some (.arr _ _ _ _ _)=>true
   | _=>false
  | _=>false
 | _,_=>false
def Pp (P:Program) (s:aj S) (t:TypeId) (x:Operand) (lo hi:Option Operand){A:Type}(k:TV S→Option A):Option A:=
 none
def Pq (P:Program) (s:aj S) (t:TypeId) (x lo hi mx:Operand){A:Type}(k:TV S→Option A):Option A:=
 none
def Hu (P:Program) (s:aj S) (op:Op){A:Type}(k:TV S→Option (bi S.α)→Option A):Option A:=
 match op with
 | .move x=>match cG s x with
  | some v=>k v none
  | none=>none
 | .assign x=>match cG s x with
  | some v=>k v none
  | none=>none
 | .pick c x y=>match cG s c with
  | some (.ab _ .bool b)=>match b with
   | true=>match cG s x with
    | some v=>k v none
    | none=>none
   | false=>match cG s y with
    | some v=>k v none
    | none=>none
  | _=>none
 | .binOp op t x y _=>match cG s x with
  | some vx=>match nilPtr P t vx y with
   | some b=>match op with
    | .eql=>k (.ab true .bool b) none
    | .neq=>k (.ab true .bool (!b)) none
    | _=>none
   | none=>match Qa P t vx y with
    | some b=>match op with
     | .eql=>k (.ab true .bool (!b)) none
     | .neq=>k (.ab true .bool b) none
     | _=>none
    | none=>match cG s y with
     | some vy=>QT P op t vx vy fun v=>k v none
     | none=>none
  | none=>none
 | .unOp op _ x=>match op with
  | .not=>match cG s x with
   | some (.ab _ .bool b)=>k (.ab true .bool (!b)) none
   | _=>none
  | .neg=>match cG s x with
   | some (.ab _ (.int ki) a)=>k (.ab true (.int ki) (ki.wrap (0-a))) none
   | _=>none
  | _=>none
 | .convert t t' x=>match P.underlying t with
  | some _=>match P.underlying t' with
   | some (.int ki)=>match cG s x with
    | some (.ab _ (.int _) a)=>k (.ab true (.int ki) (ki.wrap a)) none
    | _=>none
   | some .string=>match cG s x with
    | some (.ab _ .str a)=>k (.ab true .str a) none
    | _=>none
   | _=>none
  | none=>none
 | .extract x i=>match cG s x with
  | some (.aU l)=>match l[i]? with
   | some v=>k v none
   | none=>none
  | _=>none
 | .field t x i=>match cG s x with
  | some vx=>match Qk P t i vx with
   | some v=>k v none
   | none=>none
  | none=>none
 | .fieldAddr t x i=>match cG s x with
  | some vx=>match Ql P t i vx with
   | some v=>k v none
   | none=>none
  | none=>none
 | .indexAddr t x y=>match P.underlying t with
  | some (.slice e)=>match cG s y with
   | some (.ab _ (.int _) i)=>match cG s x with
    | some (.ab f (.list τ) l)=>match decEq (nY P e) (some (S.sz τ)) with
     | isTrue _=>(idx l i).bind fun a=>k (.ptr f τ a) none
     | isFalse _=>none
    | some (.aK h τ)=>match decEq (nY P e) (some (S.sz τ)) with
     | isTrue _=>match aF s.bj h with
      | some (.arr _ _ _ τ' l)=>match decEq τ' τ with
       | isTrue _=>(idx l i).bind fun a=>k (.gY h τ i.toNat 0) (some ⟨τ',a⟩)
       | isFalse _=>none
      | some (.deep _ _ _ _ τ' a)=>(dA (0≤i∧i<(wg τ' a:Int))).bind fun _=>k (.gY h τ i.toNat 0) none
      | _=>none
     | isFalse _=>none
    | some (.sub h τ o n)=>match decEq (nY P e) (some (S.sz τ)) with
     | isTrue _=>match aF s.bj h with
      | some (.arr _ _ _ τ' l)=>match decEq τ' τ with
       | isTrue _=>(dA (0≤i∧i<(n:Int))).bind fun _=>(l[o+i.toNat]?).bind fun a=>k (.gY h τ (o+i.toNat) 0) (some ⟨τ',a⟩)
       | isFalse _=>none
      | some (.box _ _ _)=>(dA (0≤i∧i<(n:Int))).bind fun _=>k (.gY h τ (o+i.toNat) 0) none
      | _=>none
     | isFalse _=>none
    | some (.ks h τ j n)=>match decEq (nY P e) (some (S.sz τ)) with
     | isTrue _=>(dA (0≤i∧i<(n:Int))).bind fun _=>k (.kp h τ j i.toNat) none
     | isFalse _=>none
    | _=>none
   | _=>none
  | some (.array n e)=>match cG s y with
   | some (.ab _ (.int _) i)=>match cG s x with
    | some (.loc h off)=>match P.underlying e with
     | some (.int ki)=>match decEq (nY P e) (some 1) with
      | isTrue _=>(dA (0≤i∧i<(n:Int))).bind fun _=>k (.gY h (.int ki) i.toNat off) none
      | isFalse _=>none
     | _=>none
    | _=>none
   | _=>none
  | _=>none
 | .index t x y=>match P.underlying t with
  | some .string=>match cG s x with
   | some (.ab _ .str b)=>match cG s y with
    | some (.ab _ (.int _) i)=>(lF b i).bind fun c=>k (.ab true (.int .u8) (c.toNat:Int)) none
    | _=>none
   | _=>none
  | _=>none
 | .slice t x lo hi none=>match Sq s x lo hi with
  | true=>Pp P s t x lo hi fun v=>k v none
  | false=>match cG s x with
   | some vx=>match qM s lo with
    | some vl=>match qM s hi with
     | some vh=>Po s.ln t P vx vl vh fun v=>k v none
     | none=>none
    | none=>none
   | none=>none
 | .slice t x (some lo) (some hi) (some mx)=>Pq P s t x lo hi mx fun v=>k v none
 | .makeFunc (.func f) first caps=>match first.toList with
  | []=>match tC s caps.toList with
   | some vs=>match qd.contains f with
    | false=>k (.aP f vs) none
    | true=>none
   | none=>none
  | [x]=>match caps.toList with
   | []=>match cG s x with
    | some v=>match qd.contains f with
     | true=>k (.aP f [v]) none
     | false=>none
    | none=>none
   | _=>none
  | _=>none
 | .nilCheck x=>match cG s x with
  | some v=>match v with
   | .loc _ _=>k v none
   | .gY _ _ _ _=>k v none
   | .ptr _ _ _=>k v none
   | .aP _ _=>k v none
   | .kp _ _ _ _=>k v none
   | .fX b h τ i j=>(dA (b=false)).bind fun _=>k (.kp h τ i j) none
   | _=>none
  | none=>none
 | .call c=>match c.callee with
  | .builtin .len=>match c.args.toList,c.argTypes.toList with
   | [x],[t]=>match P.underlying t with
    | some (.slice _)=>match cG s x with
     | some v=>match LB s v with
      | some n=>k (.ab true (.int .i64) n) none
      | none=>none
     | none=>none
    | some .string=>match cG s x with
     | some (.ab _ .str b)=>k (.ab true (.int .i64) (b.size:Int)) none
     | _=>none
    | _=>none
   | _,_=>none
  | .builtin .min=>match c.args.toList with
   | [x,y]=>match cG s x,cG s y with
    | some (.ab _ (.int ki) a),some (.ab _ (.int _) b)=>k (.ab true (.int ki) (if b<a then b else a)) none
    | _,_=>none
   | _=>none
  | .builtin .max=>match c.args.toList with
   | [x,y]=>match cG s x,cG s y with
    | some (.ab _ (.int ki) a),some (.ab _ (.int _) b)=>k (.ab true (.int ki) (if b>a then b else a)) none
    | _,_=>none
   | _=>none
  | _=>none
 | .build t parts=>match P.underlying t with
  | some (.struct fs)=>match (P.info? t).bind (·.zero) with
   | some z=>match fs.toList.mapM (fun f=>(P.info? f.type).map fun i=>(f.offset,i.size)) with
    | some places=>match KU s parts.toList with
     | some vs=>match Gf places (z.cells.toList.map vt) vs with
      | some out=>k (.agg out) none
      | none=>none
     | none=>none
    | none=>none
   | none=>none
  | _=>none
 | _=>none
def OY (s:aj S) (v:TV S):Option (bi S.α)→Prop
 | none=>True
 | some x=>∃h i bw m f τ l a,v=.gY h τ i 0∧aF s.bj h=some (.arr bw m f τ l)∧x=⟨τ,a⟩∧l[i]?=some a
def aj.oD (s:aj S) (d:Nat) (v:TV S):Option (bi S.α)→aj S
 | none=>s.put d v
 | some x=>match v with
  | .gY h _ _ _=>{s with fr:=(d,v)::s.fr,last:=(d,h,x)::Hp d s.last}
  | _=>s.put d v
theorem Ak (s:aj S) (d:Nat) (v:TV S) (x:Option (bi S.α)):(s.oD d v x).er=s.er.put d (v.er s.ln):=by
 cases x with
 | none=>rfl
 | some x=>cases v <;> rfl
theorem sY (s:aj S) (d:Nat) (v:TV S) (x:Option (bi S.α)):bA s (s.oD d v x):=by
 cases x with
 | none=>exact⟨rfl,rfl,rfl⟩
 | some x=>cases v <;> exact⟨rfl,rfl,rfl⟩
theorem Eg {s:aj S}(hl:aO s) (d:Nat){v:TV S}{x:Option (bi S.α)}(h:OY s v x):aO (s.oD d v x):=by
 cases x with
 | none=>exact hl.put d v
 | some x=>
  obtain⟨hh,i,bw,m,f,τ,l,a,e1,e2,e3,e4⟩:=h
  subst e1
  intro d' h' x' hm
  rcases bf.1 hm with e | hm
  ·cases e
   exact⟨i,bw,m,f,τ,l,a,by simp only[aj.oD,aj.bV,bd,bp,aQ,cond_true],e2,e3,e4⟩
  ·obtain⟨i',ety',m',f',τ',l',a',q1,q2⟩:=hl.put d (.gY hh τ i 0) d' h' x' hm
   exact⟨i',ety',m',f',τ',l',a',q1,q2⟩
section
variable {P:Program}{s:aj S}{dst:Option Tmp}{ty:TypeId}{pos:String}{after:Array Edge}{guard:Option (Nat×Bool)}
theorem oG {h:Nat}{e:TypeId}{m f:Bool}{τ:Ty}{l:List (S.D τ)}(ho:aF s.bj h=some (.arr e m f τ l)):s.ln h=l.length:=by
 unfold aj.ln bI
 rw[ho];rfl
theorem JY {h:Nat}{e:TypeId}{m f:Bool}{dk:Dk}{τ:Ty}{a:S.D τ}(ho:aF s.bj h=some (.deep e m f dk τ a)):s.ln h=wg τ a:=by
 unfold aj.ln bI
 rw[ho];rfl
theorem Eu {v:TV S}{n:Int}(h:LB s v=some n):LC (v.er s.ln)=some n:=by
 unfold LB at h
 split at h
 ·rename_i f τ l
  cases h
  cases f <;> rfl
 ·split at h
  ·rename_i ho
   cases h
   show some ((s.ln _:Nat):Int)=_
   rw[oG ho]
  ·rename_i ho
   cases h
   show some ((s.ln _:Nat):Int)=_
   rw[JY ho]
  ·cases h
 ·cases h;rfl
 ·cases h;rfl
 ·cases h;rfl
 ·cases h
theorem D5 {α:Type}{a:Array α}{x:α}(h:a.toList=[x]):a=#[x]:=by cases a;simp at h;subst h;rfl
theorem Ag {α:Type}{a:Array α}{x y:α}(h:a.toList=[x,y]):a=#[x,y]:=by cases a;simp at h;subst h;rfl
theorem D6 {α:Type}{a:Array α}(h:a.toList=[]):a=#[]:=by cases a;simp at h;subst h;rfl
theorem Oj {τ:Ty}{l:List (S.D τ)}{i:Int}{a:S.D τ}(h:idx l i=some a):((List.flatMap (aW S τ) l).drop (i.toNat*S.sz τ)).take (S.sz τ)=aW S τ a:=
 @BW _ (mP S τ) _ _ _ h
theorem Sy {t e:TypeId}{x y:Operand}{f:Bool}{τ:Ty}{l:List (S.D τ)}{ki:IntKind}{fi:Bool}{i:Int}{a:S.D τ}(hx:cG s x=some (.ab f (.list τ) l)) (hy:cG s y=some (.ab fi (.int ki) i))
  (hu:P.underlying t=some (.slice e)) (hz:nY P e=some (S.sz τ)) (ha:idx l i=some a):
  PY P s.er ⟨dst,.indexAddr t x y,ty,pos,after,guard⟩ ((TV.ptr f τ a:TV S).er s.ln):=by
 obtain⟨h0,h1,h2⟩:=uP ha
 have e0:=bu hx
 rw[Du,←Oj ha]
 refine PY.rw (PY.index (g':=Eh f ((List.flatMap (aW S τ) l).drop (i.toNat*S.sz τ))) (n:=l.length) e0 (lC hy) ?_ h0 h1 hu (cU hz)) (RW.uF _ _ _)
 cases f <;> rfl
theorem RY {t:TypeId}{x:Operand}{lo hi:Option Operand}{A:Type}{k:TV S→Option A}{r:A}(h:Pp P s t x lo hi k=some r):
  ∃v,PY P s.er ⟨dst,.slice t x lo hi none,ty,pos,after,guard⟩ (v.er s.ln)∧k v=some r:=by
 unfold Pp at h
 cases h
theorem RZ {t:TypeId}{x lo hi mx:Operand}{A:Type}{k:TV S→Option A}{r:A}(h:Pq P s t x lo hi mx k=some r):
  ∃v,PY P s.er ⟨dst,.slice t x (some lo) (some hi) (some mx),ty,pos,after,guard⟩ (v.er s.ln)∧k v=some r:=by
 unfold Pq at h
 cases h
theorem CE {op:Op}{A:Type}{k:TV S→Option (bi S.α)→Option A}{r:A}(h:Hu P s op k=some r):
  ∃v x,PY P s.er ⟨dst,op,ty,pos,after,guard⟩ (v.er s.ln)∧OY s v x∧k v x=some r:=by
 unfold Hu at h
 split at h
 ·split at h
  ·rename_i hv
   exact⟨_,none,PY.move (bu hv),trivial,h⟩
  ·cases h
 ·split at h
  ·rename_i hv
   exact⟨_,none,PY.assign (bu hv),trivial,h⟩
  ·cases h
 ·split at h
  ·rename_i hc
   split at h
   ·split at h
    ·rename_i hv
     exact⟨_,none,PY.UN (ID hc) (bu hv),trivial,h⟩
    ·cases h
   ·split at h
    ·rename_i hv
     exact⟨_,none,PY.UO (ID hc) (bu hv),trivial,h⟩
    ·cases h
  ·cases h
 ·split at h
  ·rename_i hx
   split at h
   ·rename_i b hb
    obtain⟨e1,⟨e,hu⟩,e2⟩:=NA hb s.ln
    subst e1
    split at h
    ·exact⟨_,none,PY.ptrEq (bu hx) e2 hu,trivial,h⟩
    ·exact⟨_,none,PY.UL (bu hx) e2 hu,trivial,h⟩
    ·cases h
   split at h
   ·rename_i b hb
    obtain⟨e1,⟨ms,hu⟩,e2⟩:=Sx hb s.ln
    subst e1
    have hx':=e2 _ (bu hx)
    split at h
    ·refine⟨.ab true .bool (b==false),none,PY.NX (b:=b) false rfl hx' hu,trivial,?_⟩
     have:(b==false)=!b:=by cases b <;> rfl
     rw[this];exact h
    ·refine⟨.ab true .bool (b==true),none,PY.NX (b:=b) true rfl hx' hu,trivial,?_⟩
     have:(b==true)=b:=by cases b <;> rfl
     rw[this];exact h
    ·cases h
   split at h
   ·rename_i hy
    obtain⟨v,h1,h2⟩:=S2 (dst:=dst) (ty:=ty) (pos:=pos) (after:=after) (guard:=guard) hx hy h
    exact⟨v,none,h1,trivial,h2⟩
   ·cases h
  ·cases h
 ·split at h
  ·split at h
   ·rename_i hx
    exact⟨_,none,PY.un (ID hx) rfl,trivial,h⟩
   ·cases h
  ·split at h
   ·rename_i hx
    exact⟨_,none,PY.un (lC hx) rfl,trivial,h⟩
   ·cases h
  ·cases h
 ·split at h
  ·rename_i hu
   split at h
   ·rename_i hu'
    split at h
    ·rename_i hx
     exact⟨_,none,PY.conv (lC hx) hu hu',trivial,h⟩
    ·cases h
   ·rename_i hu'
    split at h
    ·rename_i hx
     exact⟨_,none,PY.U3 (Ds hx) hu hu',trivial,h⟩
    ·cases h
   ·cases h
  ·cases h
 ·split at h
  ·rename_i l hx
   split at h
   ·rename_i v hv
    refine⟨v,none,PY.extract (bu hx) ?_,trivial,h⟩
    rw[da,ar,hv];rfl
   ·cases h
  ·cases h
 ·split at h
  ·rename_i hx
   split at h
   ·rename_i hv
    exact⟨_,none,SC hx hv,trivial,h⟩
   ·cases h
  ·cases h
 ·split at h
  ·rename_i hx
   split at h
   ·rename_i hv
    exact⟨_,none,SD hx hv,trivial,h⟩
   ·cases h
  ·cases h
 ·split at h
  ·rename_i hu
   split at h
   ·rename_i hy
    split at h
    ·rename_i hx
     split at h
     ·rename_i hz _
      obtain⟨a,ha,h⟩:=bind_some h
      exact⟨_,none,Sy hx hy hu hz ha,trivial,h⟩
     ·cases h
    ·rename_i hh τ hx
     split at h
     ·rename_i hz _
      split at h
      ·rename_i e m f τ' l ho
       split at h
       ·rename_i e' _
        subst e'
        obtain⟨a,ha,h⟩:=bind_some h
        obtain⟨h0,h1,h2⟩:=uP ha
        refine⟨_,some ⟨τ',a⟩,?_,⟨hh,_,e,m,f,τ',l,a,rfl,ho,rfl,h2⟩,h⟩
        refine PY.index (n:=s.ln hh) (bu hx) (lC hy) ?_ h0 (by rw[oG ho];exact h1) hu (cU hz)
        show(if S.sz τ'=S.sz τ' then _ else _)=_
        rw[if_pos rfl,cr];rfl
       ·cases h
      ·rename_i e m f dk τ' a ho
       obtain⟨u,hc,h⟩:=bind_some h
       obtain⟨c1,c2⟩:=cS hc
       refine⟨_,none,?_,trivial,h⟩
       refine PY.index (n:=s.ln hh) (bu hx) (lC hy) ?_ c1 (by rw[JY ho];exact c2) hu (cU hz)
       show(if S.sz τ=S.sz τ then _ else _)=_
       rw[if_pos rfl,cr];rfl
      ·cases h
     ·cases h
    ·rename_i hh τ o n hx
     split at h
     ·rename_i hz _
      split at h
      ·rename_i e m f τ' l ho
       split at h
       ·rename_i e' _
        subst e'
        obtain⟨u,hc,h⟩:=bind_some h
        obtain⟨c1,c2⟩:=cS hc
        obtain⟨a,ha,h⟩:=bind_some h
        refine⟨_,some ⟨τ',a⟩,?_,⟨hh,_,e,m,f,τ',l,a,rfl,ho,rfl,ha⟩,h⟩
        refine PY.index (n:=n) (bu hx) (lC hy) ?_ c1 c2 hu (cU hz)
        show(if S.sz τ'=S.sz τ' then _ else _)=_
        rw[if_pos rfl]
        show _=some (G.loc hh ((o+_)*S.sz τ'+0),n)
        rw[eI,dJ]
       ·cases h
      ·obtain⟨u,hc,h⟩:=bind_some h
       obtain⟨c1,c2⟩:=cS hc
       refine⟨_,none,?_,trivial,h⟩
       refine PY.index (n:=n) (bu hx) (lC hy) ?_ c1 c2 hu (cU hz)
       show(if S.sz τ=S.sz τ then _ else _)=_
       rw[if_pos rfl]
       show _=some (G.loc hh ((o+_)*S.sz τ+0),n)
       rw[eI,dJ]
      ·cases h
     ·cases h
    ·rename_i hh τ j n hx
     split at h
     ·rename_i hz _
      obtain⟨u,hc,h⟩:=bind_some h
      obtain⟨c1,c2⟩:=cS hc
      refine⟨_,none,?_,trivial,h⟩
      refine PY.index (n:=n) (bu hx) (lC hy) ?_ c1 c2 hu (cU hz)
      show(if S.sz τ=S.sz τ then _ else _)=_
      rw[if_pos rfl,cr];rfl
     ·cases h
    ·cases h
   ·cases h
  ·rename_i n e hu
   split at h
   ·rename_i hy
    split at h
    ·rename_i hh off hx
     split at h
     ·rename_i ki hki
      split at h
      ·rename_i hz _
       obtain⟨u,hc,h⟩:=bind_some h
       obtain⟨c1,c2⟩:=cS hc
       refine⟨_,none,?_,trivial,h⟩
       have:=PY.P7 (P:=P) (dst:=dst) (ty:=ty) (pos:=pos) (after:=after) (guard:=guard) (bu hx) (lC hy) c1 c2 hu (cU hz)
       simpa[TV.er,dx.sz] using this
      ·cases h
     ·cases h
    ·cases h
   ·cases h
  ·cases h
 ·split at h
  ·rename_i hu
   split at h
   ·rename_i hx
    split at h
    ·rename_i hy
     obtain⟨c,hc,h⟩:=bind_some h
     obtain⟨h0,h1⟩:=OJ hc
     exact⟨_,none,PY.Pg (Ds hx) (lC hy) h0 h1 hu,trivial,h⟩
    ·cases h
   ·cases h
  ·cases h
 ·split at h
  ·obtain⟨v,h1,h2⟩:=RY (dst:=dst) (ty:=ty) (pos:=pos) (after:=after) (guard:=guard) h
   exact⟨v,none,h1,trivial,h2⟩
  ·split at h
   ·rename_i hx
    split at h
    ·rename_i hl
     split at h
     ·rename_i hh
      obtain⟨v,h1,h2⟩:=RX (dst:=dst) (ty:=ty) (pos:=pos) (after:=after) (guard:=guard) hx hl hh h
      exact⟨v,none,h1,trivial,h2⟩
     ·cases h
    ·cases h
   ·cases h
 ·obtain⟨v,h1,h2⟩:=RZ (dst:=dst) (ty:=ty) (pos:=pos) (after:=after) (guard:=guard) h
  exact⟨v,none,h1,trivial,h2⟩
 ·split at h
  ·rename_i hf
   have:=D6 hf
   subst this
   split at h
   ·rename_i vs hv
    split at h
    ·rename_i hb
     exact⟨_,none,PY.makeFunc hb (lK hv).1,trivial,h⟩
    ·cases h
   ·cases h
  ·rename_i x hf
   have:=D5 hf
   subst this
   split at h
   ·rename_i hc
    have:=D6 hc
    subst this
    split at h
    ·rename_i v hv
     split at h
     ·rename_i hb
      exact⟨_,none,PY.NJ hb (bu hv),trivial,h⟩
     ·cases h
    ·cases h
   ·cases h
  ·cases h
 ·split at h
  ·rename_i v hx
   split at h
   ·exact⟨_,none,PY.nilCheck (bu hx) rfl,trivial,h⟩
   ·exact⟨_,none,PY.nilCheck (bu hx) rfl,trivial,h⟩
   ·rename_i f τ a
    exact⟨_,none,PY.nilCheck (bu hx) (by cases f <;> rfl),trivial,h⟩
   ·exact⟨_,none,PY.nilCheck (bu hx) rfl,trivial,h⟩
   ·exact⟨_,none,PY.Ff (bu hx),trivial,h⟩
   ·rename_i b hh τ i j
    obtain⟨u,hc,h⟩:=bind_some h
    obtain rfl:=cS hc
    exact⟨_,none,PY.Ff (bu hx),trivial,h⟩
   ·cases h
  ·cases h
 ·rename_i c
  obtain⟨cal,args,ats⟩:=c
  dsimp only at h
  split at h
  ·split at h
   ·rename_i h1 h2
    have h1:=D5 h1
    have h2:=D5 h2
    subst h1;subst h2
    split at h
    ·rename_i hu
     split at h
     ·rename_i hx
      split at h
      ·rename_i hn
       exact⟨_,none,PY.len (bu hx) (Eu hn) hu,trivial,h⟩
      ·cases h
     ·cases h
    ·rename_i hu
     split at h
     ·rename_i hx
      exact⟨_,none,PY.VG (Ds hx) hu,trivial,h⟩
     ·cases h
    ·cases h
   ·cases h
  ·split at h
   ·rename_i h1
    have h1:=Ag h1
    subst h1
    split at h
    ·rename_i hx hy
     exact⟨_,none,PY.min2 (lC hx) (lC hy),trivial,h⟩
    ·cases h
   ·cases h
  ·split at h
   ·rename_i h1
    have h1:=Ag h1
    subst h1
    split at h
    ·rename_i hx hy
     exact⟨_,none,PY.max2 (lC hx) (lC hy),trivial,h⟩
    ·cases h
   ·cases h
  ·cases h
 ·split at h
  ·rename_i hu
   split at h
   ·rename_i z hz
    split at h
    ·rename_i places hp
     split at h
     ·rename_i vs hv
      split at h
      ·rename_i out ho
       refine⟨.agg out,none,PY.build (z:=z) hu ?_ hp (Jx hv) ?_,trivial,h⟩
       ·cases hq:P.info? _ with
        | none=>rw[hq] at hz;cases hz
        | some iq=>rw[hq] at hz;exact congrArg some hz
       ·have:=G6 s.ln places ho
        rw[da] at this
        rw[←this]
        congr 1
        rw[iM]
        exact fH fun v _=>(GZ _ v).symm
      ·cases h
     ·cases h
    ·cases h
   ·cases h
  ·cases h
 ·cases h
end
end
end Go.DN
/-
 DN,part F:loads.
-/
namespace Go.DN
open Go.AM
section
variable {S:dx}
def Lx (x:Operand) (h:Nat):List (Nat×Nat×bi S.α)→Option (bi S.α)
 | []=>none
 | (d,h',y)::r=>match x with
  | .tmp t=>bif Nat.beq d t&&Nat.beq h' h then some y else Lx x h r
  | _=>none
theorem HW {x:Operand}{h:Nat}{y:bi S.α}:∀{l:List (Nat×Nat×bi S.α)},Lx x h l=some y→∃t,x=.tmp t∧(t,h,y)∈l
 | [],e=>by cases e
 | (d,h',y')::r,e=>by
  simp only[Lx] at e
  split at e
  ·rename_i t
   cases hb:(Nat.beq d t&&Nat.beq h' h) with
   | true=>
    rw[hb] at e
    cases e
    simp only[ag] at hb
    obtain⟨h1,h2⟩:=hb
    have h1:=af h1
    have h2:=af h2
    subst h1;subst h2
    exact⟨_,rfl,au⟩
   | false=>
    rw[hb] at e
    obtain⟨t',h1,h2⟩:=HW e
    exact⟨t',h1,ap _ h2⟩
  ·cases e
def Dy (s:aj S) (x:Operand) (h:Nat){τ:Ty}(l:List (S.D τ)) (i:Nat){A:Type}(k:bi S.α→Option A):Option A:=
 match Lx x h s.last with
 | some y=>k y
 | none=>(l[i]?).bind fun a=>k ⟨τ,a⟩
def EC {A:Type}:(τ:Ty)→S.D τ→Ty→Nat→(Ty→Nat→Option A)→Option A
 | .list (.list t),ll,τ,i,k=>match decEq τ (.list t) with
  | isTrue _=>(ll[i]?).bind fun r=>k t (List.length r)
  | isFalse _=>none
 | _,_,_,_,_=>none
theorem L9 {A:Type}{r0:A}:∀{τ':Ty}{a:S.D τ'}{τ:Ty}{i:Nat}{k:Ty→Nat→Option A},EC τ' a τ i k=some r0→
  ∃t n gs,τ=.list t∧(kG τ' a).1=S.sz t∧(kG τ' a).2[i]?=some (n,gs)∧k t n=some r0
 | .list (.list t),ll,τ,i,k,h=>by
  simp only[EC] at h
  split at h
  ·rename_i e _
   obtain⟨r,h1,h2⟩:=bind_some h
   exact⟨t,List.length r,_,e,rfl,by show(List.map _ ll)[i]?=_;rw[ar,h1];rfl,h2⟩
  ·cases h
 | .list (.int _),_,_,_,_,h=>by cases h
 | .list .bool,_,_,_,_,h=>by cases h
 | .list .cH,_,_,_,_,h=>by cases h
 | .list .str,_,_,_,_,h=>by cases h
 | .list (.st _),_,_,_,_,h=>by cases h
 | .int _,_,_,_,_,h=>by cases h
 | .bool,_,_,_,_,h=>by cases h
 | .cH,_,_,_,_,h=>by cases h
 | .str,_,_,_,_,h=>by cases h
 | .st _,_,_,_,_,h=>by cases h
 | .map,_,_,_,_,h=>by cases h
 | .list .map,_,_,_,_,h=>by cases h
def BU {A:Type}:(τ:Ty)→S.D τ→Ty→Nat→Nat→(TV S→Option A)→Option A
 | .list (.list t),ll,τ,i,j,k=>match t.iS with
  | true=>match decEq τ t with
   | isTrue _=>(ll[i]?).bind fun r=>(r[j]?).bind fun x=>k (.ab true t x)
   | isFalse _=>none
  | false=>none
 | _,_,_,_,_,_=>none
theorem Jn {A:Type}{r0:A}:∀{τ':Ty}{a:S.D τ'}{τ:Ty}{i j:Nat}{k:TV S→Option A},BU τ' a τ i j k=some r0→
  ∃(t:Ty) (x:S.D t) (n:Nat) (gs:List G),τ=t∧t.iS=true∧(kG τ' a).2[i]?=some (n,gs)∧gs[j*S.sz t]?=some (du S t x)∧k (.ab true t x)=some r0
 | .list (.list t),ll,τ,i,j,k,h=>by
  simp only[BU] at h
  split at h
  ·rename_i hs
   split at h
   ·rename_i e _
    obtain⟨r,h1,h⟩:=bind_some h
    obtain⟨x,h2,h⟩:=bind_some h
    have hst:t.fU=false:=by cases t <;> first | rfl | cases hs
    refine⟨t,x,List.length r,List.flatMap (aW S t) r,e,hs,by show(List.map _ ll)[i]?=_;rw[ar,h1];rfl,?_,h⟩
    have:=@sC _ (mP S t) r j x h2 0 (G9 S t)
    exact this.trans (by show(aW S t x)[0]?=_;rw[kN S hst];rfl)
   ·cases h
  ·cases h
 | .list (.int _),_,_,_,_,_,h=>by cases h
 | .list .bool,_,_,_,_,_,h=>by cases h
 | .list .cH,_,_,_,_,_,h=>by cases h
 | .list .str,_,_,_,_,_,h=>by cases h
 | .list (.st _),_,_,_,_,_,h=>by cases h
 | .int _,_,_,_,_,_,h=>by cases h
 | .bool,_,_,_,_,_,h=>by cases h
 | .cH,_,_,_,_,_,h=>by cases h
 | .str,_,_,_,_,_,h=>by cases h
 | .st _,_,_,_,_,_,h=>by cases h
 | .map,_,_,_,_,_,h=>by cases h
 | .list .map,_,_,_,_,_,h=>by cases h
def k5 (ki:IntKind):List (TV S)→List Int
 | .ab _ (.int k) a::r=>match decEq k ki with
  | isTrue _=>a::k5 ki r
  | isFalse _=>[]
 | _=>[]
theorem vK {ki:IntKind}:∀{cs:List (TV S)}{i:Nat}{a:Int},(k5 ki cs)[i]?=some a→∃f,cs[i]?=some (.ab f (.int ki) a)
 | [],i,a,h=>by simp[k5] at h
 | v::r,i,a,h=>by
  unfold k5 at h
  split at h
  ·rename_i f k b r' e
   cases e
   split at h
   ·rename_i e _
    subst e
    cases i with
    | zero=>cases h;exact⟨f,rfl⟩
    | succ i=>exact vK (cs:=r) (i:=i) (by simpa using h)
   ·simp at h
  ·simp at h
def C8 (q:IntKind) (h0:Nat):List (TV S)→List (Nat×Nat)
 | .ks h τ z n::r=>match decEq τ (.int q) with
  | isTrue _=>match decEq h h0 with
   | isTrue _=>(z,n)::C8 q h0 r
   | isFalse _=>[]
  | isFalse _=>[]
 | _=>[]
theorem J2 {q:IntKind}{h0:Nat}:∀{cs:List (TV S)}{i:Nat}{a:Nat×Nat},(C8 q h0 cs)[i]?=some a→cs[i]?=some (.ks h0 (.int q) a.1 a.2)
 | [],i,a,h=>by simp[C8] at h
 | v::r,i,a,h=>by
  unfold C8 at h
  split at h
  ·rename_i h1 τ z n r' e
   cases e
   split at h
   ·rename_i e _
    subst e
    split at h
    ·rename_i e _
     subst e
     cases i with
     | zero=>cases h;rfl
     | succ i=>exact J2 (cs:=r) (i:=i) (by simpa using h)
    ·simp at h
   ·simp at h
  ·simp at h
def V2:List (TV S)→Option Nat
 | .ks h _ _ _::_=>some h
 | _=>none
def Ar (i:Nat):List (Nat×List Int)→Option (List Int)
 | []=>none
 | (x,l)::r=>match l with
  | []=>Ar i r
  | a::l'=>bif Nat.beq x i then some (a::l') else Ar i r
def Lo (i:Nat):List lu→Option (List Int)
 | []=>none
 | e::r=>match Ar i e.f with
  | some l=>some l
  | none=>Lo i r
def UT (es:List lu) (z j:Nat):Option Int:=(Lo z es).bind fun l=>l[j]?
theorem Ee (q:IntKind) (i:Nat):∀f:List (Nat×List Int),zi i (f.map fun p=>(p.1,oK q p.2))=(Ar i f).map (oK q)
 | []=>rfl
 | (x,l)::r=>by
  cases l with
  | nil=>exact Ee q i r
  | cons a l'=>
   show(bif Nat.beq x i then some (oK q (a::l')) else zi i (r.map _))=(bif Nat.beq x i then some (a::l') else Ar i r).map (oK q)
   cases Nat.beq x i with
   | true=>rfl
   | false=>exact Ee q i r
theorem JJ (q:IntKind) (i:Nat):∀es:List lu,Bn i (es.map (lu.me q))=(Lo i es).map (oK q)
 | []=>rfl
 | e::r=>by
  simp only[aB,Bn,Lo]
  rw[show(lu.me q e).f=e.f.map fun p=>(p.1,oK q p.2) from rfl,Ee]
  cases Ar i e.f with
  | some l=>rfl
  | none=>exact JJ q i r
def Ln:List lu→Nat→Option lu
 | [],_=>none
 | e::r,t=>bif Nat.beq e.t t then some e else Ln r t
def TS (es:List lu) (t j:Nat):Option (Nat×List Int):=(Ln es t).bind fun e=>e.f[j]?
theorem MP (q:IntKind) (t:Nat):∀es:List lu,Jv (es.map (lu.me q)) t=(Ln es t).map (lu.me q)
 | []=>rfl
 | e::r=>by
  simp only[aB,Jv,List.find?_cons,Ln]
  cases h:Nat.beq e.t t with
  | true=>simp[lu.me,h]
  | false=>
   have:=MP q t r
   simp only[Jv] at this
   simp[lu.me,h] at this⊢
   exact this
theorem Sk {es:List lu}{t j z:Nat}{l:List Int}(h:TS es t j=some (z,l)) (q:IntKind):∃e,Jv (es.map (lu.me q)) t=some e∧e.f[j]?=some (z,oK q l):=by
 obtain⟨e,h1,h2⟩:=bind_some h
 refine⟨lu.me q e,by rw[MP,h1];rfl,?_⟩
 show(e.f.map fun p=>(p.1,oK q p.2))[j]?=_
 rw[ar,h2];rfl
theorem P6 (q:IntKind) (l:List Int):(oK q l).length=l.length:=by unfold oK;simp
def Lw {A:Type}(P:Program) (W:List Nat) (s:aj S) (t:TypeId) (x y:Operand) (k:TV S→Option A):Option A:=
 none
def Js (P:Program) (W:List Nat) (s:aj S) (op:Op){A:Type}(k:TV S→Option A):Option A:=
 match op with
 | .convert t t' x=>match cG s x with
  | some (.aK h (.int .u8))=>match W.contains h with
   | true=>none
   | false=>match aF s.bj h with
    | some (.arr _ _ _ (.int .u8) l)=>match P.underlying t with
     | some (.slice e)=>match P.underlying e with
      | some (.int .u8)=>match P.underlying t' with
       | some .string=>k (.ab true .str (strOf l))
       | _=>none
      | _=>none
     | _=>none
    | _=>none
  | _=>none
 | .load t x=>match EU P t with
  | some false=>match cG s x with
   | some (.ptr f τ a)=>match τ.fU with
    | false=>k (.ab f τ a)
    | true=>none
   | some (.loc h off)=>match W.contains h with
    | true=>none
    | false=>match aF s.bj h with
     | some (.box _ _ cs)=>match cs[off]? with
      | some v=>k v
      | none=>none
     | _=>none
   | some (.gY h τ i j)=>match W.contains h with
    | true=>none
    | false=>match aF s.bj h with
     | some (.arr _ _ f τ' l)=>match decEq τ' τ with
      | isTrue _=>Dy s x h l i fun y=>match y with
       | ⟨.st n,a⟩=>match (S.cells n a)[j]? with
        | some z=>k (.ab f z.τ z.a)
        | none=>none
       | y=>match j with
        | 0=>k (.ab f y.τ y.a)
        | _=>none
      | isFalse _=>none
     | some (.deep _ _ _ (.uR _) τ' a)=>match j with
      | 0=>EC τ' a τ i fun t n=>k (.ks h t i n)
      | _=>none
     | some (.box _ _ cs)=>match τ with
      | .int ki=>(dA (i<(k5 ki (cs.drop j)).length)).bind fun _=>k (.ab true (.int ki) ((k5 ki (cs.drop j)).getD i 0))
      | .list (.int q)=>match V2 (cs.drop j) with
       | some h1=>(dA (i<(C8 q h1 (cs.drop j)).length)).bind fun _=>k (.ks h1 (.int q) ((C8 q h1 (cs.drop j)).getD i (0,0)).1 ((C8 q h1 (cs.drop j)).getD i (0,0)).2)
       | none=>none
      | _=>none
     | _=>none
   | some (.kp h τ i j)=>match W.contains h with
    | true=>none
    | false=>match aF s.bj h with
     | some (.deep _ _ _ (.uR _) τ' a)=>BU τ' a τ i j k
     | some (.deep _ _ _ (.map q _ _) .map d)=>match τ with
      | .list _=>(TS d.es i j).bind fun p=>k (.ks h (.int q) p.1 (List.length p.2))
      | .int q'=>match decEq q' q with
       | isTrue _=>(UT d.es i j).bind fun x=>k (.ab true (.int q) x)
       | isFalse _=>none
      | _=>none
     | _=>none
   | _=>none
  | some true=>match nY P t with
   | some z=>match cG s x with
    | some (.ptr f (.st n) a)=>match Nat.beq z (S.cn n).length with
     | true=>k (.ab f (.st n) a)
     | false=>none
    | some (.loc h off)=>match W.contains h with
     | true=>none
     | false=>match aF s.bj h with
      | some (.box _ _ cs)=>match Nat.ble (off+z) cs.length with
       | true=>k (.agg ((cs.drop off).take z))
       | false=>none
      | _=>none
    | some (.gY h τ i j)=>match W.contains h with
     | true=>none
     | false=>match aF s.bj h with
      | some (.arr _ _ f τ' l)=>match decEq τ' τ with
       | isTrue _=>match j with
        | 0=>match Nat.beq z (S.sz τ) with
         | true=>match τ with
          | .st _=>Dy s x h l i fun y=>k (.ab f y.τ y.a)
          | _=>none
         | false=>none
        | j+1=>none
       | isFalse _=>none
      | _=>none
    | _=>none
   | none=>none
  | none=>none
 | .lookup t x y true=>Lw P W s t x y k
 | _=>none
section
variable {P:Program}{W:List Nat}{s:aj S}{dst:Option Tmp}{ty:TypeId}{pos:String}{after:Array Edge}{guard:Option (Nat×Bool)}
theorem B1 {x:Operand}{h i:Nat}{bw:TypeId}{m f:Bool}{τ:Ty}{l:List (S.D τ)}{A:Type}{k:bi S.α→Option A}{r:A}(hl:aO s) (hx:∃j,cG s x=some (.gY h τ i j)) (ho:aF s.bj h=some (.arr bw m f τ l))
  (hk:Dy s x h l i k=some r):∃a,l[i]?=some a∧k ⟨τ,a⟩=some r:=by
 unfold Dy at hk
 split at hk
 ·rename_i y hla
  obtain⟨t,e0,hm⟩:=HW hla
  subst e0
  obtain⟨i',ety',m',f',τ',l',a,e1,e2,e3,e4⟩:=hl t h y hm
  rw[ho] at e2
  cases e2
  obtain⟨j,hx⟩:=hx
  simp only[cG] at hx
  rw[e1] at hx
  cases hx
  subst e3
  exact⟨a,e4,hk⟩
 ·exact bind_some hk
theorem dX {h:Nat}{o:TO S}(ho:aF s.bj h=some o):az s.er.st h=some (o.er s.ln):=kL ho
theorem JN (bw:TypeId) (m f:Bool) (τ:Ty) (l:List (S.D τ)) (ln:Nat→Nat){g:G}(hg:g.one=true) (hf:∀g',g≠.fr g'):((TO.arr bw m f τ l:TO S).er ln).out g=dc f g:=by
 cases g <;> first | rfl | (cases f <;> rfl)
theorem FI (τ:Ty) (a:S.D τ):∀g∈aW S τ a,∀g',g≠.fr g':=by
 intro g hg g' e
 subst e
 cases τ with
 | st n=>
  rw[gJ] at hg
  obtain⟨x,hx,e⟩:=jP.1 hg
  have h2:=la n a _ hx
  obtain⟨τx,ax⟩:=x
  cases τx with
  | st _=>cases h2
  | _=>cases e
 | _=>simp[aW,BX] at hg
theorem PO {t:TypeId}{x y:Operand}{A:Type}{k:TV S→Option A}{r:A}(h:Lw P W s t x y k=some r):
  ∃v,eQ P W s.er ⟨dst,.lookup t x y true,ty,pos,after,guard⟩ (v.er s.ln)∧k v=some r:=by
 unfold Lw at h
 cases h
theorem Ck {op:Op}{A:Type}{k:TV S→Option A}{r:A}(hl:aO s) (h:Js P W s op k=some r):
  ∃v,eQ P W s.er ⟨dst,op,ty,pos,after,guard⟩ (v.er s.ln)∧k v=some r:=by
 unfold Js at h
 split at h
 ·rename_i t t' x
  split at h
  ·rename_i hh hx
   split at h
   ·cases h
   ·rename_i hW
    split at h
    ·rename_i e m f l ho
     split at h
     ·rename_i e0 hu
      split at h
      ·rename_i he
       split at h
       ·rename_i hu'
        refine⟨_,?_,h⟩
        have hx':ev s.er x=some (.aK hh 1 0 (List.length l)):=by rw[bu hx];show some (G.aK _ _ _ (s.ln hh))=_;rw[oG ho];rfl
        refine YL.QG hx' (dX ho) rfl ?_ rfl hu he hu' hW
        show List.flatMap (aW S (.int .u8)) l=_
        clear hx'
        generalize (show List Int from l)=l'
        induction l' with
        | nil=>rfl
        | cons x r ih=>rw[cj,ih];rfl
       ·cases h
      ·cases h
     ·cases h
    ·cases h
  ·cases h
 ·rename_i t x
  split at h
  ·rename_i ha
   split at h
   ·rename_i f τ a hx
    split at h
    ·rename_i hs
     refine⟨_,?_,h⟩
     rw[pf hs]
     have e0:=bu hx
     rw[Du] at e0
     have e1:(aW S τ a)[0]?=some (du S τ a):=by rw[kN S hs];rfl
     cases f with
     | true=>exact YL.VC e0 e1 (ff ha) rfl
     | false=>exact YL.ptr e0 e1 (ff ha)
    ·cases h
   ·rename_i hh off hx
    split at h
    ·cases h
    ·rename_i hW
     split at h
     ·rename_i e m cs ho
      split at h
      ·rename_i v hv
       refine⟨v,?_,h⟩
       refine YL.Ax (bu hx) (dX ho) ?_ (ff ha) hW rfl
       show(TV.er.go s.ln cs)[off]?=_
       rw[da,ar,hv];rfl
      ·cases h
     ·cases h
   ·rename_i hh τ i j hx
    split at h
    ·cases h
    ·rename_i hW
     split at h
     ·rename_i e m f τ' l ho
      split at h
      ·rename_i e1 _
       subst e1
       obtain⟨a,ha',h2⟩:=B1 hl ⟨j,hx⟩ ho h
       replace h:=h2
       clear h2
       have key:∀(g:G),(aW S τ' a)[j]?=some g→eQ P W s.er ⟨dst,.load t x,ty,pos,after,guard⟩ (dc f g):=by
        intro g hg
        have hm:=aL hg
        refine YL.load (k:=(TO.arr e m f τ' l:TO S).er s.ln) (g:=g) (bu hx) (dX ho) ?_ (ff ha) hW (JN e m f τ' l _ (zL S τ' a g hm) (FI τ' a g hm))
        have hj:j<S.sz τ':=by have:=(aw.1 hg).1;rw[sD] at this;exact this
        have:=@sC _ (mP S τ') l i a ha' j hj
        show(List.flatMap (aW S τ') l)[i*S.sz τ'+j]?=_
        exact this.trans hg
       split at h
       ·rename_i n a' he
        cases he
        split at h
        ·rename_i z hz
         refine⟨_,?_,h⟩
         rw[pf (la n _ z (aL hz))]
         exact key _ (by rw[gJ,ar,hz];rfl)
        ·cases h
       ·rename_i hns
        split at h
        ·refine⟨_,?_,h⟩
         have hs:τ'.fU=false:=by
          cases τ' with
          | st n=>exact absurd rfl (hns n a)
          | _=>rfl
         rw[pf hs]
         exact key _ (by rw[kN S hs];rfl)
        ·cases h
      ·cases h
     ·rename_i e m f kty τ' a ho
      split at h
      ·obtain⟨t',n,gs,e1,e2,e3,h2⟩:=L9 h
       subst e1
       refine⟨_,?_,h2⟩
       have:=YL.Uf (P:=P) (W:=W) (dst:=dst) (ty:=ty) (pos:=pos) (after:=after) (guard:=guard) (t:=t) (x:=x) (h:=hh) (i:=i) (by rw[bu hx];simp[TV.er,dx.sz]) (dX ho) rfl e3 (ff ha) hW
       rw[e2] at this
       exact this
      ·cases h
     ·rename_i e m cs ho
      split at h
      ·rename_i ki
       obtain⟨_,hc,h⟩:=bind_some h
       have hc:=cS hc
       refine⟨_,?_,h⟩
       obtain⟨f,hv⟩:=vK (av hc)
       rw[a8] at hv
       have:=YL.Ax (P:=P) (W:=W) (dst:=dst) (ty:=ty) (pos:=pos) (after:=after) (guard:=guard) (t:=t) (g:=.val (.int ki (k5 ki (cs.drop j))[i])) (bu hx) (dX ho) (by
        show(TV.er.go s.ln cs)[i*1+j]?=_
        rw[da,ar,show i*1+j=j+i by omega,hv]
        exact congrArg some (uX f ki _)) (ff ha) hW rfl
       rw[dZ,av hc]
       exact this
      ·rename_i q
       split at h
       ·rename_i h1 _
        obtain⟨_,hc,h⟩:=bind_some h
        have hc:=cS hc
        refine⟨_,?_,h⟩
        have hv:=J2 (av hc)
        rw[a8] at hv
        have:=YL.Ax (P:=P) (W:=W) (dst:=dst) (ty:=ty) (pos:=pos) (after:=after) (guard:=guard) (t:=t) (g:=.ks h1 (C8 q h1 (cs.drop j))[i].1 1 (C8 q h1 (cs.drop j))[i].2) (bu hx) (dX ho) (by
         show(TV.er.go s.ln cs)[i*1+j]?=_
         rw[da,ar,show i*1+j=j+i by omega,hv]
         rfl) (ff ha) hW rfl
        rw[dZ,av hc]
        exact this
       ·cases h
      ·cases h
     ·cases h
   ·rename_i hh τ i j hx
    split at h
    ·cases h
    ·rename_i hW
     split at h
     ·rename_i e m f kty τ' a ho
      obtain⟨t',x',n,gs,e1,e2,e3,e4,h2⟩:=Jn h
      subst e1
      refine⟨_,?_,h2⟩
      have:=YL.ED (P:=P) (W:=W) (dst:=dst) (ty:=ty) (pos:=pos) (after:=after) (guard:=guard) (t:=t) (x:=x) (bu hx) (dX ho) rfl e3 e4 (ff ha) hW
      have e5:∀b,N8 b (du S τ x')=(TV.ab true τ x':TV S).er s.ln:=by
       intro b
       cases τ with
       | list _=>cases e2
       | st _=>cases e2
       | cH=>cases e2
       | _=>rfl
      rw[e5] at this
      exact this
     ·rename_i e m f q kty tty d ho
      split at h
      ·rename_i τ
       obtain⟨⟨z,l⟩,h1,h⟩:=bind_some h
       refine⟨_,?_,h⟩
       obtain⟨e',h2,h3⟩:=Sk h1 q
       have:=YL.TT (P:=P) (W:=W) (dst:=dst) (ty:=ty) (pos:=pos) (after:=after) (guard:=guard) (t:=t) (x:=x) (h:=hh) (tt:=i) (off:=j) (q:=q) (kty:=kty) (tty:=tty) (n:=d.n) (pd:=Ns q d.pd) (by rw[bu hx];simp[TV.er,dx.sz]) (dX ho) rfl h2 h3 (ff ha) hW
       rw[P6] at this
       exact this
      ·rename_i q'
       split at h
       ·rename_i e' _
        subst e'
        obtain⟨x',hc,h⟩:=bind_some h
        obtain⟨l,h1,h2⟩:=bind_some hc
        refine⟨_,?_,h⟩
        have:=YL.Sl (P:=P) (W:=W) (dst:=dst) (ty:=ty) (pos:=pos) (after:=after) (guard:=guard) (t:=t) (x:=x) (h:=hh) (z:=i) (off:=j) (q:=q') (kty:=kty) (tty:=tty) (n:=d.n) (pd:=Ns q' d.pd) (es:=d.es.map (lu.me q')) (gs:=oK q' l) (u:=.int q' x')
         (by rw[bu hx];simp[TV.er,dx.sz]) (dX ho) rfl (by rw[JJ,h1];rfl) (by unfold oK;rw[ar,h2];rfl) (ff ha) hW
        rw[pf rfl]
        exact this
       ·cases h
      ·cases h
     ·cases h
   ·cases h
  ·rename_i ha
   split at h
   ·rename_i z hz
    split at h
    ·rename_i f n a hx
     split at h
     ·rename_i hc
      have hc:=af hc
      refine⟨_,?_,h⟩
      have e0:=bu hx
      rw[Du] at e0
      have hlen:(aW S (.st n) a).length=z:=by rw[sD,hc];rfl
      show eQ P W s.er _ (.agg ((aW S (.st n) a).map (dc f)))
      cases f with
      | true=>
       have:=YL.R6 (P:=P) (W:=W) (dst:=dst) (ty:=ty) (pos:=pos) (after:=after) (guard:=guard) (sz:=z) e0 (by omega) (ff ha) (cU hz)
       rw[di (by omega)] at this
       exact this
      | false=>
       have:=YL.Nn (P:=P) (W:=W) (dst:=dst) (ty:=ty) (pos:=pos) (after:=after) (guard:=guard) (sz:=z) e0 (by omega) (ff ha) (cU hz)
       rw[di (by omega)] at this
       have e2:(aW S (.st n) a).map (dc false)=aW S (.st n) a:=by
        have:(dc false)=(id:G→G):=rfl
        rw[this,List.map_id]
       rw[e2]
       exact this
     ·cases h
    ·rename_i hh off hx
     split at h
     ·cases h
     ·rename_i hW
      split at h
      ·rename_i e m cs ho
       split at h
       ·rename_i hc
        refine⟨_,?_,h⟩
        have:=YL.Et (P:=P) (W:=W) (dst:=dst) (ty:=ty) (pos:=pos) (after:=after) (guard:=guard) (sz:=z) (bu hx) (dX ho) rfl (ff ha) (cU hz)
         (by show off+z≤(TV.er.go s.ln cs).length;rw[da,aN];exact eH hc) hW
        show eQ P W s.er _ (.agg (TV.er.go s.ln ((cs.drop off).take z)))
        rw[da,List.map_take,List.map_drop,←da]
        exact this
       ·cases h
      ·cases h
    ·rename_i hh τ i j hx
     split at h
     ·cases h
     ·rename_i hW
      split at h
      ·rename_i e m f τ' l ho
       split at h
       ·rename_i e1 _
        subst e1
        split at h
        ·split at h
         ·rename_i hc
          have hc:=af hc
          split at h
          ·rename_i n _ _ _ _ _
           obtain⟨a,ha',h⟩:=B1 hl ⟨_,hx⟩ ho h
           refine⟨_,?_,h⟩
           have hil:=(aw.1 ha').1
           have:=YL.PP (P:=P) (W:=W) (dst:=dst) (ty:=ty) (pos:=pos) (after:=after) (guard:=guard) (sz:=z) (bu hx) (dX ho) (ff ha) (cU hz)
            (by
             show i*S.sz _+0+z≤(List.flatMap (aW S _) l).length
             have:=@gv _ (mP S (.st n)) l
             rw[show(List.flatMap (aW S (.st n)) l).length=_ from this,hc]
             show i*S.sz _+0+S.sz _≤l.length*S.sz _
             have:(i+1)*S.sz (.st n)≤l.length*S.sz (.st n):=ca _ hil
             rw[eI,Nat.one_mul] at this
             omega) hW
           show eQ P W s.er _ (.agg ((aW S (.st n) a).map (dc f)))
           have e3:((List.flatMap (aW S (.st n)) l).drop (i*S.sz (.st n)+0)).take z=aW S (.st n) a:=by
            rw[hc,dJ]
            exact @BW _ (mP S (.st n)) l (i:Int) a (by unfold idx;rw[if_pos (by omega)];simpa using ha')
           have e4:((List.drop (i*S.sz (.st n)+0) (List.flatMap (aW S (.st n)) l)).take z).map (((TO.arr e m f (.st n) l:TO S).er s.ln).out)=(aW S (.st n) a).map (dc f):=by
            rw[e3]
            exact fH fun g hg=>JN e m f (.st n) l _ (zL S _ a g hg) (FI _ a g hg)
           rw[←e4]
           exact this
          ·cases h
         ·cases h
        ·cases h
       ·cases h
      ·cases h
    ·cases h
   ·cases h
  ·cases h
 ·exact PO h
 ·cases h
end
end
end Go.DN
/-
 DN,part G:which handles are named;new ones;objects that change.
-/
namespace Go.DN
open Go.AM
section
variable {S:dx}
def TV.has (k:Nat):TV S→Bool
 | .loc h _=>Nat.beq h k
 | .gY h _ _ _=>Nat.beq h k
 | .aK h _=>Nat.beq h k
 | .sub h _ _ _=>Nat.beq h k
 | .agg l=>go k l
 | .aU l=>go k l
 | .aP _ l=>go k l
 | .cA h=>Nat.beq h k
 | .mp h=>Nat.beq h k
 | .ks h _ _ _=>Nat.beq h k
 | .kp h _ _ _=>Nat.beq h k
 | .fX b h _ _ _=>Nat.beq h k&&!b
 | .bT b h _=>Nat.beq h k&&!b
 | _=>false
where go (k:Nat):List (TV S)→Bool
 | []=>false
 | x::r=>x.has k||go k r
theorem Qx (k:Nat) (f:Bool) (τ:Ty) (a:S.D τ) (h:τ.fU=false):(dc f (du S τ a)).bO k=false:=by
 cases τ with
 | st n=>cases h
 | _=>cases f <;> rfl
theorem IK (k:Nat) (f:Bool) (τ:Ty) (a:S.D τ):(nZ f τ a).bO k=false:=by
 cases τ with
 | st n=>
  show G.bO.go k ((aW S (.st n) a).map (dc f))=false
  rw[gJ]
  have:=la n a
  generalize S.cells n a=l at this
  induction l with
  | nil=>rfl
  | cons x r ih=>
   simp only[aB,G.bO.go,Qx k f x.τ x.a (this x au),mi]
   exact ih fun y hy=>this y (ap _ hy)
 | _=>cases f <;> rfl
mutual
theorem wX (ln:Nat→Nat) (k:Nat):∀v:TV S,(v.er ln).bO k=v.has k
 | .ab f τ a=>IK k f τ a
 | .ptr f τ a=>by cases f <;> rfl
 | .agg l=>wW ln k l
 | .aU l=>wW ln k l
 | .aP _ l=>wW ln k l
 | .loc _ _=>rfl
 | .gY _ _ _ _=>rfl
 | .aK _ _=>rfl
 | .sub _ _ _ _=>rfl
 | .cA _=>rfl
 | .mp _=>rfl
 | .ks _ _ _ _=>rfl
 | .kp _ _ _ _=>rfl
 | .fX b h _ _ _=>by
  cases b with
  | true=>show false=(Nat.beq h k&&false);rw[ow]
  | false=>show Nat.beq h k=(Nat.beq h k&&true);rw[jQ]
 | .bT b h _=>by
  cases b with
  | true=>show false=(Nat.beq h k&&false);rw[ow]
  | false=>show Nat.beq h k=(Nat.beq h k&&true);rw[jQ]
 | .val _=>rfl
 | .any=>rfl
theorem wW (ln:Nat→Nat) (k:Nat):∀l:List (TV S),G.bO.go k (TV.er.go ln l)=TV.has.go k l
 | []=>rfl
 | x::r=>by simp only[TV.er.go,G.bO.go,TV.has.go,wX ln k x,wW ln k r]
end
mutual
theorem sA {ln ln':Nat→Nat}:∀v:TV S,(∀k,v.has k=true→ln k=ln' k)→v.er ln=v.er ln'
 | .ab f τ a,_=>rfl
 | .ptr f τ a,_=>rfl
 | .agg l,h=>congrArg G.agg (qu l h)
 | .aU l,h=>congrArg G.aU (qu l h)
 | .aP f l,h=>congrArg (G.aP f) (qu l h)
 | .loc _ _,_=>rfl
 | .gY _ _ _ _,_=>rfl
 | .aK h τ,hh=>congrArg (G.aK h (S.sz τ) 0) (hh h (aQ h))
 | .sub _ _ _ _,_=>rfl
 | .cA _,_=>rfl
 | .mp _,_=>rfl
 | .ks _ _ _ _,_=>rfl
 | .kp _ _ _ _,_=>rfl
 | .fX _ _ _ _ _,_=>rfl
 | .bT _ _ _,_=>rfl
 | .val _,_=>rfl
 | .any,_=>rfl
theorem qu {ln ln':Nat→Nat}:∀l:List (TV S),(∀k,TV.has.go k l=true→ln k=ln' k)→TV.er.go ln l=TV.er.go ln' l
 | [],_=>rfl
 | x::r,h=>by
  simp only[TV.er.go]
  rw[sA x fun k hk=>h k (by simp[TV.has.go,hk]),qu r fun k hk=>h k (by simp[TV.has.go,hk])]
end
def gV (k:Nat):List (Nat×TV S)→Bool
 | []=>false
 | (_,v)::r=>v.has k||gV k r
def TO.has (k:Nat):TO S→Bool
 | .box _ _ cs=>TV.has.go k cs
 | .arr ..=>false
 | .lp _ _ cs=>TV.has.go k cs
 | .deep ..=>false
def dr (k:Nat):List (Nat×TO S)→Bool
 | []=>false
 | (_,o)::r=>o.has k||dr k r
def aj.free (s:aj S) (k:Nat):Bool:=(match aF s.bj k with | none=>true | some _=>false)&&(!(gV k s.bV)&&(!(dr k s.bj)&&(!(TV.has.go k s.df)&&Nat.blt k 500)))
theorem Km (ln:Nat→Nat) (k:Nat):∀fr:List (Nat×TV S),zF k (gX ln fr)=!(gV k fr)
 | []=>rfl
 | (_,v)::r=>by simp only[gX,zF,gV,wX,Km ln k r,Bool.not_or]
theorem uB {ln:Nat→Nat}:∀{st:List (Nat×TO S)}{t:Nat},aF st t=none→az (bG ln st) t=none
 | [],_,_=>rfl
 | (k,g)::r,t,h=>by
  simp only[aF] at h
  simp only[bG,az]
  cases hk:Nat.beq k t with
  | true=>rw[hk] at h;cases h
  | false=>rw[hk] at h;exact uB h
theorem JE (ln:Nat→Nat) (k:Nat):∀st:List (Nat×TO S),dr k st=false→xt k (bG ln st)=true
 | [],_=>rfl
 | (_,o)::r,h=>by
  simp only[dr,bc] at h
  simp only[bG,xt,ag,JE ln k r h.2,and_true]
  cases o with
  | box e m cs=>simp only[TO.er,wW,mi];have:=h.1;simp only[TO.has] at this;simp[this]
  | arr e m f τ l=>rfl
  | lp l n cs=>simp only[TO.er,wW,mi];have:=h.1;simp only[TO.has] at this;simp[this]
  | deep=>rfl
theorem AH (ln:Nat→Nat) (k:Nat):∀l:List (TV S),po k (TV.er.go ln l)=!(TV.has.go k l)
 | []=>rfl
 | x::r=>by simp only[TV.er.go,po,TV.has.go,wX,AH ln k r,Bool.not_or]
theorem free_spec {s:aj S}{k:Nat}(h:s.free k=true):aF s.bj k=none∧gV k s.bV=false∧dr k s.bj=false∧TV.has.go k s.df=false∧Nat.blt k 500=true:=by
 unfold aj.free at h
 simp only[ag,a7] at h
 obtain⟨h1,h2,h3,h4,h5⟩:=h
 refine⟨?_,h2,h3,h4,h5⟩
 split at h1
 ·assumption
 ·cases h1
theorem jX {s:aj S}{k:Nat}(h:s.free k=true):fresh s.er k=true:=by
 obtain⟨h1,h2,h3,h4,h5⟩:=free_spec h
 unfold fresh
 have e1:=uB (ln:=s.ln) h1
 have e2:=Km s.ln k s.bV
 rw[h2] at e2
 have e3:=JE s.ln k s.bj h3
 have e4:=AH s.ln k s.df
 rw[h4] at e4
 have e5:Nat.blt k 1000=true:=by simp only[fh] at h5⊢;omega
 simp only[ag]
 exact⟨by show(az (bG s.ln s.bj) k).isNone=true;rw[e1];rfl,e2,e3,e4,e5⟩
theorem vR {k:Nat}:∀{fr:List (Nat×TV S)}{t:Nat}{v:TV S},bp fr t=some v→gV k fr=false→v.has k=false
 | [],_,_,h,_=>by cases h
 | (t',v')::r,t,v,h,hf=>by
  simp only[gV,bc] at hf
  simp only[bp] at h
  cases hk:Nat.beq t' t with
  | true=>rw[hk] at h;cases h;exact hf.1
  | false=>rw[hk] at h;exact vR h hf.2
theorem RM {s:aj S}{x:Operand}{v:TV S}{k:Nat}(h:cG s x=some v) (hf:gV k s.bV=false):v.has k=false:=by
 cases x with
 | tmp t=>exact vR h hf
 | const u=>cases h;cases u <;> rfl
 | func f=>cases h;rfl
 | global _=>cases h
def kK (ln ln':Nat→Nat) (k:Nat):Prop:=∀j,j≠k→ln j=ln' j
theorem zI {ln ln':Nat→Nat}{k:Nat}(h:kK ln ln' k):∀fr:List (Nat×TV S),gV k fr=false→gX ln fr=gX ln' fr
 | [],_=>rfl
 | (t,v)::r,hf=>by
  simp only[gV,bc] at hf
  simp only[gX,zI h r hf.2]
  rw[sA v fun j hj=>h j fun e=>by subst e;rw[hf.1] at hj;cases hj]
theorem p6 {ln ln':Nat→Nat}{k:Nat}(h:kK ln ln' k) (l:List (TV S)) (hf:TV.has.go k l=false):TV.er.go ln l=TV.er.go ln' l:=
 qu l fun j hj=>h j fun e=>by subst e;rw[hf] at hj;cases hj
theorem sB {ln ln':Nat→Nat}{k:Nat}(h:kK ln ln' k) (v:TV S) (hf:v.has k=false):v.er ln=v.er ln':=
 sA v fun j hj=>h j fun e=>by subst e;rw[hf] at hj;cases hj
theorem TO.sB {ln ln':Nat→Nat}{k:Nat}(h:kK ln ln' k) (o:TO S) (hf:o.has k=false):o.er ln=o.er ln':=by
 cases o with
 | box e m cs=>simp only[TO.er,p6 h cs hf]
 | arr e m f τ l=>rfl
 | lp l n cs=>simp only[TO.er,p6 h cs hf]
 | deep=>rfl
theorem zH {ln ln':Nat→Nat}{k:Nat}(h:kK ln ln' k):∀st:List (Nat×TO S),dr k st=false→bG ln st=bG ln' st
 | [],_=>rfl
 | (t,o)::r,hf=>by
  simp only[dr,bc] at hf
  simp only[bG,zH h r hf.2,TO.sB h o hf.1]
theorem HV {st:List (Nat×TO S)}(k:Nat) (o:TO S):kK (bI st) (bI ((k,o)::st)) k:=by
 intro j hj
 unfold bI
 simp only[aF]
 have:Nat.beq k j=false:=by
  cases h:Nat.beq k j with
  | false=>rfl
  | true=>exact absurd (af h).symm hj
 rw[this];rfl
theorem uO {st:List (Nat×TO S)}(k:Nat) (o:TO S):bI ((k,o)::st) k=o.len:=by
 unfold bI
 simp only[aF,aQ,cond_true]
def aj.add (s:aj S) (k:Nat) (o:TO S):aj S:={s with st:=(k,o)::s.st,nx:=bif Nat.beq k s.nx then k+1 else s.nx}
def aj.cV (s:aj S) (d:Nat):Nat:=bif s.free d then d else s.nx
theorem u9 {s:aj S}{k:Nat}(h:s.free k=true) (o:TO S) (ho:o.has k=false):(s.add k o).er={fr:=s.er.fr,st:=(k,o.er s.ln)::s.er.st,df:=s.er.df}∧kK s.ln (s.add k o).ln k:=by
 obtain⟨h1,h2,h3,h4,h5⟩:=free_spec h
 have hag:kK s.ln (s.add k o).ln k:=HV k o
 refine⟨?_,hag⟩
 show St.mk (gX (s.add k o).ln s.bV) (bG (s.add k o).ln ((k,o)::s.bj)) (TV.er.go (s.add k o).ln s.df)=St.mk _ _ _
 rw[←zI hag s.bV h2,←p6 hag s.df h4]
 simp only[bG]
 rw[←zH hag s.bj h3,←TO.sB hag o ho]
 rfl
def qV:List (Nat×TO S)→Nat→TO S→List (Nat×TO S)
 | [],_,_=>[]
 | (k,g)::r,t,o=>bif Nat.beq k t then(k,o)::r else(k,g)::qV r t o
theorem El {st:List (Nat×TO S)}{h:Nat}{o o':TO S}(ho:aF st h=some o):aF (qV st h o') h=some o':=by
 induction st with
 | nil=>cases ho
 | cons x r ih=>
  obtain⟨y,g⟩:=x
  simp only[aF,qV] at ho⊢
  cases hy:Nat.beq y h with
  | true=>simp[aF,hy]
  | false=>simp only[hy,cond_false] at ho⊢;simp only[aF,hy,cond_false];exact ih ho
theorem vE {st:List (Nat×TO S)}{h h':Nat}{o:TO S}(hne:h'≠h):aF (qV st h o) h'=aF st h':=by
 induction st with
 | nil=>rfl
 | cons x r ih=>
  obtain⟨y,g⟩:=x
  simp only[aF,qV]
  cases hy:Nat.beq y h with
  | true=>
   have:y=h:=af hy
   subst this
   have h2:Nat.beq y h'=false:=by
    cases h3:Nat.beq y h' with
    | false=>rfl
    | true=>exact absurd (af h3).symm hne
   simp[aF,h2]
  | false=>simp only[cond_false,aF,ih]
theorem PQ {st:List (Nat×TO S)}{h:Nat}{o o':TO S}(ho:aF st h=some o) (hl:o'.len=o.len):bI (qV st h o')=bI st:=by
 funext j
 unfold bI
 by_cases e:j=h
 ·subst e;rw[El ho,ho];exact hl
 ·rw[vE e]
theorem IE (ln:Nat→Nat):∀(st:List (Nat×TO S)) (h:Nat) (o:TO S),bG ln (qV st h o)=cC (bG ln st) h (o.er ln)
 | [],_,_=>rfl
 | (k,g)::r,h,o=>by
  simp only[qV,bG,cC]
  cases Nat.beq k h with
  | true=>rfl
  | false=>simp only[cond_false,bG,IE ln r h o]
def aj.set (s:aj S) (h:Nat) (o:TO S):aj S:={s with st:=qV s.st h o,last:=AS h s.last}
theorem PA {st st':List (Nat×TO S)}{h:Nat}{o:TO S}(ho:aF st h=some o):aF (st++st') h=some o:=by
 induction st with
 | nil=>cases ho
 | cons x r ih=>
  obtain⟨k,g⟩:=x
  simp only[bd,aF] at ho⊢
  cases hb:Nat.beq k h with
  | true=>rw[hb] at ho;exact ho
  | false=>rw[hb] at ho;exact ih ho
theorem HJ {st st':List (Nat×TO S)}{h:Nat}{o o':TO S}(ho:aF st h=some o):qV (st++st') h o'=qV st h o'++st':=by
 induction st with
 | nil=>cases ho
 | cons x r ih=>
  obtain⟨k,g⟩:=x
  simp only[bd,aF,qV] at ho⊢
  cases hb:Nat.beq k h with
  | true=>rfl
  | false=>rw[hb] at ho;simp only[cond_false,bd];rw[ih ho]
theorem iR {s:aj S}{h:Nat}{o:TO S}(ho:aF s.st h=some o):aF s.bj h=some o:=PA ho
theorem uC {s:aj S}{h:Nat}{o o':TO S}(ho:aF s.st h=some o) (hl:o'.len=o.len):(s.set h o').er={fr:=s.er.fr,st:=cC s.er.st h (o'.er s.ln),df:=s.er.df}∧(s.set h o').ln=s.ln:=by
 have e0:(s.set h o').bj=qV s.bj h o':=(HJ ho).symm
 have e:(s.set h o').ln=s.ln:=by show bI (s.set h o').bj=bI s.bj;rw[e0];exact PQ (iR ho) hl
 refine⟨?_,e⟩
 show St.mk (gX (s.set h o').ln s.bV) (bG (s.set h o').ln (s.set h o').bj) (TV.er.go (s.set h o').ln s.df)=_
 rw[e,e0,IE]
 rfl
def TV.kill (k:Nat) (v:TV S):TV S:=match v.has k with | true=>.any | false=>v
def lA (k:Nat):List (Nat×TV S)→List (Nat×TV S)
 | []=>[]
 | (t,v)::r=>(t,v.kill k)::lA k r
def TO.kill (k:Nat):TO S→TO S
 | .box e m cs=>.box e m (cs.map (TV.kill k))
 | .lp l n cs=>.lp l n (cs.map (TV.kill k))
 | o=>o
def jo (k:Nat):List (Nat×TO S)→List (Nat×TO S)
 | []=>[]
 | (t,o)::r=>(t,o.kill k)::jo k r
theorem J4 (ln:Nat→Nat) (k:Nat) (v:TV S):(v.kill k).er ln=sM k (v.er ln):=by
 unfold TV.kill sM
 rw[wX]
 cases v.has k <;> rfl
theorem H6 (k:Nat) (v:TV S):(v.kill k).has k=false:=by
 unfold TV.kill
 cases h:v.has k with
 | true=>rfl
 | false=>exact h
theorem H8 (ln:Nat→Nat) (k:Nat):∀fr:List (Nat×TV S),gX ln (lA k fr)=mM k (gX ln fr)
 | []=>rfl
 | (t,v)::r=>by simp only[lA,gX,mM,J4,H8 ln k r]
theorem Fs (k:Nat):∀fr:List (Nat×TV S),gV k (lA k fr)=false
 | []=>rfl
 | (t,v)::r=>by simp only[lA,gV,H6,Fs k r,Bool.or_self]
theorem xY (k:Nat):∀cs:List (TV S),TV.has.go k (cs.map (TV.kill k))=false
 | []=>rfl
 | v::r=>by simp only[aB,TV.has.go,H6,xY k r,Bool.or_self]
theorem Fp (ln:Nat→Nat) (k:Nat) (cs:List (TV S)):TV.er.go ln (cs.map (TV.kill k))=(TV.er.go ln cs).map (sM k):=by
 rw[da,da,iM,iM]
 exact fH fun v _=>J4 ln k v
theorem H7 (ln:Nat→Nat) (k:Nat):∀st:List (Nat×TO S),bG ln (jo k st)=ft k (bG ln st)
 | []=>rfl
 | (t,o)::r=>by
  simp only[jo,bG,ft,H7 ln k r]
  congr 2
  cases o with
  | box e m cs=>simp only[TO.kill,TO.er,Fp];rfl
  | arr e m f τ l=>rfl
  | lp l n cs=>simp only[TO.kill,TO.er,Fp];rfl
  | deep=>rfl
theorem Fq (k:Nat):∀st:List (Nat×TO S),dr k (jo k st)=false
 | []=>rfl
 | (t,o)::r=>by
  simp only[jo,dr,Fq k r,k7]
  cases o with
  | box e m cs=>exact xY k cs
  | arr e m f τ l=>rfl
  | lp l n cs=>exact xY k cs
  | deep=>rfl
theorem xM {k h:Nat}:∀{st:List (Nat×TO S)},aF (jo k st) h=(aF st h).map (TO.kill k)
 | []=>rfl
 | (t,o)::r=>by
  simp only[jo,aF]
  cases Nat.beq t h with
  | true=>rfl
  | false=>exact xM
theorem PW (k:Nat) (o:TO S):(o.kill k).len=o.len:=by cases o <;> rfl
theorem NL (k:Nat) (st:List (Nat×TO S)):bI (jo k st)=bI st:=by
 funext j
 unfold bI
 rw[xM]
 cases aF st j with
 | none=>rfl
 | some o=>exact PW k o
def aj.renew (s:aj S) (k:Nat) (o:TO S):aj S:={s with fr:=lA k s.fr,st:=(k,o)::jo k s.st,last:=AS k s.last}
theorem J3 {k:Nat}{v:TV S}(h:v.has k=false):v.kill k=v:=by unfold TV.kill;rw[h]
theorem BO {k:Nat}:∀{fr:List (Nat×TV S)},gV k fr=false→lA k fr=fr
 | [],_=>rfl
 | (t,v)::r,h=>by
  simp only[gV,bc] at h
  simp only[lA,J3 h.1,BO h.2]
theorem BN {k:Nat}:∀{l:List (TV S)},TV.has.go k l=false→l.map (TV.kill k)=l
 | [],_=>rfl
 | v::r,h=>by
  simp only[TV.has.go,bc] at h
  simp only[aB,J3 h.1,BN h.2]
theorem xZ {k:Nat}:∀{st:List (Nat×TO S)},dr k st=false→jo k st=st
 | [],_=>rfl
 | (t,o)::r,h=>by
  simp only[dr,bc] at h
  simp only[jo,xZ h.2]
  have:o.kill k=o:=by
   cases o with
   | box e m cs=>simp only[TO.kill];rw[BN h.1]
   | arr e m f τ l=>rfl
   | lp l n cs=>simp only[TO.kill];rw[BN h.1]
   | deep=>rfl
  rw[this]
theorem zy (k:Nat):∀(fr fr':List (Nat×TV S)),lA k (fr++fr')=lA k fr++lA k fr'
 | [],_=>rfl
 | (t,v)::r,fr'=>by simp only[bd,lA,zy k r fr']
theorem vH (k:Nat):∀(st st':List (Nat×TO S)),jo k (st++st')=jo k st++jo k st'
 | [],_=>rfl
 | (t,v)::r,st'=>by simp only[bd,jo,vH k r st']
theorem Bo {s:aj S}{k:Nat}(o:TO S) (ho:o.has k=false) (hd:TV.has.go k s.df=false) (hlo:gV k s.lo=false) (hls:dr k s.bM=false):(s.renew k o).er={fr:=mM k s.er.fr,st:=(k,o.er s.ln)::ft k s.er.st,df:=s.er.df}∧kK s.ln (s.renew k o).ln k∧(s.renew k o).ln k=o.len:=by
 have hag:kK s.ln (s.renew k o).ln k:=by
  have:=HV (st:=jo k s.bj) k o
  rw[NL] at this
  have e:(s.renew k o).bj=(k,o)::jo k s.bj:=by
   show(k,o)::(jo k s.st++s.bM)=_
   unfold aj.bj
   rw[vH,xZ hls]
  show kK (bI s.bj) (bI (s.renew k o).bj) k
  rw[e]
  exact this
 have e1:(s.renew k o).bj=(k,o)::jo k s.bj:=by
  show(k,o)::(jo k s.st++s.bM)=_
  unfold aj.bj
  rw[vH,xZ hls]
 have e2:(s.renew k o).bV=lA k s.bV:=by
  show lA k s.fr++s.lo=_
  unfold aj.bV
  rw[zy,BO hlo]
 refine⟨?_,hag,uO k o⟩
 show St.mk (gX (s.renew k o).ln (s.renew k o).bV) (bG (s.renew k o).ln (s.renew k o).bj) (TV.er.go (s.renew k o).ln s.df)=St.mk _ _ _
 rw[e1,e2,←zI hag _ (Fs k s.bV),←p6 hag s.df hd,H8]
 simp only[bG]
 rw[←zH hag _ (Fq k s.bj),←TO.sB hag o ho,H7]
 rfl
theorem kB {k t:Nat}(o:TO S) (st:List (Nat×TO S)) (h:t≠k):aF ((k,o)::st) t=aF st t:=by
 simp only[aF]
 cases hb:Nat.beq k t with
 | true=>exact absurd (af hb).symm h
 | false=>rfl
theorem aO.add {s:aj S}(h:aO s){k:Nat}(o:TO S) (hf:s.free k=true):aO (s.add k o):=by
 intro d hh x hm
 obtain⟨i,bw,m,f,τ,l,a,e1,e2,e3⟩:=h d hh x hm
 refine⟨i,bw,m,f,τ,l,a,e1,?_,e3⟩
 refine(kB o s.bj ?_).trans e2
 intro e
 subst e
 rw[(free_spec hf).1] at e2
 cases e2
theorem aO.set {s:aj S}(h:aO s){k:Nat}{o0:TO S}(hk:aF s.st k=some o0) (o:TO S):aO (s.set k o):=by
 have e0:(s.set k o).bj=qV s.bj k o:=(HJ hk).symm
 intro d hh x hm
 obtain⟨h1,h2⟩:=uh hm
 obtain⟨i,bw,m,f,τ,l,a,e1,e2,e3⟩:=h d hh x h1
 exact⟨i,bw,m,f,τ,l,a,e1,by rw[e0];exact(vE h2).trans e2,e3⟩
theorem Cp {k t:Nat}{v:TV S}:∀{fr:List (Nat×TV S)},bp fr t=some v→bp (lA k fr) t=some (v.kill k)
 | [],h=>by cases h
 | (t',v')::r,h=>by
  simp only[bp,lA] at h⊢
  cases hb:Nat.beq t' t with
  | true=>rw[hb] at h;cases h;rfl
  | false=>rw[hb] at h;exact Cp h
theorem aO.renew {s:aj S}(h:aO s) (k:Nat) (o:TO S) (hlo:gV k s.lo=false) (hls:dr k s.bM=false):aO (s.renew k o):=by
 have q1:(s.renew k o).bj=(k,o)::jo k s.bj:=by
  show(k,o)::(jo k s.st++s.bM)=_
  unfold aj.bj
  rw[vH,xZ hls]
 have q2:(s.renew k o).bV=lA k s.bV:=by
  show lA k s.fr++s.lo=_
  unfold aj.bV
  rw[zy,BO hlo]
 intro d hh x hm
 obtain⟨h1,h2⟩:=uh hm
 obtain⟨i,bw,m,f,τ,l,a,e1,e2,e3⟩:=h d hh x h1
 refine⟨i,bw,m,f,τ,l,a,?_,?_,e3⟩
 ·have:=Cp (k:=k) e1
  rw[q2]
  refine this.trans ?_
  unfold TV.kill TV.has
  have:Nat.beq hh k=false:=by
   cases hb:Nat.beq hh k with
   | true=>exact absurd (af hb) h2
   | false=>rfl
  rw[this]
 ·rw[q1]
  refine(kB o _ h2).trans ?_
  rw[xM,e2];rfl
end
end Go.DN
/-
 DN,part H:steps of the proof alone;boxes,blocks,stores.
-/
namespace Go.DN
open Go.AM
def Gh (s t:St):Prop:=∀(N:Nat) (cx:Cx) (μ:Mu) (a:Act) (w:World),Rel N cx μ s a w→
 ∃μ',Rel N cx μ' t a w∧∀h k c m y,az t.st h=some k→μ' h=some (c,m)→In y c m→∃k0 c0 m0,az s.st h=some k0∧μ h=some (c0,m0)∧In y c0 m0
theorem Gh.same {s t:St}{μ μ':Mu}(h:∀h k b m,az t.st h=some k→μ' h=some (b,m)→∃k0,az s.st h=some k0∧μ h=some (b,m)):
  ∀h k c m y,az t.st h=some k→μ' h=some (c,m)→In y c m→∃k0 c0 m0,az s.st h=some k0∧μ h=some (c0,m0)∧In y c0 m0:=
 fun x k c m y h1 h2 h3=>let ⟨k0,h4,h5⟩:=h x k c m h1 h2;⟨k0,c,m,h4,h5,h3⟩
theorem Gh.refl (s:St):Gh s s:=fun _ _ μ _ _ hr=>⟨μ,hr,Gh.same fun h k b m h1 h2=>⟨k,h1,h2⟩⟩
theorem Gh.trans {a b c:St}(h:Gh a b) (h':Gh b c):Gh a c:=fun N cx μ ac w hr=>by
 obtain⟨μ1,h1,h2⟩:=h N cx μ ac w hr
 obtain⟨μ2,h3,h4⟩:=h' N cx μ1 ac w h1
 refine⟨μ2,h3,fun x k c m y h5 h6 h7=>?_⟩
 obtain⟨k0,c0,m0,h8,h9,h10⟩:=h4 x k c m y h5 h6 h7
 exact h2 x k0 c0 m0 y h8 h9 h10
theorem Gh.sub {s t:St}(h:Sub s t):Gh s t:=fun N cx μ a w hr=>⟨μ,hr.sub h,Gh.same fun x k b m h1 h2=>⟨k,h.2.1.get h1,h2⟩⟩
theorem Gh.of {s t:St}(h:∀(N:Nat) (cx:Cx) (μ:Mu) (a:Act) (w:World),Rel N cx μ s a w→Rel N cx μ t a w) (hd:∀x k,az t.st x=some k→∃k0,az s.st x=some k0):Gh s t:=fun N cx μ a w hr=>
 ⟨μ,h N cx μ a w hr,Gh.same fun x k b m h1 h2=>let ⟨k0,h3⟩:=hd x k h1;⟨k0,h3,h2⟩⟩
section
variable {P:Program}{N:Nat}{cx:Cx}{ops:Array Oper}{Q:Exit→St→Prop}{s t:St}
theorem GW.gh {c:Code}(h:Gh s t) (k:GW P N cx c Q t):GW P N cx c Q s:=fun μ a w hr=>by
 obtain⟨μ',h1,_⟩:=h N cx μ a w hr
 exact k μ' a w h1
theorem GL.gh {rest:List Oper}(h:Gh s t) (k:GL P N cx ops Q rest t):GL P N cx ops Q rest s:=fun μ a w hr=>by
 obtain⟨μ',h1,_⟩:=h N cx μ a w hr
 exact k μ' a w h1
theorem dI.gh {W:List Nat}{aY:Nat}{listed:Array Bool}(h:Gh s t) (k:dI P N cx ops Q W aY listed t):dI P N cx ops Q W aY listed s:=fun ws Wb μ a w hr hS hW=>by
 obtain⟨μ',h1,h2⟩:=h N cx μ a w hr
 refine k ws Wb μ' a w h1 hS fun x k c m y h3 h4 h5 h6=>?_
 obtain⟨k0,c0,m0,h7,h8,h9⟩:=h2 x k c m y h4 h5 h6
 exact hW x k0 c0 m0 y h3 h7 h8 h9
end
section
variable {S:dx}
def fp (P:Program) (W:List Nat) (s:aj S) (o:Oper){A:Type}(k:aj S→Option A) (r:A):Prop:=
 ∃T:St→Prop,bJ P W s.er o T∧∀s',T s'→∃t:aj S,Gh s' t.er∧aO t∧bA s t∧k t=some r
theorem fp.one {P:Program}{W:List Nat}{s:aj S}{o:Oper}{A:Type}{k:aj S→Option A}{r:A}{s1:St}(t:aj S) (he:bJ P W s.er o (·=s1)) (hg:Gh s1 t.er) (hl:aO t) (hkp:bA s t) (hk:k t=some r):fp P W s o k r:=
 ⟨_,he,fun s' e=>by subst e;exact⟨t,hg,hl,hkp,hk⟩⟩
theorem N2 {k:Nat}(v:TV S) (h:v.has k=false):TV.has.go k (dK v)=false:=by
 cases v with
 | ab f τ a=>
  cases τ with
  | st n=>
   show TV.has.go k (split f n a)=false
   unfold split
   generalize S.cells n a=l
   induction l with
   | nil=>rfl
   | cons x r ih=>simp only[aB,TV.has.go,TV.has,mi];exact ih
  | _=>rfl
 | agg l=>exact h
 | _=>simpa[dK,TV.has.go] using h
def TE:TV S→Bool
 | .ab _ τ _=>!τ.fU
 | .val u=>u.oneCell'
 | .agg _=>false
 | .aU _=>false
 | .any=>false
 | _=>true
theorem Pz {v:TV S}(h:TE v=true) (ln:Nat→Nat):(v.er ln).one=true:=by
 cases v with
 | ab f τ a=>cases τ with
  | st n=>cases h
  | _=>cases f <;> rfl
 | ptr f τ a=>cases f <;> rfl
 | fX b h τ i j=>cases b <;> rfl
 | bT b h off=>cases b <;> rfl
 | val u=>exact h
 | agg l=>cases h
 | aU l=>cases h
 | any=>cases h
 | _=>rfl
def CL:List (TV S)→Bool
 | []=>true
 | v::r=>TE v&&CL r
theorem oY (ln:Nat→Nat):∀{l:List (TV S)},CL l=true→(TV.er.go ln l).all G.one=true
 | [],_=>rfl
 | v::r,h=>by
  simp only[CL,ag] at h
  simp only[TV.er.go,fC,Pz h.1 ln,oY ln h.2,gu]
section
variable {P:Program}{W:List Nat}{s:aj S}{ty:TypeId}{pos:String}{after:Array Edge}{guard:Option (Nat×Bool)}{A:Type}{k:aj S→Option A}{r:A}
def QP (s:aj S) (d:Nat) (t:TypeId) (x:Operand){A:Type}(k:aj S→Option A):Option A:=
 match s.free (s.cV d) with
 | true=>match cG s x with
  | some v=>match okV v with
   | true=>k ((s.add (s.cV d) (.box t true (dK v))).put d (.loc (s.cV d) 0))
   | false=>none
  | none=>none
 | false=>none
theorem SY {d:Nat}{t:TypeId}{x:Operand}(hl:aO s) (h:QP s d t x k=some r):fp P W s ⟨some d,.box t x,ty,pos,after,guard⟩ k r:=by
 unfold QP at h
 split at h
 ·rename_i hf
  split at h
  ·rename_i v hv
   split at h
   ·rename_i ho
    have hn:TV.has.go (s.cV d) (dK v)=false:=N2 v (RM hv (free_spec hf).2.1)
    obtain⟨e1,_⟩:=u9 hf (.box t true (dK v)) hn
    refine .one _ (EF.box (s.cV d) (bu hv) (sn ho s.ln) (jX hf)) ?_ ((hl.add _ hf).put _ _) ⟨rfl,rfl,rfl⟩ h
    rw[iT,e1]
    rw[vD ho s.ln]
    exact Gh.refl _
   ·cases h
  ·cases h
 ·cases h
def I2 (P:Program) (s:aj S) (d:Nat) (t:TypeId){A:Type}(k:aj S→Option A):Option A:=
 match s.free (s.cV d) with
 | true=>match (P.info? t).bind (·.zero) with
  | some z=>k ((s.add (s.cV d) (.box t true (z.cells.toList.map vt))).put d (.loc (s.cV d) 0))
  | none=>none
 | false=>none
theorem MN (k:Nat) (l:List Value):TV.has.go k (l.map (vt (S:=S)))=false:=by
 induction l with
 | nil=>rfl
 | cons v r ih=>simp only[aB,TV.has.go,ih,k7];cases v <;> rfl
theorem O9 (ln:Nat→Nat) (l:List Value):TV.er.go ln (l.map (vt (S:=S)))=l.map .val:=by
 rw[da,iM]
 exact fH fun v _=>GZ ln v
theorem O2 {t:TypeId}{z:Value}(h:(P.info? t).bind (·.zero)=some z):∀w,(zeroValue t).run P w=.ok z w:=by
 intro w
 cases hi:P.info? t with
 | none=>rw[hi] at h;cases h
 | some i=>
  rw[hi] at h
  have h:i.zero=some z:=h
  simp[zeroValue,typeInfo,hi,h]
theorem OP {d:Nat}{t:TypeId}(hl:aO s) (h:I2 P s d t k=some r):fp P W s ⟨some d,.alloc t,ty,pos,after,guard⟩ k r:=by
 unfold I2 at h
 split at h
 ·rename_i hf
  split at h
  ·rename_i z hz
   obtain⟨e1,_⟩:=u9 hf (.box t true (z.cells.toList.map vt)) (MN _ _)
   refine .one _ (EF.alloc (s.cV d) (O2 hz) (jX hf)) ?_ ((hl.add _ hf).put _ _) ⟨rfl,rfl,rfl⟩ h
   rw[iT,e1]
   simp only[TO.er,O9]
   exact Gh.refl _
  ·cases h
 ·cases h
def KL (τ:Ty) (z:Value):Option (S.D τ):=
 match τ with
 | .st n=>match Cs (.st n) (.agg (z.cells.toList.map vt)) with
  | some x=>some x.2
  | none=>none
 | τ=>match oA τ (vt z) with
  | some x=>match z.cells.toList with
   | [_]=>some x.2
   | _=>none
  | none=>none
theorem G8 {τ:Ty}{u:Value}{f:Bool}{a:S.D τ}(h:oA τ (vt u)=some (f,a)):mB u=du S τ a:=by
 unfold oA at h
 split at h
 ·rename_i f' τ' a' e
  split at h
  ·cases h
  ·split at h
   ·rename_i b hb
    cases h
    have:=dU hb
    cases this
    cases u <;> simp only[vt] at e <;> cases e <;> rfl
   ·cases h
 ·rename_i e
  split at h
  ·cases h
   cases u <;> simp only[vt] at e <;> cases e
   rfl
  ·cases h
 ·cases h
theorem MS:∀{ts:List Ty}{us:List Value}{f:Bool}{l:List (bi S.α)},D9 ts (us.map vt)=some (f,l)→us.map mB=l.map fun x=>du S x.τ x.a
 | [],[],_,_,h=>by cases h;rfl
 | τ::ts,u::us,f,l,h=>by
  simp only[aB,D9] at h
  split at h
  ·rename_i f1 a h1
   split at h
   ·rename_i g l' h2
    cases h
    simp only[aB,G8 h1,MS h2]
   ·cases h
  ·cases h
 | [],_::_,_,_,h=>by cases h
 | _::_,[],_,_,h=>by cases h
theorem O3 {τ:Ty}{z:Value}{a:S.D τ}(h:KL τ z=some a):z.cells.toList.map mB=aW S τ a∧z.cells.size=S.sz τ:=by
 have key:z.cells.toList.map mB=aW S τ a:=by
  unfold KL at h
  split at h
  ·rename_i n
   split at h
   ·rename_i x hx
    cases h
    unfold Cs at hx
    dsimp only at hx
    split at hx
    ·rename_i f l h1
     split at hx
     ·rename_i a h2
      cases hx
      rw[gJ,S.lY _ _ _ h2]
      exact MS h1
     ·cases hx
    ·cases hx
   ·cases h
  ·rename_i hns
   split at h
   ·rename_i x hx
    obtain⟨f,x⟩:=x
    split at h
    ·rename_i u hu
     cases h
     have hs:τ.fU=false:=by
      cases τ with
      | st n=>exact absurd rfl (hns n)
      | _=>rfl
     have hzu:z=u:=by
      have h3:=(G8 hx)
      cases z with
      | agg cs=>simp[vt,oA] at hx
      | _=>simpa[Value.cells] using hu
     rw[hu,aB,eJ,kN S hs,←hzu,G8 hx]
    ·cases h
   ·cases h
 refine⟨key,?_⟩
 have:=congrArg List.length key
 rw[aN,sD,Array.length_toList] at this
 exact this
def CX (P:Program) (s:aj S) (d:Nat) (t:TypeId) (x y:Operand){A:Type}(k:aj S→Option A):Option A:=
 match s.free (s.cV d) with
 | true=>match P.underlying t with
  | some (.slice e)=>match S.Q6 e with
   | some τ=>match P.info? e with
    | some i=>match i.zero with
     | some z=>match KL τ z with
      | some a=>match cG s x with
       | some (.ab _ (.int _) n)=>match cG s y with
        | some (.ab _ (.int _) c)=>match decEq i.size (S.sz τ) with
         | isTrue _=>(dA (0≤n∧n≤c∧(i.bytes:Int)*c≤281474976710656∧c≤9223372036854775807)).bind fun _=>
          k ((s.add (s.cV d) (.arr e true true τ (List.replicate (Int.toNat n) a))).put d (.aK (s.cV d) τ))
         | isFalse _=>none
        | _=>none
       | _=>none
      | none=>none
     | none=>none
    | none=>none
   | none=>none
  | _=>none
 | false=>none
theorem PK {d:Nat}{t:TypeId}{x y:Operand}(hl:aO s) (h:CX P s d t x y k=some r):fp P W s ⟨some d,.makeSlice t x y,ty,pos,after,guard⟩ k r:=by
 unfold CX at h
 split at h
 ·rename_i hf
  split at h
  ·rename_i e hu
   split at h
   ·rename_i τ _
    split at h
    ·rename_i i hi
     split at h
     ·rename_i z hz
      split at h
      ·rename_i a ha
       split at h
       ·rename_i n hx
        split at h
        ·rename_i c hy
         split at h
         ·rename_i hs _
          obtain⟨u,hc,h⟩:=bind_some h
          obtain⟨c1,c2,c3,c4⟩:=cS hc
          obtain⟨z1,z2⟩:=O3 ha
          obtain⟨e1,hag⟩:=u9 hf (.arr e true true τ (List.replicate (Int.toNat n) a)) rfl
          letI:=mP S τ
          refine .one _ (ET.CX (α:=S.D τ) (x:=a) (sz:=S.sz τ) (bt:=i.bytes) (s.cV d) (lC hx) (lC hy) hu (by rw[hi,b9,hz,hs]) z2 rfl z1 c1 c2 c3 c4 (jX hf)) ?_ ((hl.add _ hf).put _ _) ⟨rfl,rfl,rfl⟩ h
          rw[iT,e1]
          have e2:(TV.aK (s.cV d) τ:TV S).er (s.add (s.cV d) (.arr e true true τ (List.replicate (Int.toNat n) a))).ln=.aK (s.cV d) (S.sz τ) 0 (List.replicate (Int.toNat n) a).length:=by
           show G.aK _ _ _ ((s.add (s.cV d) _).ln (s.cV d))=_
           rw[show(s.add (s.cV d) (.arr e true true τ (List.replicate (Int.toNat n) a))).ln (s.cV d)=_ from uO _ _]
           rfl
          rw[e2]
          exact Gh.refl _
         ·cases h
        ·cases h
       ·cases h
      ·cases h
     ·cases h
    ·cases h
   ·cases h
  ·cases h
 ·cases h
end
end
end Go.DN
/-
 DN,part I:values as plain data,cell by cell;slices built;stores.
-/
namespace Go.DN
open Go.AM
def Pl (m:G):Prop:=(∃u,m=.val u)∨(∃n cs,m=.sl n cs)∨∃b,m=.cH b
theorem Kn {O:Nat→Prop}{base:Nat}{w:World}{μ:Mu}{f:Bool}{m:G}{v:Value}(hm:Pl m) (h:aM O base w μ (dc f m) v):bB (bif f then hJ O base else O) w m v:=by
 rcases hm with ⟨u,rfl⟩ | ⟨n,cs,rfl⟩ | ⟨b,rfl⟩
 ·have:dc f (.val u)=.val u:=by cases f <;> rfl
  rw[this] at h
  cases h with
  | aC h=>cases h;exact .val _
 ·cases f with
  | true=>cases h with
   | aC h=>cases h
   | fr h=>exact h
  | false=>cases h with
   | aC h=>exact h
 ·cases f with
  | true=>cases h with
   | aC h=>cases h
   | fr h=>exact h
  | false=>cases h with
   | aC h=>exact h
theorem Pl.one {m:G}(hm:Pl m):∀{g:G}(f:Bool),g.one=true→True:=fun _ _=>trivial
section
variable {S:dx}
theorem w9 {τ:Ty}(h:τ.fU=false) (a:S.D τ):Pl (du S τ a):=by
 cases τ with
 | st n=>cases h
 | list t=>exact .inr (.inl ⟨_,_,rfl⟩)
 | cH=>exact .inr (.inr ⟨_,rfl⟩)
 | _=>exact .inl ⟨_,rfl⟩
theorem td (τ:Ty) (a:S.D τ):∀m∈aW S τ a,Pl m:=by
 intro m hm
 cases τ with
 | st n=>
  rw[gJ] at hm
  obtain⟨x,hx,rfl⟩:=jP.1 hm
  exact w9 (la n a x hx) x.a
 | _=>rw[kN S rfl] at hm;simp at hm;subst hm;exact w9 rfl a
theorem SL (τ:Ty) (l:List (S.D τ)):∀m∈List.flatMap (aW S τ) l,Pl m:=by
 intro m hm
 obtain⟨a,_,h⟩:=oU.1 hm
 exact td τ a m h
def xh (gs:List G) (f:Bool) (ms:List G):Prop:=gs.length=ms.length∧∀(j:Nat) (m:G),ms[j]?=some m→∃g,gs[j]?=some g∧RW g (dc f m)
theorem xh.flag {gs ms:List G}{f f':Bool}(h:xh gs f ms) (hf:f'=true→f=true):xh gs f' ms:=⟨h.1,fun j m hm=>let ⟨g,h1,h2⟩:=h.2 j m hm;⟨g,h1,h2.trans (RW.dc _ _ _ hf)⟩⟩
theorem xh.append {gs ms gs' ms':List G}{f:Bool}(h:xh gs f ms) (h':xh gs' f ms'):xh (gs++gs') f (ms++ms'):=by
 refine⟨by simp[h.1,h'.1],fun j m hm=>?_⟩
 rw[ba] at hm⊢
 rw[h.1]
 split at hm
 ·rename_i hj;rw[if_pos hj];exact h.2 j m hm
 ·rename_i hj;rw[if_neg hj];exact h'.2 _ m hm
theorem E2 {τ:Ty}{v:TV S}{f:Bool}{a:S.D τ}(h:Cs τ v=some (f,a)) (ln:Nat→Nat):xh (cI (v.er ln)) f (aW S τ a):=by
 unfold Cs at h
 split at h
 ·rename_i f' τ' a'
  split at h
  ·rename_i b hb
   cases h
   have:=dU hb
   cases this
   cases τ with
   | st n=>
    have e:(f'||(Ty.st n).iS)=f':=by cases f' <;> rfl
    rw[e]
    refine⟨by show((aW S (.st n) a).map (dc f')).length=_;rw[aN],fun j m hm=>⟨dc f' m,?_,RW.refl _⟩⟩
    show((aW S (.st n) a).map (dc f'))[j]?=_
    rw[ar,hm];rfl
   | list t=>
    have e:(f'||(Ty.list t).iS)=f':=by cases f' <;> rfl
    rw[e,kN S rfl]
    refine⟨by cases f' <;> rfl,fun j m hm=>⟨dc f' m,?_,RW.refl _⟩⟩
    cases j with
    | zero=>cases hm;cases f' <;> rfl
    | succ j=>cases hm
   | cH=>
    have e:(f'||Ty.cH.iS)=f':=by cases f' <;> rfl
    rw[e,kN S rfl]
    refine⟨by cases f' <;> rfl,fun j m hm=>⟨dc f' m,?_,RW.refl _⟩⟩
    cases j with
    | zero=>cases hm;cases f' <;> rfl
    | succ j=>cases hm
   | _=>
    rw[kN S rfl]
    refine⟨by cases f' <;> rfl,fun j m hm=>⟨dc f' m,?_,?_⟩⟩
    ·cases j with
     | zero=>cases hm;cases f' <;> rfl
     | succ j=>cases hm
    ·cases j with
     | zero=>cases hm;cases f' <;> exact RW.refl _
     | succ j=>cases hm
  ·cases h
 ·split at h
  ·cases h
   refine⟨rfl,fun j m hm=>⟨.val (.slice none 0 0),?_,?_⟩⟩
   ·cases j with
    | zero=>rfl
    | succ j=>cases hm
   ·cases j with
    | zero=>cases hm;exact RW.nil
    | succ j=>cases hm
  ·cases h
 ·split at h
  ·rename_i _ vs _ n
   split at h
   ·rename_i f1 l h1
    split at h
    ·rename_i a1 h2
     cases h
     obtain⟨i1,i2⟩:=D7 ln h1
     have h3:=S.lY n l a h2
     rw[gJ,h3]
     show xh (TV.er.go ln vs) _ _
     rw[da]
     refine⟨by simp[i1],fun j m hm=>?_⟩
     rw[ar] at hm
     obtain⟨x,hx,rfl⟩:=ay.1 hm
     obtain⟨v,h4,h5⟩:=i2 j x hx
     exact⟨v.er ln,by rw[ar,h4];rfl,h5⟩
    ·cases h
   ·cases h
  ·cases h
 ·cases h
theorem Gh.pure {s:St}{h:Nat}{k:ao}{cs:List G}{f:Bool}(hk:az s.st h=some k) (hp:k.pure=false) (hlp:k.lp=none) (hpl:∀m∈cs,Pl m) (hc:xh k.cells f cs):
  Gh s {fr:=s.fr,st:=cC s.st h {k with pure:=true,fresh:=f,cells:=cs},df:=s.df}:=by
 refine Gh.of (fun N cx μ a w hr=>hr.wJ hk rfl rfl rfl (by dsimp only;rw[hc.1];exact aq _) hlp hlp fun j g' hg'=>?_) fun x k1 hx=>?_
 ·obtain⟨g,h1,h2⟩:=hc.2 j g' hg'
  refine⟨g,h1,fun v hv=>?_⟩
  unfold bZ at hv⊢
  rw[hp] at hv
  exact Kn (hpl g' (aL hg')) (h2 _ _ _ _ _ hv)
 ·rcases cF hk hx with ⟨e,_⟩ | ⟨_,h1⟩
  ·subst e;exact⟨k,hk⟩
  ·exact⟨k1,h1⟩
def KW (τ:Ty):List (TV S)→Option (Bool×List (S.D τ))
 | []=>some (true,[])
 | v::r=>match okV v with
  | true=>match Cs τ v with
   | some (f,a)=>match KW τ r with
    | some (g,l)=>some (f&&g,a::l)
    | none=>none
   | none=>none
  | false=>none
theorem Jz {τ:Ty}(ln:Nat→Nat):∀{vs:List (TV S)}{f:Bool}{l:List (S.D τ)},KW τ vs=some (f,l)→
  ul (S.sz τ) (TV.er.go ln vs)=true∧l.length=vs.length∧xh ((TV.er.go ln vs).flatMap cI) f (List.flatMap (aW S τ) l)
 | [],_,_,h=>by cases h;exact⟨rfl,rfl,rfl,fun j m h=>by simp at h⟩
 | v::r,f,l,h=>by
  simp only[KW] at h
  split at h
  ·rename_i ho
   split at h
   ·rename_i f1 a h1
    split at h
    ·rename_i g l' h2
     cases h
     obtain⟨i1,i2,i3⟩:=Jz ln h2
     have h3:=E2 h1 ln
     refine⟨?_,by simp[i2],?_⟩
     ·simp only[TV.er.go,ul,ag]
      refine⟨⟨sn ho ln,?_⟩,i1⟩
      rw[h3.1,sD];exact aQ _
     ·simp only[TV.er.go,cj]
      exact(h3.flag fun h=>by simp at h;exact h.1).append (i3.flag fun h=>by simp at h;exact h.2)
    ·cases h
   ·cases h
  ·cases h
def zn (s:aj S):List (Nat×Operand)→Nat→Option (List (TV S))
 | [],_=>some []
 | (i,x)::r,j=>match Nat.beq i j with
  | true=>match cG s x with
   | some v=>match zn s r (j+1) with
    | some vs=>some (v::vs)
    | none=>none
   | none=>none
  | false=>none
theorem E9 {s:aj S}:∀{l:List (Nat×Operand)}{j:Nat}{vs:List (TV S)},zn s l j=some vs→IA s.er l j=some (TV.er.go s.ln vs)
 | [],_,_,h=>by cases h;rfl
 | (i,x)::r,j,vs,h=>by
  simp only[zn] at h
  split at h
  ·rename_i hb
   split at h
   ·rename_i v hv
    split at h
    ·rename_i vs' hr
     cases h
     simp only[IA,hb,bu hv,E9 hr,TV.er.go]
    ·cases h
   ·cases h
  ·cases h
section
variable {P:Program}{W:List Nat}{s:aj S}{ty:TypeId}{pos:String}{after:Array Edge}{guard:Option (Nat×Bool)}{A:Type}{k:aj S→Option A}{r:A}
def QO (P:Program) (s:aj S) (d:Nat) (t:TypeId) (n:Nat) (parts:Array (Nat×Operand)){A:Type}(k:aj S→Option A):Option A:=
 match s.free (s.cV d) with
 | true=>match P.underlying t with
  | some (.slice e)=>match S.Q6 e with
   | some τ=>match P.info? e with
    | some i=>match i.zero with
     | some _=>match decEq i.size (S.sz τ) with
      | isTrue _=>match parts.toList with
       | []=>match n with
        | 0=>k ((s.add (s.cV d) (.arr e true true τ [])).put d (.aK (s.cV d) τ))
        | _=>none
       | p::ps=>match zn s (p::ps) 0 with
        | some vs=>match KW τ vs with
         | some (f,l)=>match Nat.beq vs.length n&&(Nat.ble (n*S.sz τ) 16777216&&Nat.blt 0 n) with
          | true=>k ((s.add (s.cV d) (.arr e true f τ l)).put d (.aK (s.cV d) τ))
          | false=>none
         | none=>none
        | none=>none
      | isFalse _=>none
     | none=>none
    | none=>none
   | none=>none
  | _=>none
 | false=>none
theorem HI {s:aj S}{h:Nat}{e:TypeId}{m f:Bool}{τ:Ty}{l:List (S.D τ)}:(TV.aK h τ:TV S).er (s.add h (.arr e m f τ l)).ln=.aK h (S.sz τ) 0 l.length:=by
 show G.aK _ _ _ ((s.add h _).ln h)=_
 rw[show(s.add h (.arr e m f τ l)).ln h=_ from uO _ _]
 rfl
theorem MY {h:Nat}{k k':ao}{r:List (Nat×ao)}:cC ((h,k)::r) h k'=(h,k')::r:=by
 simp only[cC,aQ,cond_true]
theorem SX {d:Nat}{t:TypeId}{n:Nat}{parts:Array (Nat×Operand)}(hl:aO s) (h:QO P s d t n parts k=some r):fp P W s ⟨some d,.buildSlice t n parts,ty,pos,after,guard⟩ k r:=by
 unfold QO at h
 split at h
 ·rename_i hf
  split at h
  ·rename_i e hu
   split at h
   ·rename_i τ _
    split at h
    ·rename_i i hi
     split at h
     ·rename_i z hz
      split at h
      ·rename_i hs _
       have hinfo:(P.info? e).map (fun i=>(i.zero,i.size,i.bytes))=some (some z,S.sz τ,i.bytes):=by rw[hi,b9,hz,hs]
       split at h
       ·rename_i hp
        have:=D6 hp
        subst this
        split at h
        ·obtain⟨e1,_⟩:=u9 hf (.arr e true true τ ([]:List (S.D τ))) rfl
         refine .one _ (EF.Jq (s.cV d) hu hinfo (jX hf)) ?_ ((hl.add _ hf).put _ _) ⟨rfl,rfl,rfl⟩ h
         rw[iT,e1,HI]
         exact Gh.refl _
        ·cases h
       ·rename_i p ps hp
        split at h
        ·rename_i vs hv
         split at h
         ·rename_i f l ht
          split at h
          ·rename_i hc
           simp only[ag] at hc
           obtain⟨c1,c2,c3⟩:=hc
           have c1:=af c1
           have c2:=eH c2
           have c3:0<n:=by simpa[fh] using c3
           obtain⟨i1,i2,i3⟩:=Jz s.ln ht
           obtain⟨e1,_⟩:=u9 hf (.arr e true f τ l) rfl
           refine .one _ (EF.buildSlice (sz:=S.sz τ) (z:=z) (bt:=i.bytes) (s.cV d) (gs:=TV.er.go s.ln vs) (by rw[hp];exact E9 hv) (by rw[da,aN,c1]) hu hinfo (Nat.mul_pos c3 (G9 S τ)) c2 i1 (jX hf)) ?_ ((hl.add _ hf).put _ _) ⟨rfl,rfl,rfl⟩ h
           rw[iT,e1,HI,i2,c1]
           have:=Gh.pure (s:={fr:=(d,.aK (s.cV d) (S.sz τ) 0 n)::s.er.fr,st:=(s.cV d,⟨e,false,true,false,S.sz τ,(TV.er.go s.ln vs).flatMap cI,none⟩)::s.er.st,df:=s.er.df}) (h:=s.cV d)
            (dz _ _ _) rfl rfl (SL τ l) i3
           rw[MY] at this
           exact this
          ·cases h
         ·cases h
        ·cases h
      ·cases h
     ·cases h
    ·cases h
   ·cases h
  ·cases h
 ·cases h
end
end
end Go.DN
/-
 DN,part J:stores.
-/
namespace Go.DN
open Go.AM
section
variable {P:Program}{W:List Nat}{s:St}{ty:TypeId}{pos:String}{after:Array Edge}{guard:Option (Nat×Bool)}
theorem EF.JD {t:TypeId}{x y:Operand}{h off sz:Nat}{k:ao}{g:G}{gs ms cells':List G}{f:Bool}(hx:ev s x=some (.loc h off)) (hy:ev s y=some g) (hk:az s.st h=some k) (hp:k.pure=true)
  (hok:Dg g=true) (hgs:cI g=gs) (hone:gs.all G.one=true) (hl:gs.length=sz) (hsz:∀w,(sizeOf t).run P w=.ok sz w) (hoff:off+sz≤k.cells.length) (hW:W.contains h=true)
  (hms:xh gs f ms) (hpl:∀m∈ms,Pl m)
  (hc':k.cells.take off++ms++k.cells.drop (off+sz)=cells') (hlp:k.lp=none):
  bJ P W s ⟨none,.store t x y,ty,pos,after,guard⟩ (·={fr:=s.fr,st:=cC s.st h {k with fresh:=k.fresh&&f,cells:=cells'},df:=s.df}):=by
 refine bJ.skip rfl (fun _ h=>by cases h) ?_
 intro N cx μ a w hr
 obtain⟨b,m,e1,hm⟩:=hr.loc hx
 obtain⟨cs,h1,h2,h3,h4,hbt,h5⟩:=hr.own hk hm hlp
 obtain⟨hvl,hvc⟩:=(hr.ev hy).cells hok
 rw[hgs] at hvl hvc
 have hml:ms.length=sz:=hms.1▸hl
 have hlen:(a.eval y).cells.toList.length=sz:=by rw[Array.length_toList,hvl,hl]
 have hrun:=run_storeCells_at P b off k.bw (a.eval y).cells.toList 0 cs w h1 (by rw[hlen];omega) (fun v hv=>by
  obtain⟨j,hj⟩:=e8 hv
  have hjl:j<gs.length:=by
   have:=(aw.1 hj).1
   omega
  obtain⟨u,hu,hru⟩:=hvc j gs[j] (av hjl)
  rw[bn] at hj
  rw[hj] at hu
  cases hu
  exact hru.one (cz.1 hone _ (iu hjl)))
 rw[dJ,hlen] at hrun
 refine⟨μ,w.setRow b (cs.toList.take off++(a.eval y).cells.toList++cs.toList.drop (off+sz)).toArray,?_,?_⟩
 ·simp only[execOp,Instr.storeAt,Instr.sureAddr,e1,storeVar,hsz,Sem.run_bind,Sem.run_pure,Result.andThen_ok]
  rw[if_neg (by rw[hvl,hl];simp)]
  rw[hrun]
  rfl
 ·subst hc'
  refine hr.write (k':={k with fresh:=k.fresh&&f,cells:=k.cells.take off++ms++k.cells.drop (off+sz)}) hk hm (jG h1) ?_ (setRow_size _ _ _) (fun b' hb'=>setRow_other w b b' _ hb') rfl rfl rfl id ?_ hbt ?_ W hW hlp
  ·simp only[lP,ak,bo,cK,Array.length_toList,hvl,hl];omega
  ·simp only[ak,bo,cK,hml];omega
  ·intro j g' hg'
   have jJ:∀(j:Nat),(cs.toList.take off++(a.eval y).cells.toList++cs.toList.drop (off+sz)).toArray[j]?=if j<off then cs[j]? else if j<off+sz then(a.eval y).cells[j-off]? else cs[j]?:=by
    intro j
    rw[lx,aA,ba,bo,Array.length_toList,dL (by omega:off≤cs.size)]
    split
    ·rename_i hj;rw[aV,if_pos hj,bn]
    ·rw[ba,hlen]
     split
     ·rename_i hj1 hj2;rw[if_pos (by omega),bn]
     ·rename_i hj1 hj2;rw[if_neg (by omega),a8,bn];congr 1;omega
   dsimp only at hg'
   rw[aA,ba,bo,dL (by omega:off≤k.cells.length)] at hg'
   rw[jJ]
   split at hg'
   ·rename_i hj
    rw[if_pos hj]
    rw[aV,if_pos hj] at hg'
    obtain⟨v,hv,hrv⟩:=h5 j g' hg'
    refine⟨v,hv,?_⟩
    unfold bZ at hrv⊢
    dsimp only
    rw[hp] at hrv⊢
    exact hrv.flag fun h=>by simp at h;exact h.1
   ·rename_i hj
    rw[if_neg hj]
    rw[ba,hml] at hg'
    split at hg'
    ·rename_i hj2
     rw[if_pos (by omega)]
     obtain⟨g0,hg0,hw0⟩:=hms.2 _ g' hg'
     obtain⟨v,hv,hrv⟩:=hvc _ g0 hg0
     refine⟨v,hv,?_⟩
     unfold bZ
     dsimp only
     rw[hp]
     exact(Kn (hpl g' (aL hg')) (hw0 _ _ _ _ _ hrv)).flag fun h=>by simp at h;exact h.2
    ·rename_i hj2
     rw[if_neg (by omega)]
     rw[a8] at hg'
     have:off+sz+(j-off-sz)=j:=by omega
     rw[this] at hg'
     obtain⟨v,hv,hrv⟩:=h5 j g' hg'
     refine⟨v,hv,?_⟩
     unfold bZ at hrv⊢
     dsimp only
     rw[hp] at hrv⊢
     exact hrv.flag fun h=>by simp at h;exact h.1
end
section
variable {S:dx}
theorem ku (τ:Ty) (l:List (S.D τ)):(List.flatMap (aW S τ) l).length=l.length*S.sz τ:=@gv _ (mP S τ) l
theorem Dw (τ:Ty) (l:List (S.D τ)) (n:Nat):(List.flatMap (aW S τ) l).take (n*S.sz τ)=List.flatMap (aW S τ) (l.take n):=@zJ _ (mP S τ) l n
theorem Dx (τ:Ty) (l:List (S.D τ)) (n:Nat):(List.flatMap (aW S τ) l).drop (n*S.sz τ)=List.flatMap (aW S τ) (l.drop n):=@zK _ (mP S τ) l n
theorem uS (τ:Ty) (l m:List (S.D τ)):List.flatMap (aW S τ) (l++m)=List.flatMap (aW S τ) l++List.flatMap (aW S τ) m:=List.flatMap_append
theorem Ok (τ:Ty){l:List (S.D τ)}{i:Nat}{a b:S.D τ}(hi:l[i]?=some b):List.flatMap (aW S τ) (l.set i a)=(List.flatMap (aW S τ) l).take (i*S.sz τ)++aW S τ a++(List.flatMap (aW S τ) l).drop (i*S.sz τ+S.sz τ):=by
 have hlt:=(aw.1 hi).1
 rw[dE,if_pos hlt,uS,cj,Dw]
 have:i*S.sz τ+S.sz τ=(i+1)*S.sz τ:=by rw[eI,Nat.one_mul]
 rw[this,Dx,aA]
theorem FE (n:Nat){l:List (S.α n)}{i j:Nat}{a b:S.α n}{x:bi S.α}(hi:l[i]?=some b) (hj:j<(S.cells n b).length) (ha:S.cells n a=(S.cells n b).set j x):
  List.flatMap (aW S (.st n)) (l.set i a)=(List.flatMap (aW S (.st n)) l).take (i*S.sz (.st n)+j)++[du S x.τ x.a]++(List.flatMap (aW S (.st n)) l).drop (i*S.sz (.st n)+j+1):=by
 have hlt:=(aw.1 hi).1
 have hlen:(S.cells n b).length=S.sz (.st n):=by
  have:=congrArg List.length (S.oy n b)
  rw[aN] at this
  exact this
 have hsplit:List.flatMap (aW S (.st n)) l=List.flatMap (aW S (.st n)) (l.take i)++((S.cells n b).map (fun x=>du S x.τ x.a)++List.flatMap (aW S (.st n)) (l.drop (i+1))):=by
  have e:l=l.take i++b::l.drop (i+1):=by
   have:=(aw.1 hi).2
   rw[←this,List.getElem_cons_drop,List.take_append_drop]
  conv=>lhs;rw[e]
  rw[uS,cj]
  show _++(aW S (.st n) b++_)=_
  rw[gJ]
 have hset:List.flatMap (aW S (.st n)) (l.set i a)=List.flatMap (aW S (.st n)) (l.take i)++((S.cells n a).map (fun x=>du S x.τ x.a)++List.flatMap (aW S (.st n)) (l.drop (i+1))):=by
  rw[dE,if_pos hlt,uS,cj]
  show _++(aW S (.st n) a++_)=_
  rw[gJ]
 have hpre:(List.flatMap (aW S (.st n)) (l.take i)).length=i*S.sz (.st n):=by
  rw[ku,bo,dL (Nat.le_of_lt hlt)]
 rw[hset,hsplit,ha]
 generalize List.flatMap (aW S (.st n)) (l.take i)=pre at hpre
 generalize List.flatMap (aW S (.st n)) (l.drop (i+1))=post
 generalize S.cells n b=cb at hj
 have e1:(pre++(cb.map (fun x=>du S x.τ x.a)++post)).take (i*S.sz (.st n)+j)=pre++(cb.map (fun x=>du S x.τ x.a)).take j:=by
  rw[List.take_append,hpre,di (by omega),List.take_append]
  have:i*S.sz (.st n)+j-i*S.sz (.st n)=j:=by omega
  rw[this]
  have:j-(cb.map (fun x=>du S x.τ x.a)).length=0:=by rw[aN];omega
  rw[this,List.take_zero,bL]
 have e2:(pre++(cb.map (fun x=>du S x.τ x.a)++post)).drop (i*S.sz (.st n)+j+1)=(cb.map (fun x=>du S x.τ x.a)).drop (j+1)++post:=by
  rw[List.drop_append,hpre,List.drop_of_length_le (by omega),cX,List.drop_append]
  have:i*S.sz (.st n)+j+1-i*S.sz (.st n)=j+1:=by omega
  rw[this]
  have:j+1-(cb.map (fun x=>du S x.τ x.a)).length=0:=by rw[aN];omega
  rw[this,iN]
 rw[e1,e2,qH,dE,if_pos (by rw[aN];exact hj)]
 simp only[aA,bd,cX]
theorem Ov {τ:Ty}(hs:τ.iS=true) (x:S.D τ):∃u,du S τ x=.val u:=by
 cases τ with
 | list _=>cases hs
 | st _=>cases hs
 | cH=>cases hs
 | _=>exact⟨_,rfl⟩
theorem Qt {f:Bool}{τ:Ty}(hs:τ.iS=true){x:S.D τ}{u:Value}(hu:du S τ x=.val u):nZ f τ x=.val u:=by
 rw[←hu]
 cases τ with
 | list _=>cases hs
 | st _=>cases hs
 | cH=>cases hs
 | _=>cases f <;> rfl
theorem Oq {f:Bool}{τ:Ty}(hs:τ.iS=true){x:S.D τ}:dK (TV.ab f τ x:TV S)=[.ab f τ x]:=by
 cases τ with
 | list _=>cases hs
 | st _=>cases hs
 | cH=>cases hs
 | _=>rfl
def EB {A:Type}:(τ':Ty)→S.D τ'→Ty→Nat→Nat→TV S→(S.D τ'→Option A)→Option A
 | .list (.list t),ll,τ,i,j,vy,k=>match t.iS with
  | true=>match decEq τ t with
   | isTrue _=>match oA t vy with
    | some x=>(ll[i]?).bind fun r=>(dA (j<List.length r)).bind fun _=>k (List.set ll i (List.set r j x.2))
    | none=>none
   | isFalse _=>none
  | false=>none
 | _,_,_,_,_,_,_=>none
theorem L8 {A:Type}{r0:A}:∀{τ':Ty}{a:S.D τ'}{τ:Ty}{i j:Nat}{vy:TV S}{k:S.D τ'→Option A},EB τ' a τ i j vy k=some r0→
  ∃(u:Value) (n:Nat) (gs:List G) (a':S.D τ'),S.sz τ=1∧(∀ln,vy.er ln=.val u)∧dK vy=[vy]∧(kG τ' a).2[i]?=some (n,gs)∧j<gs.length∧k a'=some r0∧wg τ' a'=wg τ' a∧
   (kG τ' a').1=(kG τ' a).1∧(kG τ' a').2=(kG τ' a).2.set i (n,gs.set j (.val u))
 | .list (.list t),ll,τ,i,j,vy,k,h=>by
  simp only[EB] at h
  split at h
  ·rename_i hs
   split at h
   ·rename_i e _
    subst e
    split at h
    ·rename_i x hx
     obtain⟨r,h1,h⟩:=bind_some h
     obtain⟨_,h2,h⟩:=bind_some h
     have h2:=cS h2
     obtain⟨f,x⟩:=x
     have hst:τ.fU=false:=by cases τ <;> first | rfl | cases hs
     have hv:∃u,du S τ x=.val u∧(∀ln,vy.er ln=.val u)∧dK vy=[vy]:=by
      unfold oA at hx
      split at hx
      ·split at hx
       ·cases hx
       ·rename_i hns
        split at hx
        ·rename_i b hb
         cases hx
         have:=dU hb
         cases this
         obtain⟨u,hu⟩:=Ov hs x
         exact⟨u,hu,fun _=>Qt hs hu,Oq hs⟩
        ·cases hx
      ·split at hx
       ·cases hs
       ·cases hx
      ·cases hx
     obtain⟨u,hu,hv1,hv2⟩:=hv
     have hsz:S.sz τ=1:=by cases τ <;> first | rfl | cases hs
     have hone:∀l:List (S.D τ),List.flatMap (aW S τ) l=l.map (du S τ):=by
      intro l
      induction l with
      | nil=>rfl
      | cons y r ih=>rw[cj,ih,kN S hst];rfl
     refine⟨u,List.length r,List.flatMap (aW S τ) r,_,hsz,hv1,hv2,by show(List.map _ ll)[i]?=_;rw[ar,h1];rfl,?_,h,?_,rfl,?_⟩
     ·rw[hone,aN];exact h2
     ·show(List.set ll i _).length=ll.length
      exact lH
     ·show List.map _ (List.set ll i _)=List.set (List.map _ ll) i _
      rw[qH]
      congr 1
      show(List.length (List.set r j x),List.flatMap (aW S τ) (List.set r j x))=_
      rw[lH,hone,hone,qH,hu]
    ·cases h
   ·cases h
  ·cases h
 | .list (.int _),_,_,_,_,_,_,h=>by cases h
 | .list .bool,_,_,_,_,_,_,h=>by cases h
 | .list .cH,_,_,_,_,_,_,h=>by cases h
 | .list .str,_,_,_,_,_,_,h=>by cases h
 | .list (.st _),_,_,_,_,_,_,h=>by cases h
 | .int _,_,_,_,_,_,_,h=>by cases h
 | .bool,_,_,_,_,_,_,h=>by cases h
 | .cH,_,_,_,_,_,_,h=>by cases h
 | .str,_,_,_,_,_,_,h=>by cases h
 | .st _,_,_,_,_,_,_,h=>by cases h
def Bp (ki:IntKind) (l:List Int) (i:Nat) (v:Int):List (TV S):=(List.range l.length).map fun m=>.ab true (.int ki) ((l.set i v).getD m 0)
theorem R5 (ki:IntKind) (cs:List (TV S)) (j i:Nat) (v:Int) (hi:i<(k5 ki (cs.drop j)).length) (ln:Nat→Nat):
  (cs.take j++Bp ki (k5 ki (cs.drop j)) i v++cs.drop (j+(k5 ki (cs.drop j)).length)).map (TV.er ln)=(cs.map (TV.er ln)).set (j+i) (.val (.int ki v)):=by
 generalize hl:k5 ki (cs.drop j)=l at hi
 have hg:∀m,m<l.length→∃f,cs[j+m]?=some (.ab f (.int ki) (l.getD m 0)):=fun m hm=>by
  have h1:(k5 ki (cs.drop j))[m]?=some (l.getD m 0):=by rw[hl,dZ,av hm];rfl
  obtain⟨f,h2⟩:=vK h1
  exact⟨f,by rwa[a8] at h2⟩
 have hjl:j+l.length≤cs.length:=by
  obtain⟨f,h⟩:=hg (l.length-1) (by omega)
  have:=(aw.1 h).1
  omega
 have htl:(cs.take j).length=j:=by rw[bo];omega
 have hpl:(Bp (S:=S) ki l i v).length=l.length:=by unfold Bp;simp
 apply lQ
 intro q
 rw[ar,eX,aN]
 by_cases h1:q<j
 ·rw[cd (by rw[ak,htl];omega),cd (by omega),aV,if_pos h1,if_neg (by omega),ar]
 ·by_cases h2:q<j+l.length
  ·obtain⟨m,rfl⟩:∃m,q=j+m:=⟨q-j,by omega⟩
   have hm:m<l.length:=by omega
   rw[cd (by rw[ak,htl,hpl];omega),dj (by omega),htl,show j+m-j=m by omega]
   unfold Bp
   rw[ar,jb hm,b9,b9]
   show some (nZ true (.int ki) _)=_
   rw[uX]
   by_cases h3:m=i
   ·subst h3
    rw[if_pos rfl,if_pos (by omega),dZ,List.getElem?_set_self hm]
    rfl
   ·rw[if_neg (by omega),dZ,List.getElem?_set_ne (fun e=>h3 e.symm),←dZ]
    obtain⟨f,h4⟩:=hg m hm
    rw[ar,h4]
    exact congrArg some (uX f ki _).symm
  ·rw[dj (by rw[ak,htl,hpl];omega),ak,htl,hpl,a8,show j+l.length+(q-(j+l.length))=q by omega,if_neg (by omega),ar]
def P5 (ki:IntKind):TV S→Option Int
 | .ab _ (.int k) a=>match decEq k ki with
  | isTrue _=>some a
  | isFalse _=>none
 | _=>none
theorem Sv {ki:IntKind}{v:TV S}{a:Int}(h:P5 ki v=some a):∃f,v=.ab f (.int ki) a:=by
 unfold P5 at h
 split at h
 ·rename_i f k b
  split at h
  ·rename_i e _
   subst e
   cases h
   exact⟨f,rfl⟩
  ·cases h
 ·cases h
def zc (P:Program) (ok:Nat→Bool) (s:aj S) (t:TypeId) (x y:Operand){A:Type}(k:aj S→Option A):Option A:=
 match cG s y with
 | some vy=>match okV vy&&CL (dK vy) with
  | true=>match decEq (nY P t) (some (dK vy).length) with
   | isTrue _=>match cG s x with
    | some (.loc h off)=>match ok h with
     | true=>match aF s.st h with
      | some (.box e m cs)=>match Nat.ble (off+(dK vy).length) cs.length with
       | true=>k (s.set h (.box e m (cs.take off++dK vy++cs.drop (off+(dK vy).length))))
       | false=>none
      | _=>none
     | false=>none
    | some (.gY h τ i j)=>match ok h with
     | true=>match aF s.st h with
      | some (.arr e m f τ' l)=>match decEq τ' τ with
       | isTrue _=>Dy s x h l i fun y=>match Nat.beq (dK vy).length (S.sz τ') with
        | true=>match j with
         | 0=>match Cs τ' vy with
          | some (fy,a)=>k (s.set h (.arr e m (f&&fy) τ' (l.set i a)))
          | none=>none
         | _=>none
        | false=>match τ',l,y with
         | .st n,l,⟨.st n',b⟩=>match decEq n' n with
          | isTrue hn=>match (S.cn n)[j]? with
           | some τj=>match oA τj vy with
            | some (fy,a)=>match S.put n ((S.cells n' b).set j ⟨τj,a⟩) with
             | some b'=>k (s.set h (.arr e m (f&&fy) (.st n) (l.set i b')))
             | none=>none
            | none=>none
           | none=>none
          | isFalse _=>none
         | _,_,_=>none
       | isFalse _=>none
      | some (.box e m cs)=>match τ with
       | .int ki=>match P5 ki vy with
        | some v=>(dA (i<(k5 ki (cs.drop j)).length)).bind fun _=>k (s.set h (.box e m (cs.take j++Bp ki (k5 ki (cs.drop j)) i v++cs.drop (j+(k5 ki (cs.drop j)).length))))
        | none=>none
       | _=>none
      | _=>none
     | false=>none
    | some (.kp h τ i j)=>match ok h with
     | true=>match aF s.st h with
      | some (.deep e m f (.uR kty) τ' a)=>EB τ' a τ i j vy fun a'=>k (s.set h (.deep e m f (.uR kty) τ' a'))
      | _=>none
     | false=>none
    | _=>none
   | isFalse _=>none
  | false=>none
 | none=>none
theorem KX {τ:Ty}{v:TV S}{f:Bool}{a:S.D τ}(h:oA τ v=some (f,a)) (ln:Nat→Nat):xh (cI (v.er ln)) f [du S τ a]∧dK v=[v]:=by
 have ⟨h1,h2⟩:=Ea h ln
 have hc:dK v=[v]:=by
  cases v with
  | ab f' τ' a'=>
   cases τ' with
   | st n=>simp[oA,Ty.fU] at h
   | _=>rfl
  | agg l=>simp[oA] at h
  | _=>rfl
 refine⟨?_,hc⟩
 have hg:cI (v.er ln)=[v.er ln]:=by
  cases v with
  | ab f' τ' a'=>
   cases τ' with
   | st n=>simp[oA,Ty.fU] at h
   | _=>cases f' <;> rfl
  | val u=>
   unfold oA at h
   split at h
   ·rename_i e;cases e
   ·rename_i e;cases e;rfl
   ·cases h
  | _=>simp[oA] at h
 rw[hg]
 refine⟨rfl,fun j m hm=>?_⟩
 cases j with
 | zero=>cases hm;exact⟨_,rfl,h2⟩
 | succ j=>cases hm
section
variable {P:Program}{W:List Nat}{s:aj S}{ty:TypeId}{pos:String}{after:Array Edge}{guard:Option (Nat×Bool)}{A:Type}{k:aj S→Option A}{r:A}
theorem MU {t:TypeId}{x y:Operand}{hh n i j:Nat}{e:TypeId}{m f fy:Bool}{l:List (S.D (.st n))}{b b2:S.D (.st n)}{vy:TV S}{τj:Ty}{a:S.D τj}(hl:aO s) (hx:cG s x=some (.gY hh (.st n) i j)) (hy:cG s y=some vy) (hok:okV vy=true) (hones:CL (dK vy)=true)
  (hsz:nY P t=some (dK vy).length) (hW:W.contains hh=true) (ho:aF s.st hh=some (.arr e m f (.st n) l)) (hb:l[i]?=some b) (hj:(S.cn n)[j]?=some τj) (ha:oA τj vy=some (fy,a)) (hp:S.put n ((S.cells n b).set j ⟨τj,a⟩)=some b2)
  (h:k (s.set hh (.arr e m (f&&fy) (.st n) (l.set i b2)))=some r):fp P W s ⟨none,.store t x y,ty,pos,after,guard⟩ k r:=by
 have hg:=vD hok s.ln
 have hil:=(aw.1 hb).1
 have htot:(i+1)*S.sz (.st n)≤l.length*S.sz (.st n):=ca _ hil
 rw[eI,Nat.one_mul] at htot
 obtain⟨hcs,ht1⟩:=KX ha s.ln
 have hlen:(S.cells n b).length=S.sz (.st n):=by
  have:=congrArg List.length (S.oy n b)
  rw[aN] at this
  exact this
 have hjl:j<S.sz (.st n):=(aw.1 hj).1
 rw[ht1] at hsz hones hg
 have hcell:=S.lY _ _ _ hp
 have hset:=FE n hb (by rw[hlen];exact hjl) hcell
 obtain⟨e2,_⟩:=uC (o':=.arr e m (f&&fy) (.st n) (l.set i b2)) ho (by show(l.set i b2).length=l.length;exact lH)
 refine .one _ (EF.JD (f:=fy) (ms:=[du S τj a]) (bu hx) (bu hy) (dX (iR ho)) rfl (sn hok s.ln) hg (oY s.ln hones) (by rw[da,aN]) (cU hsz)
  (by show i*S.sz (.st n)+j+1≤(List.flatMap (aW S (.st n)) l).length;rw[ku];omega) hW (hg▸hcs) (fun m hm=>by simp at hm;subst hm;exact w9 (Ea ha s.ln).1 a) rfl rfl) ?_ (hl.set ho _) ⟨rfl,rfl,rfl⟩ h
 rw[e2]
 have:(TO.arr e m (f&&fy) (.st n) (l.set i b2):TO S).er s.ln=⟨e,true,m,f&&fy,S.sz (.st n),(List.flatMap (aW S (.st n)) l).take (i*S.sz (.st n)+j)++[du S τj a]++(List.flatMap (aW S (.st n)) l).drop (i*S.sz (.st n)+j+1),none⟩:=by
  simp only[TO.er]
  rw[hset]
 rw[this]
 exact Gh.refl _
theorem zb {ok:Nat→Bool}(hokW:∀h,ok h=true→W.contains h=true){t:TypeId}{x y:Operand}(hl:aO s) (h:zc P ok s t x y k=some r):fp P W s ⟨none,.store t x y,ty,pos,after,guard⟩ k r:=by
 unfold zc at h
 split at h
 ·rename_i vy hy
  split at h
  ·rename_i hov
   simp only[ag] at hov
   obtain⟨hok,hones⟩:=hov
   have hg:=vD hok s.ln
   split at h
   ·rename_i hsz _
    split at h
    ·rename_i hh off hx
     split at h
     ·rename_i hW
      split at h
      ·rename_i e m cs ho
       split at h
       ·rename_i hb
        have hb:=eH hb
        obtain⟨e1,_⟩:=uC (o':=.box e m (cs.take off++dK vy++cs.drop (off+(dK vy).length))) ho rfl
        refine .one _ (EF.za (bu hx) (bu hy) (dX (iR ho)) rfl (sn hok s.ln) hg (oY s.ln hones) (by rw[da,aN]) (cU hsz) (by show _≤(TV.er.go s.ln cs).length;rw[da,aN];exact hb) (hokW _ hW) rfl) ?_ (hl.set ho _) ⟨rfl,rfl,rfl⟩ h
        rw[e1]
        have:(TO.box e m (cs.take off++dK vy++cs.drop (off+(dK vy).length)):TO S).er s.ln={(TO.box e m cs:TO S).er s.ln with cells:=((TO.box e m cs:TO S).er s.ln).cells.take off++TV.er.go s.ln (dK vy)++((TO.box e m cs:TO S).er s.ln).cells.drop (off+(dK vy).length)}:=by
         simp only[TO.er,da,nA,List.map_take,List.map_drop]
        rw[this]
        exact Gh.refl _
       ·cases h
      ·cases h
     ·cases h
    ·rename_i hh τ i j hx
     split at h
     ·rename_i hW
      split at h
      ·rename_i e m f τ' l ho
       split at h
       ·rename_i e1 _
        subst e1
        obtain⟨b,hb,h2⟩:=B1 hl ⟨j,hx⟩ (iR ho) h
        replace h:=h2
        clear h2
        have hil:=(aw.1 hb).1
        have htot:(i+1)*S.sz τ'≤l.length*S.sz τ':=ca _ hil
        rw[eI,Nat.one_mul] at htot
        split at h
        ·rename_i hc
         have hc:=af hc
         split at h
         ·split at h
          ·rename_i fy a ha
           have hcs:=E2 ha s.ln
           obtain⟨e2,_⟩:=uC (o':=.arr e m (f&&fy) τ' (l.set i a)) ho (by show(l.set i a).length=l.length;simp)
           refine .one _ (EF.JD (f:=fy) (ms:=aW S τ' a) (bu hx) (bu hy) (dX (iR ho)) rfl (sn hok s.ln) hg (oY s.ln hones) (by rw[da,aN]) (cU hsz) (by show _≤(List.flatMap (aW S τ') l).length;rw[ku,hc];omega) (hokW _ hW) (hg▸hcs) (td τ' a) rfl rfl) ?_ (hl.set ho _) ⟨rfl,rfl,rfl⟩ h
           rw[e2]
           have:(TO.arr e m (f&&fy) τ' (l.set i a):TO S).er s.ln=⟨e,true,m,f&&fy,S.sz τ',(List.flatMap (aW S τ') l).take (i*S.sz τ'+0)++aW S τ' a++(List.flatMap (aW S τ') l).drop (i*S.sz τ'+0+(dK vy).length),none⟩:=by
            simp only[TO.er]
            rw[Ok τ' hb,hc,dJ]
           rw[this]
           exact Gh.refl _
          ·cases h
         ·cases h
        ·rename_i hc
         split at h
         ·rename_i n l' n' b' _ _ _
          split at h
          ·rename_i hn _
           subst hn
           split at h
           ·rename_i τj hj
            split at h
            ·rename_i fy a ha
             split at h
             ·rename_i b2 hp
              have he:=‹({τ:=Ty.st n,a:=b}:bi S.α)={τ:=Ty.st n,a:=l'}›
              cases he
              exact MU hl hx hy hok hones hsz (hokW _ hW) ho hb hj ha hp h
             ·cases h
            ·cases h
           ·cases h
          ·cases h
         ·cases h
       ·cases h
      ·rename_i e m cs ho
       split at h
       ·rename_i ki
        split at h
        ·rename_i v hiv
         obtain⟨fv,rfl⟩:=Sv hiv
         ·obtain⟨_,hc,h⟩:=bind_some h
          have hc:=cS hc
          obtain⟨f0,hv0⟩:=vK (av hc)
          rw[a8] at hv0
          have hjl:=(aw.1 hv0).1
          obtain⟨e1,_⟩:=uC (o':=.box e m (cs.take j++Bp ki (k5 ki (cs.drop j)) i v++cs.drop (j+(k5 ki (cs.drop j)).length))) ho rfl
          refine .one _ (EF.za (bu hx) (bu hy) (dX (iR ho)) rfl (sn hok s.ln) hg (oY s.ln hones) (by rw[da,aN]) (cU hsz) (by
           show i*1+j+1≤(TV.er.go s.ln cs).length
           rw[da,aN];omega) (hokW _ hW) rfl) ?_ (hl.set ho _) ⟨rfl,rfl,rfl⟩ h
          rw[e1]
          have:(TO.box e m (cs.take j++Bp ki (k5 ki (cs.drop j)) i v++cs.drop (j+(k5 ki (cs.drop j)).length)):TO S).er s.ln={(TO.box e m cs:TO S).er s.ln with cells:=((TO.box e m cs:TO S).er s.ln).cells.take (i*1+j)++TV.er.go s.ln (dK (.ab fv (.int ki) v:TV S))++((TO.box e m cs:TO S).er s.ln).cells.drop (i*1+j+1)}:=by
           simp only[TO.er,da]
           rw[R5 ki cs j i v hc s.ln,dE,if_pos (by rw[aN];omega),show i*1+j=j+i by omega]
           have:(dK (.ab fv (.int ki) v:TV S)).map (TV.er s.ln)=[.val (.int ki v)]:=congrArg (fun g=>[g]) (uX fv ki v)
           rw[this]
           simp
          rw[this]
          exact Gh.refl _
        ·cases h
       ·cases h
      ·cases h
     ·cases h
    ·rename_i hh τ i j hx
     split at h
     ·rename_i hW
      split at h
      ·rename_i e m f kty τ' a ho
       obtain⟨u,n,gs,a',hsz1,hv1,hv2,h1,h2,h0,h3,h4,h5⟩:=L8 h
       rw[hv2] at hsz
       obtain⟨e1,_⟩:=uC (o':=.deep e m f (.uR kty) τ' a') ho h3
       refine .one _ (EF.ED (f:=true) (g:=.val u) (g':=.val u) (by rw[bu hx];rfl) (by rw[bu hy,hv1]) (dX (iR ho)) rfl h1 (by rw[hsz1,kc];exact h2) rfl (by
        have:=oY s.ln hones
        rw[hv2] at this
        simpa[TV.er.go,hv1] using this) (cU hsz) (hokW _ hW)) ?_ (hl.set ho _) ⟨rfl,rfl,rfl⟩ h0
       rw[e1,hsz1,kc]
       have:(TO.deep e m f (.uR kty) τ' a':TO S).er s.ln=⟨e,true,m,f&&true,1,[],some (.deep (sP e kty (kG τ' a).1 ((kG τ' a).2.set i (n,gs.set j (.val u)))))⟩:=by
        show ao.mk _ _ _ _ _ _ (some (.deep (sP e kty (kG τ' a').1 (kG τ' a').2)))=_
        rw[h4,h5,jQ]
       rw[this]
       exact Gh.refl _
      ·cases h
     ·cases h
    ·cases h
   ·cases h
  ·cases h
 ·cases h
end
end
end Go.DN
/-
 DN,part K:append.
-/
namespace Go.DN
open Go.AM
theorem bJ.gh {P:Program}{W:List Nat}{s t:St}{o:Oper}{T:St→Prop}(h:Gh s t) (he:bJ P W t o T):bJ P W s o T:=by
 refine⟨he.1,fun N cx μ a w hr hd K Q hK=>?_⟩
 obtain⟨μ',h1,h2⟩:=h N cx μ a w hr
 refine he.2 N cx μ' a w h1 hd K Q fun μ2 s' a' w' hr' ht hst=>hK μ2 s' a' w' hr' ht ⟨hst.size,fun b hb hn=>hst.block b hb fun x k c m hx hk hm hi=>?_,fun x k' c m' b hx hk hm hi=>?_⟩
 ·obtain⟨k0,c0,m0,h3,h4,h5⟩:=h2 x k c m b hk hm hi
  exact hn x k0 c0 m0 hx h3 h4 h5
 ·rcases hst.hand x k' c m' b hx hk hm hi with ⟨h0,k,c1,m,h3,h4,h5,h5i⟩ | h3
  ·obtain⟨k0,c0,m0,h6,h7,h8⟩:=h2 h0 k c1 m b h4 h5 h5i
   exact .inl ⟨h0,k0,c0,m0,h3,h6,h7,h8⟩
  ·exact .inr h3
theorem Gh.ny {s:St}{t:Nat}(hd:Nat) (k:ao) (hg:get s.fr t=some (.val (.slice none 0 0))) (hf:fresh s hd=true) (hk:k.cells=[]) (hlp:k.lp=none):
  Gh s {fr:=(t,.aK hd k.sz 0 0)::s.fr,st:=(hd,k)::s.st,df:=s.df}:=fun N cx μ a w h=>by
 obtain⟨h1,h2,h3,h5,h6⟩:=eN hf
 obtain⟨h4,hO⟩:=h.st.wT h1 h3 (kY h6) hk hlp
 refine⟨nC μ hd none,{st:=h4,nd:=(h.nd.mono (Kept.refl _ _) (fun b _=>hO b)).gU (fun g hg y hy=>bq fun e=>by subst e;rw[qa h5 hg] at hy;cases hy),sz:=h.sz,fr:=fun t' g hg'=>?_},Gh.same fun x k1 b m hx hm=>?_⟩
 ·rw[im] at hg'
  cases hb:Nat.beq t t' with
  | true=>
   rw[hb] at hg'
   cases hg'
   have:=af hb
   subst this
   obtain⟨v,hv,hr⟩:=h.fr t _ hg
   cases hr with
   | aC hr=>cases hr;exact⟨_,hv,.eD hd k.sz (cp _ _ _)⟩
  | false=>
   rw[hb] at hg'
   obtain⟨v,hv,hr⟩:=h.fr t' g hg'
   refine⟨v,hv,(hr.mono (Kept.refl _ _) (fun b _=>hO b) (aq _)).gU fun y hy=>bq ?_⟩
   intro e
   subst e
   rw[np h2 hg'] at hy
   cases hy
 ·by_cases e:x=hd
  ·subst e;rw[cp] at hm;cases hm
  ·rw[bq e] at hm
   exact⟨k1,by rw[←aI k _ e];exact hx,hm⟩
section
variable {S:dx}
def Pk (s:aj S) (h:Nat) (τ:Ty):TV S→Option (Bool×List (S.D τ))
 | .ab f (.list τ') m=>match iW (.list τ') (.list τ) m with
  | some m=>some (f,m)
  | none=>none
 | .aK h2 τ2=>match Nat.beq h2 h with
  | true=>none
  | false=>match aF s.bj h2 with
   | some (.arr _ _ f τ' m)=>match decEq τ' τ2 with
    | isTrue _=>match iW (.list τ') (.list τ) m with
     | some m=>some (f,m)
     | none=>none
    | isFalse _=>none
   | _=>none
 | .sub h2 τ2 o n=>match Nat.beq h2 h with
  | true=>none
  | false=>match aF s.bj h2 with
   | some (.arr _ _ f τ' m)=>match decEq τ' τ2 with
    | isTrue _=>match iW (.list τ') (.list τ) m with
     | some m=>some (f,(m.drop o).take n)
     | none=>none
    | isFalse _=>none
   | _=>none
 | .val (.slice none 0 0)=>some (true,[])
 | _=>none
def Pm (s:aj S) (v:TV S){A:Type}(k:Option A):Option A:=
 match v with
 | .sub h2 τ2 o n=>match aF s.bj h2 with
  | some (.arr _ _ _ _ m)=>(dA (o+n≤m.length)).bind fun _=>k
  | _=>none
 | _=>k
theorem QH (b:ByteArray):List.flatMap (aW S (.int .u8)) (aH b)=ux b:=by
 unfold aH ux
 generalize b.data.toList=l
 induction l with
 | nil=>rfl
 | cons x r ih=>rw[aB,cj,ih,aB];rfl
def QW (P:Program) (ok:Nat→Bool) (s:aj S) (d:Nat) (t t' h:Nat) (b:ByteArray){A:Type}(k:aj S→Option A):Option A:=
 match ok h&&(Nat.blt h 1000&&(!(TV.has.go h s.df)&&(!(gV h s.lo)&&!(dr h s.bM)))) with
 | true=>match aF s.st h with
  | some (.arr e m f (.int .u8) l)=>match P.underlying t with
   | some (.slice e')=>match decEq e e' with
    | isTrue _=>match P.underlying t' with
     | some .string=>match (P.info? e).map (fun i=>(i.zero,i.size,i.bytes)) with
      | some (some (Value.int IntKind.u8 0),1,1)=>(dA (List.length l+b.size≤140737488355328)).bind fun _=>k ((s.renew h (.arr e m f (.int .u8) (List.append l (aH b)))).put d (.aK h (.int .u8)))
      | _=>none
     | _=>none
    | isFalse _=>none
   | _=>none
  | _=>none
 | false=>none
def Mw (P:Program) (ok:Nat→Bool) (s:aj S) (d:Nat) (t h:Nat) (τ:Ty) (vy:TV S){A:Type}(k:aj S→Option A):Option A:=
 match ok h&&(Nat.blt h 1000&&(!(TV.has.go h s.df)&&(!(gV h s.lo)&&!(dr h s.bM)))) with
 | true=>match aF s.st h with
  | some (.arr e m f τ' l)=>match decEq τ' τ with
   | isTrue _=>match P.underlying t with
    | some (.slice e')=>match decEq e e' with
     | isTrue _=>match P.info? e with
      | some i=>match i.zero with
       | some z=>match decEq i.size (S.sz τ),decEq z.cells.size (S.sz τ) with
        | isTrue _,isTrue _=>match Pk s h τ' vy with
         | some (fy,ml)=>Pm s vy ((dA (List.length l+List.length ml≤maxLen∧(List.length l+List.length ml)*i.bytes≤140737488355328)).bind fun _=>
          k ((s.renew h (.arr e m (f&&(fy||τ'.iS)) τ' (l++ml))).put d (.aK h τ')))
         | none=>none
        | _,_=>none
       | none=>none
      | none=>none
     | isFalse _=>none
    | _=>none
   | isFalse _=>none
  | _=>none
 | false=>none
theorem Gh.iS {s:St}{h:Nat}{k:ao}{τ:Ty}{l:List (S.D τ)}(hs:τ.iS=true) (hk:az s.st h=some k) (hc:k.cells=List.flatMap (aW S τ) l) (hp:k.pure=true) (hlp:k.lp=none):
  Gh s {fr:=s.fr,st:=cC s.st h {k with fresh:=true},df:=s.df}:=by
 letI:=mP S τ
 haveI:Flat (S.D τ):=⟨fun a g hg=>by
  have hg:g∈aW S τ a:=hg
  cases τ with
  | int _=>exact⟨_,ij.1 hg⟩
  | bool=>exact⟨_,ij.1 hg⟩
  | str=>exact⟨_,ij.1 hg⟩
  | list _=>cases hs
  | st _=>cases hs
  | map=>cases hs
  | cH=>cases hs⟩
 refine Gh.of (fun N cx μ a w hr=>hr.si (l:=l) hk hc hp hlp) fun x k' hx=>?_
 rcases cF hk hx with ⟨rfl,_⟩ | ⟨_,h2⟩
 ·exact⟨k,hk⟩
 ·exact⟨k',h2⟩
theorem K0 {h:Nat}{k k':ao}{r:List (Nat×ao)}:cC ((h,k)::r) h k'=(h,k')::r:=by
 simp[cC]
theorem Gh.UJ {fr:List (Nat×G)}{r:List (Nat×ao)}{df:List G}{h:Nat}{e:TypeId}{m f fy:Bool}{n:Nat}{τ:Ty}{l:List (S.D τ)}:
  Gh ⟨fr,(h,⟨e,true,m,f&&fy,n,List.flatMap (aW S τ) l,none⟩)::r,df⟩ ⟨fr,(h,⟨e,true,m,f&&(fy||τ.iS),n,List.flatMap (aW S τ) l,none⟩)::r,df⟩:=by
 cases hs:τ.iS with
 | false=>rw[k7];exact Gh.refl _
 | true=>
  cases f with
  | false=>exact Gh.refl _
  | true=>
   rw[Bool.or_true,iL]
   have hk:az ((h,(⟨e,true,m,fy,n,List.flatMap (aW S τ) l,none⟩:ao))::r) h=some ⟨e,true,m,fy,n,List.flatMap (aW S τ) l,none⟩:=by simp[az]
   have:=Gh.iS (s:=⟨fr,(h,⟨e,true,m,fy,n,List.flatMap (aW S τ) l,none⟩)::r,df⟩) hs hk rfl rfl rfl
   rw[K0] at this
   exact this
theorem rz {τ' τ:Ty}{m:List (S.D τ')}{m':List (S.D τ)}(h:iW (α:=S.α) (.list τ') (.list τ) m=some m'):∃e:τ'=τ,e▸m=m':=by
 have:=dU h
 cases this
 exact⟨rfl,rfl⟩
theorem RT {s:aj S}{h:Nat}{τ:Ty}{v:TV S}{f:Bool}{m:List (S.D τ)}{A:Type}{k:Option A}{r:A}(ht:Pk s h τ v=some (f,m)) (hc:Pm s v k=some r):
  wo s.er.st (S.sz τ) (v.er s.ln)=some (List.flatMap (aW S τ) m,m.length,f)∧v.has h=false∧k=some r:=by
 unfold Pk at ht
 split at ht
 ·rename_i f' τ' m'
  split at ht
  ·rename_i m2 hm
   cases ht
   obtain⟨e,hm⟩:=rz hm
   subst e
   cases hm
   refine⟨?_,rfl,hc⟩
   rw[ur]
   cases f <;> rfl
  ·cases ht
 ·rename_i h2 τ2
  split at ht
  ·cases ht
  ·rename_i hb
   split at ht
   ·rename_i e mm f' τ' m' ho
    split at ht
    ·rename_i e' _
     subst e'
     split at ht
     ·rename_i m2 hm
      cases ht
      obtain⟨e,hm⟩:=rz hm
      subst e
      cases hm
      refine⟨?_,hb,hc⟩
      show wo s.er.st (S.sz τ') (.aK h2 (S.sz τ') 0 (s.ln h2))=_
      simp only[wo,dX ho,TO.er]
      rw[oG ho,iN,di (by rw[ku];exact aq _)]
     ·cases ht
    ·cases ht
   ·cases ht
 ·rename_i h2 τ2 o n
  split at ht
  ·cases ht
  ·rename_i hb
   split at ht
   ·rename_i e mm f' τ' m' ho
    split at ht
    ·rename_i e' _
     subst e'
     split at ht
     ·rename_i m2 hm
      cases ht
      obtain⟨e,hm⟩:=rz hm
      subst e
      cases hm
      unfold Pm at hc
      dsimp only at hc
      rw[ho] at hc
      obtain⟨u,h1,h2'⟩:=bind_some hc
      have h1:=cS h1
      refine⟨?_,hb,h2'⟩
      show wo s.er.st (S.sz τ') (.aK h2 (S.sz τ') (o*S.sz τ') n)=_
      simp only[wo,dX ho,TO.er]
      rw[Dx,Dw,bo,cK,dL (by omega)]
     ·cases ht
    ·cases ht
   ·cases ht
 ·cases ht
  exact⟨rfl,rfl,hc⟩
 ·cases ht
section
variable {P:Program}{W:List Nat}{s:aj S}{ty:TypeId}{pos:String}{after:Array Edge}{guard:Option (Nat×Bool)}{A:Type}{k:aj S→Option A}{r:A}
theorem JO {s:aj S}{h:Nat}{e:TypeId}{m f:Bool}{τ:Ty}{l:List (S.D τ)}:(TV.aK h τ:TV S).er (s.renew h (.arr e m f τ l)).ln=.aK h (S.sz τ) 0 l.length:=by
 show G.aK _ _ _ ((s.renew h _).ln h)=_
 rw[show(s.renew h (.arr e m f τ l)).ln h=_ from uO _ _]
 rfl
theorem KI {ok:Nat→Bool}(hokW:∀h,ok h=true→W.contains h=true){d t h:Nat}{τ:Ty}{x y:Operand}{vy:TV S}(hl:aO s) (hx:cG s x=some (.aK h τ)) (hy:cG s y=some vy) (hk:Mw P ok s d t h τ vy k=some r):
  fp P W s ⟨some d,.call ⟨.builtin .append,#[x,y],#[t,t]⟩,ty,pos,after,guard⟩ k r:=by
 unfold Mw at hk
 split at hk
 ·rename_i hc
  simp only[ag,a7] at hc
  obtain⟨hW,hpn,hdf,hlo,hls⟩:=hc
  split at hk
  ·rename_i e m f τ' l ho
   split at hk
   ·rename_i e1 _
    subst e1
    split at hk
    ·rename_i e' hu
     split at hk
     ·rename_i e2 _
      subst e2
      split at hk
      ·rename_i i hi
       split at hk
       ·rename_i z hz
        split at hk
        ·rename_i hs hzs _ _
         split at hk
         ·rename_i fy ml hsr
          obtain⟨g1,g2,hk⟩:=RT hsr hk
          obtain⟨u,hck,hk⟩:=bind_some hk
          obtain⟨c1,c2⟩:=cS hck
          letI:=mP S τ'
          have ho':=dX (iR ho)
          have hpin:pinned h=false:=kY hpn
          have hdf':po h s.er.df=true:=by
           show po h (TV.er.go s.ln s.df)=true
           rw[AH,hdf];rfl
          have hinfo:(P.info? e).map (fun i=>(i.zero,i.size,i.bytes))=some (some z,S.sz τ',i.bytes):=by rw[hi,b9,hz,hs]
          have hx':ev s.er x=some (.aK h (S.sz τ') 0 l.length):=by rw[bu hx];show some (G.aK _ _ _ (s.ln h))=_;rw[oG (iR ho)]
          obtain⟨e1,_,_⟩:=Bo (.arr e m (f&&(fy||τ'.iS)) τ' (l++ml)) rfl hdf hlo hls
          refine .one _ (ET.append (α:=S.D τ') (m:=ml) hx' (bu hy) ho' rfl rfl rfl rfl g1 (by rw[wX];exact g2) hu hinfo hzs c1 c2 (hokW h hW) rfl hpin hdf') ?_ ((hl.renew h _ hlo hls).put _ _) ⟨rfl,rfl,rfl⟩ hk
          rw[iT,e1,JO]
          exact Gh.UJ (h:=h) (e:=e) (m:=m) (f:=f) (fy:=fy) (τ:=τ') (l:=l++ml) (n:=S.sz τ')
         ·cases hk
        ·cases hk
       ·cases hk
      ·cases hk
     ·cases hk
    ·cases hk
   ·cases hk
  ·cases hk
 ·cases hk
theorem S7 {ok:Nat→Bool}(hokW:∀h,ok h=true→W.contains h=true){d t t' h:Nat}{x y:Operand}{b:ByteArray}{f:Bool}(hl:aO s) (hx:cG s x=some (.aK h (.int .u8))) (hy:cG s y=some (.ab f .str b)) (hk:QW P ok s d t t' h b k=some r):
  fp P W s ⟨some d,.call ⟨.builtin .append,#[x,y],#[t,t']⟩,ty,pos,after,guard⟩ k r:=by
 unfold QW at hk
 split at hk
 ·rename_i hc
  simp only[ag,a7] at hc
  obtain⟨hW,hpn,hdf,hlo,hls⟩:=hc
  split at hk
  ·rename_i e m f2 l ho
   split at hk
   ·rename_i e' hu
    split at hk
    ·rename_i e2 _
     subst e2
     split at hk
     ·rename_i hu'
      split at hk
      ·rename_i hi
       obtain⟨u,hck,hk⟩:=bind_some hk
       have c1:=cS hck
       have ho':=dX (iR ho)
       have hpin:pinned h=false:=kY hpn
       have hdf':po h s.er.df=true:=by
        show po h (TV.er.go s.ln s.df)=true
        rw[AH,hdf];rfl
       have hx':ev s.er x=some (.aK h 1 0 (List.length l)):=by rw[bu hx];show some (G.aK _ _ _ (s.ln h))=_;rw[oG (iR ho)];rfl
       obtain⟨e1,_,_⟩:=Bo (.arr e m f2 (.int .u8) (List.append l (aH b))) rfl hdf hlo hls
       refine .one _ (EF.OM hx' (Ds hy) ho' rfl rfl rfl (by show(List.flatMap (aW S (.int .u8)) l).length=_;rw[ku];exact kc _) hu hu' hi c1 (hokW h hW) rfl hpin hdf') ?_ ((hl.renew h _ hlo hls).put _ _) ⟨rfl,rfl,rfl⟩ hk
       rw[iT,e1,JO]
       have e3:List.flatMap (aW S (.int .u8)) (List.append l (aH b))=List.flatMap (aW S (.int .u8)) l++ux b:=by rw[←QH (S:=S) b];exact List.flatMap_append
       have e4:List.length (List.append l (aH b))=List.length l+b.size:=by rw[←cu b];exact ak
       show Gh _ {fr:=(d,.aK h 1 0 (List.length (List.append l (aH b))))::mM h s.er.fr,st:=(h,⟨e,true,m,f2,1,List.flatMap (aW S (.int .u8)) (List.append l (aH b)),none⟩)::ft h s.er.st,df:=s.er.df}
       rw[e3,e4]
       exact Gh.refl _
      ·cases hk
     ·cases hk
    ·cases hk
   ·cases hk
  ·cases hk
 ·cases hk
def aj.ny (s:aj S) (hd t:Nat) (e:TypeId) (τ:Ty):aj S:={s.add hd (.arr e true true τ []) with fr:=(t,.aK hd τ)::s.fr,last:=Hp t s.last}
theorem Ci {hd t:Nat}{e:TypeId}{τ:Ty}(hl:aO s) (hx:bp s.bV t=some (.val (.slice none 0 0))) (hf:s.free hd=true):Gh s.er (s.ny hd t e τ).er∧aO (s.ny hd t e τ):=by
 obtain⟨e1,_⟩:=u9 hf (.arr e true true τ ([]:List (S.D τ))) rfl
 have h1:=Gh.ny (s:=s.er) (t:=t) hd ⟨e,true,true,true,S.sz τ,[],none⟩ (fG hx) (jX hf) rfl rfl
 have e2:(s.ny hd t e τ).er=((s.add hd (.arr e true true τ [])).put t (.aK hd τ)).er:=rfl
 refine⟨?_,(hl.add (.arr e true true τ []) hf).put t (.aK hd τ)⟩
 rw[e2,iT,e1,HI]
 exact h1
def QX (P:Program) (ok:Nat→Bool) (s:aj S) (d:Nat) (c:Call){A:Type}(k:aj S→Option A):Option A:=
 match c.args.toList,c.argTypes.toList with
 | [x,y],[t,t']=>match decEq t t' with
  | isTrue _=>match cG s x with
   | some (.aK h τ)=>match cG s y with
    | some vy=>Mw P ok s d t h τ vy k
    | none=>none
   | some (.val (.slice none 0 0))=>match x with
    | .tmp tx=>match s.free (s.cV d) with
     | true=>match P.underlying t with
      | some (.slice e)=>match S.Q6 e with
       | some τ=>match cG (s.ny (s.cV d) tx e τ) y with
        | some vy=>match cG (s.ny (s.cV d) tx e τ) x with
         | some (.aK h τ2)=>Mw P ok (s.ny (s.cV d) tx e τ) d t h τ2 vy k
         | _=>none
        | none=>none
       | none=>none
      | _=>none
     | false=>none
    | _=>none
   | _=>none
  | isFalse _=>match cG s x with
   | some (.aK h (.int .u8))=>match cG s y with
    | some (.ab _ .str b)=>QW P ok s d t t' h b k
    | _=>none
   | _=>none
 | _,_=>none
theorem fp.gh {s t:aj S}{o:Oper}(hg:Gh s.er t.er) (hkp:bA s t) (h:fp P W t o k r):fp P W s o k r:=by
 obtain⟨T,h1,h2⟩:=h
 exact⟨T,bJ.gh hg h1,fun s' ht=>let ⟨u,a1,a2,a3,a4⟩:=h2 s' ht;⟨u,a1,a2,hkp.trans a3,a4⟩⟩
theorem S8 {ok:Nat→Bool}(hokW:∀h,ok h=true→W.contains h=true){d:Nat}{args:Array Operand}{ts:Array TypeId}(hl:aO s) (h:QX P ok s d ⟨.builtin .append,args,ts⟩ k=some r):
  fp P W s ⟨some d,.call ⟨.builtin .append,args,ts⟩,ty,pos,after,guard⟩ k r:=by
 unfold QX at h
 dsimp only at h
 split at h
 ·rename_i h1 h2
  have h1:=Ag h1
  have h2:=Ag h2
  subst h1;subst h2
  split at h
  ·rename_i e _
   subst e
   split at h
   ·rename_i hx
    split at h
    ·rename_i hy
     exact KI hokW hl hx hy h
    ·cases h
   ·rename_i hx
    split at h
    ·rename_i tx
     split at h
     ·rename_i hf
      split at h
      ·split at h
       ·split at h
        ·rename_i hy
         split at h
         ·rename_i hx'
          exact fp.gh (Ci hl hx hf).1 ⟨rfl,rfl,rfl⟩ (KI hokW (Ci hl hx hf).2 hx' hy h)
         ·cases h
        ·cases h
       ·cases h
      ·cases h
     ·cases h
    ·cases h
   ·cases h
  ·split at h
   ·rename_i hx
    split at h
    ·rename_i hy
     exact S7 hokW hl hx hy h
    ·cases h
   ·cases h
 ·cases h
theorem EF.Rm {s:St}{d:Nat}{op:BinOp}{t t' e:TypeId}{x:Operand}{g:G}{n:Int}(hx:ev s x=some g) (hn:LC g=some n) (ht:P.underlying t=some (.slice e)) (hop:op=.eql∨op=.neq):
  bJ P W s ⟨some d,.binOp op t x (.const (.slice none 0 0)) t',ty,pos,after,guard⟩ (fun s'=>∃b:Bool,(b=true→n=0)∧s'=s.put d (.val (.bool (match op with | .eql=>b | _=>!b)))):=by
 refine⟨fun _ h=>(by cases h),?_⟩
 intro N cx μ a w hr hd K Q hK
 obtain⟨b,m,c,e1,e2,e3⟩:=aM.Pn (hr.ev hx) hn
 have hst:Step W s.st μ s.st μ w w:=⟨aq _,fun _ _ _=>rfl,fun h k' c m' b hw h1 h2 hi=>.inl ⟨h,k',c,m',hw,h1,h2,hi⟩⟩
 have hb:b.isNone=true→n=0:=fun h=>e3 (Option.isNone_iff_eq_none.1 h)
 unfold Oper.wp
 rcases hop with rfl | rfl
 ·have hrun:(execOp a.eval ⟨some d,.binOp .eql t x (.const (.slice none 0 0)) t',ty,pos,after,guard⟩).run P w=.ok (.value (.bool b.isNone)) w:=by
   have:=M2 (P:=P) ht x (.const (.slice none 0 0)) b m c w
   simp only[execOp,e1,show a.eval (.const (.slice none 0 0))=.slice none 0 0 from rfl,Sem.run_bind,this,Result.andThen_ok,Sem.run_pure]
  rw[hrun]
  exact hK μ _ _ w (hr.put (d:=d) (hd d rfl) (.aC (.val _))) ⟨b.isNone,hb,rfl⟩ hst
 ·have hrun:(execOp a.eval ⟨some d,.binOp .neq t x (.const (.slice none 0 0)) t',ty,pos,after,guard⟩).run P w=.ok (.value (.bool (!b.isNone))) w:=by
   have:=M1 (P:=P) ht x (.const (.slice none 0 0)) b m c w
   simp only[execOp,e1,show a.eval (.const (.slice none 0 0))=.slice none 0 0 from rfl,Sem.run_bind,this,Result.andThen_ok,Sem.run_pure]
  rw[hrun]
  exact hK μ _ _ w (hr.put (d:=d) (hd d rfl) (.aC (.val _))) ⟨b.isNone,hb,rfl⟩ hst
noncomputable def PD (P:Program) (s:aj S) (d:Nat) (op:BinOp) (t:TypeId) (x y:Operand){A:Type}(k:aj S→Option A):Option A:=
 match y with
 | .const (.slice none 0 0)=>match P.underlying t with
  | some (.slice _)=>match cG s x with
   | some v=>match LB s v with
    | some n=>match op with
     | .eql=>Li n (k (s.put d (.ab true .bool true))) (k (s.put d (.ab true .bool false)))
     | .neq=>Li n (k (s.put d (.ab true .bool false))) (k (s.put d (.ab true .bool true)))
     | _=>none
    | none=>none
   | none=>none
  | _=>none
 | _=>none
theorem Si {d:Nat}{op:BinOp}{t t':TypeId}{x y:Operand}(hl:aO s) (h:PD P s d op t x y k=some r):fp P W s ⟨some d,.binOp op t x y t',ty,pos,after,guard⟩ k r:=by
 unfold PD at h
 split at h
 ·split at h
  ·rename_i hu
   split at h
   ·rename_i hx
    split at h
    ·rename_i hn
     have hb:∀b:Bool,(s.put d (.ab true .bool b)).er=s.er.put d (.val (.bool b)):=fun b=>by rw[iT];exact congrArg _ (gZ true b)
     split at h
     ·obtain⟨h1,h2⟩:=Fe h
      refine⟨_,EF.Rm (bu hx) (Eu hn) hu (.inl rfl),fun s' ⟨b,hb0,e⟩=>?_⟩
      subst e
      refine⟨s.put d (.ab true .bool b),by rw[hb];exact Gh.refl _,hl.put _ _,⟨rfl,rfl,rfl⟩,?_⟩
      cases b with
      | true=>exact h1 (hb0 rfl)
      | false=>exact h2
     ·obtain⟨h1,h2⟩:=Fe h
      refine⟨_,EF.Rm (bu hx) (Eu hn) hu (.inr rfl),fun s' ⟨b,hb0,e⟩=>?_⟩
      subst e
      refine⟨s.put d (.ab true .bool (!b)),by rw[hb];exact Gh.refl _,hl.put _ _,⟨rfl,rfl,rfl⟩,?_⟩
      cases b with
      | true=>exact h1 (hb0 rfl)
      | false=>exact h2
     ·cases h
    ·cases h
   ·cases h
  ·cases h
 ·cases h
end
end
end Go.DN
/-
 DN,part Kb:a state told in another way:less of it,al as plain data,blocks that are written no more.
-/
namespace Go.DN
open Go.AM
def CV (st st':List (Nat×ao)) (g g':G):Prop:=∀(cx:Cx) (μ:Mu) (w:World) (v:Value),bP cx μ st w→(∀b,b<w.heap.size→¬cx.O st μ b→¬cx.O st' μ b)→
 aM (cx.O st μ) cx.base w μ g v→aM (cx.O st' μ) cx.base w μ g' v
theorem CV.rw {st st':List (Nat×ao)}{g g':G}(h:RW g g'):CV st st' g g':=fun cx μ w v _ hO hv=>h _ _ _ _ _ (hv.mono (Kept.refl _ _) hO (aq _))
theorem CV.refl (st st':List (Nat×ao)) (g:G):CV st st' g g:=CV.rw (RW.refl g)
theorem CV.any (st st':List (Nat×ao)) (g:G):CV st st' g .any:=fun _ _ _ v _ _ _=>.aC (.any v)
theorem CV.fz {st st':List (Nat×ao)}{g g':G}(hd:∀x k,az st' x=some k→∃k0,az st x=some k0) (h:iI st st' g=some g'):CV st st' g g':=fun cx μ w v hst _ hv=>yh hst hd hv h
def O0 (st st':List (Nat×ao)) (gs gs':List G):Prop:=gs'.length=gs.length∧∀(j:Nat) (g':G),gs'[j]?=some g'→∃g,gs[j]?=some g∧CV st st' g g'
theorem CV.agg {st st':List (Nat×ao)}{gs gs':List G}(h:O0 st st' gs gs'):CV st st' (.agg gs) (.agg gs'):=fun cx μ w v hst hO hv=>by
 cases hv with
 | aC hv=>cases hv with
  | agg _ us h1 h2=>exact .agg _ us (h1.trans h.1.symm) fun j g' v hg' hv=>(by
    obtain⟨g,hg,hw⟩:=h.2 j g' hg'
    exact hw cx μ w _ hst hO (.aC (h2 j g v hg hv)))
 | agg _ us h1 h2=>exact .agg _ us (h1.trans h.1.symm) fun j g' v hg' hv=>(by
   obtain⟨g,hg,hw⟩:=h.2 j g' hg'
   exact hw cx μ w _ hst hO (h2 j g v hg hv))
theorem CV.aU {st st':List (Nat×ao)}{gs gs':List G}(h:O0 st st' gs gs'):CV st st' (.aU gs) (.aU gs'):=fun cx μ w v hst hO hv=>by
 cases hv with
 | aC hv=>cases hv
 | aU _ us h1 h2=>exact .aU _ us (h1.trans h.1.symm) fun j g' v hg' hv=>(by
   obtain⟨g,hg,hw⟩:=h.2 j g' hg'
   exact hw cx μ w _ hst hO (h2 j g v hg hv))
theorem CV.aP {st st':List (Nat×ao)}{f:FuncId}{gs gs':List G}(h:O0 st st' gs gs'):CV st st' (.aP f gs) (.aP f gs'):=fun cx μ w v hst hO hv=>by
 cases hv with
 | aC hv=>cases hv
 | aP _ _ us h1 h2=>exact .aP f _ us (h1.trans h.1.symm) fun j g' v hg' hv=>(by
   obtain⟨g,hg,hw⟩:=h.2 j g' hg'
   exact hw cx μ w _ hst hO (h2 j g v hg hv))
structure we (st st':List (Nat×ao)) (k k':ao):Prop where
 bw:k'.bw=k.bw
 dn:k'.dn=true→k.dn=true
 sz:k'.sz=k.sz
 lp:k'.lp=k.lp
 pure:k'.pure=k.pure
 len:k'.cells.length=k.cells.length
 cells:(k.pure=true∧k'.cells=k.cells∧(k'.fresh=true→k.fresh=true∨(k.lp=none∧∀g,g∈k.cells→∃v,g=.val v)∨∃d,k.lp=some (.deep d)∧∀(O O':Nat→Prop) (w:World) (b:Nat) (m:Mm),d.φ O w b m→d.φ O' w b m))∨(k.pure=false∧∀(j:Nat) (g':G),k'.cells[j]?=some g'→∃g,k.cells[j]?=some g∧CV st st' g g')
theorem we.refl (st st':List (Nat×ao)) (k:ao):we st st' k k:=by
 refine⟨rfl,id,rfl,rfl,rfl,rfl,?_⟩
 cases h:k.pure with
 | true=>exact .inl ⟨rfl,rfl,.inl⟩
 | false=>exact .inr ⟨rfl,fun j g hg=>⟨g,hg,CV.refl _ _ g⟩⟩
theorem Gh.gen {s t:St}(hfr:∀d g',get t.fr d=some g'→∃g,get s.fr d=some g∧CV s.st t.st g g') (hst:∀x k',az t.st x=some k'→∃k,az s.st x=some k∧we s.st t.st k k') (hdf:s.df=t.df):Gh s t:=by
 have hdom:∀x k,az t.st x=some k→∃k0,az s.st x=some k0:=fun x k hk=>let ⟨k0,h1,_⟩:=hst x k hk;⟨k0,h1⟩
 refine Gh.of (fun N cx μ a w h=>?_) hdom
 have hO:∀b,b<w.heap.size→¬cx.O s.st μ b→¬cx.O t.st μ b:=fun b _ hn ho=>hn (ho.imp id fun ⟨x,k,c,m,h1,h2,hi⟩=>let ⟨k0,h3⟩:=hdom x k h1;⟨x,k0,c,m,h3,h2,hi⟩)
 have hE:∀{g g':G}{v:Value},CV s.st t.st g g'→aM (cx.O s.st μ) cx.base w μ g v→aM (cx.O t.st μ) cx.base w μ g' v:=by
  intro g g' v hz hv
  exact hz cx μ w v h.st hO hv
 refine {st:={dB:=?_,cR:=?_,bY:=?_,ew:=?_,ed:=h.st.ed,hb:=h.st.hb,os:=h.st.os,tape:=h.st.tape,output:=h.st.output,gl:=h.st.gl,cW:=h.st.cW},nd:=hdf▸h.nd.mono (Kept.refl _ _) hO,sz:=h.sz,fr:=fun d g' hg'=>?_}
 ·intro x k' hk'
  obtain⟨k,hk,c⟩:=hst x k' hk'
  have hb:=h.st.dB x k hk
  cases hm:μ x with
  | none=>
   rw[hm] at hb
   exact hb.wR (by rw[hb.1];exact aT (by rw[c.len,hb.1];rfl)) c.lp c.pure
  | some bm=>
   obtain⟨b,m⟩:=bm
   rw[hm] at hb
   cases hlp:k.lp with
   | none=>
    obtain⟨cs,h1,h2,h3,h4,h5,h6⟩:=hb.cells hlp
    refine .mk (c.lp.trans hlp) (hb.l9 hlp) ⟨cs,by rw[c.bw];exact h1,h2,by rw[c.len];exact h3,fun hmn=>h4 (c.dn hmn),by rw[c.sz];exact h5,fun j g' hg'=>?_⟩
    rcases c.cells with ⟨hp,e,hf⟩ | ⟨hp,e⟩
    ·rw[e] at hg'
     obtain⟨v,hv,hr⟩:=h6 j g' hg'
     refine⟨v,hv,?_⟩
     have:=hr.mono (Kept.refl _ _) hO
     unfold bZ at this⊢
     rw[c.pure]
     rw[hp] at this⊢
     by_cases hk2:k'.fresh=true→k.fresh=true
     ·exact this.flag hk2
     ·rcases Classical.em (k'.fresh=true) with hq | hq
      ·rcases hf hq with hf | ⟨_,hf⟩ | ⟨d,hd,_⟩
       ·exact this.flag fun _=>hf
       rotate_left
       ·rw[hlp] at hd;cases hd
       ·obtain⟨u,rfl⟩:=hf g' (aL hg')
        revert this
        show bB _ w (.val u) v→bB _ w (.val u) v
        intro this
        cases this
        exact .val _
      ·exact absurd (fun h=>absurd h hq) hk2
    ·obtain⟨g,hg,hz⟩:=e j g' hg'
     obtain⟨v,hv,hr⟩:=h6 j g hg
     refine⟨v,hv,?_⟩
     unfold bZ at hr⊢
     rw[c.pure]
     simp only[hp] at hr⊢
     exact hE hz hr
   | some kd=>
    cases kd with
    | loop lp=>
     obtain⟨D,vs,h1,h2,h3,h4,h5⟩:=(aS.loop hlp).1 hb
     refine(aS.loop (c.lp.trans hlp)).2 ⟨D,vs,h1,h2,(by cases hq:k'.dn with | false=>rfl | true=>rw[c.dn hq] at h3;cases h3),c.pure.trans h4,fun j t g' ht hg'=>?_⟩
     rcases c.cells with ⟨hp,_⟩ | ⟨_,e⟩
     ·rw[h4] at hp;cases hp
     ·obtain⟨g,hg,hz⟩:=e j g' hg'
      obtain⟨v,hv,hr⟩:=h5 j t g ht hg
      exact⟨v,hv,hE hz hr⟩
    | deep d=>
     obtain⟨h1,h2,h3,h4⟩:=((aS.deep hlp).1 hb).mono (fun _ _=>rfl) (Kept.refl _ _) hO
     refine(aS.deep (c.lp.trans hlp)).2 ⟨?_,c.pure.trans h2,aT (by rw[c.len,h3];rfl),fun hmn=>h4 (c.dn hmn)⟩
     rcases c.cells with ⟨_,_,hf⟩ | ⟨hp,_⟩
     ·cases hkf:k.fresh with
      | true=>
       rw[hkf] at h1
       cases k'.fresh with
       | true=>exact h1
       | false=>exact d.mono h1 (Kept.refl _ _) (fun x _ hn ho=>hn (.inr ho)) (fun _ _=>rfl)
      | false=>
       rw[hkf] at h1
       cases hq:k'.fresh with
       | false=>exact h1
       | true=>
        rcases hf hq with hf | ⟨hf,_⟩ | ⟨d',hd,hany⟩
        ·rw[hkf] at hf;cases hf
        ·rw[hlp] at hf;cases hf
        ·rw[hlp] at hd;cases hd;exact hany _ _ _ _ _ h1
     ·rw[h2] at hp;cases hp
 ·intro x x' k1 k2 y b m b' m' h1 h2
  obtain⟨k1',h1'⟩:=hdom x k1 h1
  obtain⟨k2',h2'⟩:=hdom x' k2 h2
  exact h.st.cR x x' k1' k2' y b m b' m' h1' h2'
 ·intro x k1 b m y h1 h2 hi
  obtain⟨k,hk,c⟩:=hst x k1 h1
  obtain⟨a1,a2,a3,a4⟩:=h.st.bY x k b m y hk h2 hi
  exact⟨a1,a2,a3,fun hm=>a4 (c.dn hm)⟩
 ·intro x k1 h1 h2
  obtain⟨k1',h1'⟩:=hdom x k1 h1
  exact h.st.ew x k1' h1' h2
 ·obtain⟨g,hg,hz⟩:=hfr d g' hg'
  obtain⟨v,hv,hr⟩:=h.fr d g hg
  exact⟨v,hv,hE hz hr⟩
section
variable {S:dx}
def TV.fz (h:Nat) (f:Bool) (τ:Ty) (l:List (S.D τ)):TV S→TV S
 | .aK h' τ'=>match Nat.beq h' h with
  | true=>match decEq τ' τ with
   | isTrue _=>.ab f (.list τ) l
   | isFalse _=>.any
  | false=>.aK h' τ'
 | .agg vs=>.agg (go h f τ l vs)
 | .aU vs=>.aU (go h f τ l vs)
 | .aP g vs=>.aP g (go h f τ l vs)
 | .sub h' τ' o n=>match Nat.beq h' h with
  | true=>.any
  | false=>.sub h' τ' o n
 | .gY h' τ' i j=>match Nat.beq h' h with
  | true=>.any
  | false=>.gY h' τ' i j
 | .loc h' o=>match Nat.beq h' h with
  | true=>.any
  | false=>.loc h' o
 | .cA h'=>match Nat.beq h' h with
  | true=>.any
  | false=>.cA h'
 | .mp h'=>match Nat.beq h' h with
  | true=>.any
  | false=>.mp h'
 | v=>v
where go (h:Nat) (f:Bool) (τ:Ty) (l:List (S.D τ)):List (TV S)→List (TV S)
 | []=>[]
 | v::r=>v.fz h f τ l::go h f τ l r
def Kl (h:Nat) (f:Bool) (τ:Ty) (l:List (S.D τ)):List (Nat×TV S)→List (Nat×TV S)
 | []=>[]
 | (t,v)::r=>(t,v.fz h f τ l)::Kl h f τ l r
def TO.fz (h:Nat) (f:Bool) (τ:Ty) (l:List (S.D τ)):TO S→TO S
 | .box e m cs=>.box e m (TV.fz.go h f τ l cs)
 | .lp p n cs=>.lp p n (TV.fz.go h f τ l cs)
 | o=>o
def yO (h:Nat) (f:Bool) (τ:Ty) (l:List (S.D τ)):List (Nat×TO S)→List (Nat×TO S)
 | []=>[]
 | (t,o)::r=>match Nat.beq t h with
  | true=>yO h f τ l r
  | false=>(t,o.fz h f τ l)::yO h f τ l r
def AD (s:aj S) (h:Nat):Option (aj S):=
 match aF s.st h with
 | some (.arr e true f τ l)=>match !(gV h s.lo)&&(!(dr h s.bM)&&(!(TV.has.go h s.df)&&(match aF s.bM h with | none=>true | some _=>false))) with
  | true=>some {s with fr:=Kl h f τ l s.fr,st:=yO h f τ l s.st,last:=AS h s.last}
  | false=>none
 | _=>none
theorem Bz {h:Nat}{f:Bool}{τ:Ty}{l:List (S.D τ)}:∀{st:List (Nat×TO S)}{x:Nat}{o:TO S},aF (yO h f τ l st) x=some o→x≠h∧∃o0,aF st x=some o0∧o=o0.fz h f τ l
 | [],_,_,e=>by cases e
 | (t,o0)::r,x,o,e=>by
  simp only[yO] at e
  cases hb:Nat.beq t h with
  | true=>
   rw[hb] at e
   obtain⟨h1,o1,h2,h3⟩:=Bz e
   refine⟨h1,o1,?_,h3⟩
   have:=af hb
   subst this
   rw[kB _ _ h1];exact h2
  | false=>
   rw[hb] at e
   simp only[aF] at e⊢
   cases hx:Nat.beq t x with
   | true=>
    rw[hx] at e
    cases e
    refine⟨?_,o0,rfl,rfl⟩
    intro e
    subst e
    have:=af hx
    subst this
    rw[aQ] at hb;cases hb
   | false=>rw[hx] at e;exact Bz e
theorem F1 {h:Nat}{f:Bool}{τ:Ty}{l:List (S.D τ)}:∀(st:List (Nat×TO S)),aF (yO h f τ l st) h=none:=by
 intro st
 cases e:aF (yO h f τ l st) h with
 | none=>rfl
 | some o=>exact absurd rfl (Bz e).1
theorem T8 (h:Nat) (f:Bool) (τ:Ty) (l:List (S.D τ)) (o:TO S):(o.fz h f τ l).len=o.len:=by cases o <;> rfl
theorem wk {h:Nat}{f:Bool}{τ:Ty}{l:List (S.D τ)}{x:Nat}(hx:x≠h):∀{st:List (Nat×TO S)},aF (yO h f τ l st) x=(aF st x).map (TO.fz h f τ l)
 | []=>rfl
 | (t,o0)::r=>by
  simp only[yO,aF]
  cases hb:Nat.beq t h with
  | true=>
   have:=af hb
   subst this
   have:Nat.beq t x=false:=by
    cases h2:Nat.beq t x with
    | true=>exact absurd (af h2).symm hx
    | false=>rfl
   rw[this]
   exact wk hx
  | false=>
   simp only[aF]
   cases Nat.beq t x with
   | true=>rfl
   | false=>exact wk hx
theorem G5 {h:Nat}{f:Bool}{τ:Ty}{l:List (S.D τ)}:∀{fr:List (Nat×TV S)}{t:Nat},bp (Kl h f τ l fr) t=(bp fr t).map (TV.fz h f τ l)
 | [],_=>rfl
 | (t',v)::r,t=>by
  simp only[Kl,bp]
  cases Nat.beq t' t with
  | true=>rfl
  | false=>exact G5
theorem pU {fr fr':List (Nat×TV S)}{t:Nat}:bp (fr++fr') t=match bp fr t with | some v=>some v | none=>bp fr' t:=by
 induction fr with
 | nil=>rfl
 | cons x r ih=>
  obtain⟨k,g⟩:=x
  simp only[bd,bp]
  cases Nat.beq k t with
  | true=>rfl
  | false=>exact ih
theorem dV {st st':List (Nat×TO S)}{t:Nat}:aF (st++st') t=match aF st t with | some v=>some v | none=>aF st' t:=by
 induction st with
 | nil=>rfl
 | cons x r ih=>
  obtain⟨k,g⟩:=x
  simp only[bd,aF]
  cases Nat.beq k t with
  | true=>rfl
  | false=>exact ih
mutual
theorem LV {h:Nat}{f:Bool}{τ:Ty}{l:List (S.D τ)}:∀v:TV S,v.has h=false→v.fz h f τ l=v
 | .ab _ _ _,_=>rfl
 | .ptr _ _ _,_=>rfl
 | .agg vs,e=>congrArg TV.agg (wZ vs e)
 | .aU vs,e=>congrArg TV.aU (wZ vs e)
 | .aP g vs,e=>congrArg (TV.aP g) (wZ vs e)
 | .loc h' o,e=>by simp only[TV.has] at e;simp only[TV.fz,e]
 | .gY h' _ _ _,e=>by simp only[TV.has] at e;simp only[TV.fz,e]
 | .aK h' _,e=>by simp only[TV.has] at e;simp only[TV.fz,e]
 | .sub h' _ _ _,e=>by simp only[TV.has] at e;simp only[TV.fz,e]
 | .cA h',e=>by simp only[TV.has] at e;simp only[TV.fz,e]
 | .mp h',e=>by simp only[TV.has] at e;simp only[TV.fz,e]
 | .ks _ _ _ _,_=>rfl
 | .kp _ _ _ _,_=>rfl
 | .fX _ _ _ _ _,_=>rfl
 | .bT _ _ _,_=>rfl
 | .val _,_=>rfl
 | .any,_=>rfl
theorem wZ {h:Nat}{f:Bool}{τ:Ty}{l:List (S.D τ)}:∀vs:List (TV S),TV.has.go h vs=false→TV.fz.go h f τ l vs=vs
 | [],_=>rfl
 | v::r,e=>by
  simp only[TV.has.go,bc] at e
  simp only[TV.fz.go,LV v e.1,wZ r e.2]
end
structure I6 (st st':List (Nat×ao)) (ln ln':Nat→Nat) (h:Nat) (bw:TypeId) (f:Bool) (τ:Ty) (l:List (S.D τ)):Prop where
 get:az st h=some ⟨bw,true,true,f,S.sz τ,List.flatMap (aW S τ) l,none⟩
 gone:az st' h=none
 Kv:∀x k,az st' x=some k→∃k0,az st x=some k0
 len:ln h=l.length
 agree:kK ln ln' h
theorem T7 {st st':List (Nat×ao)}{ln ln':Nat→Nat}{h:Nat}{bw:TypeId}{f:Bool}{τ:Ty}{l:List (S.D τ)}(H:I6 (S:=S) st st' ln ln' h bw f τ l):iI st st' (.aK h (S.sz τ) 0 (ln h))=some ((TV.ab f (.list τ) l:TV S).er ln'):=by
 rw[ur]
 simp only[iI,H.gone,H.get,H.len,iN]
 rw[di (by rw[ku];exact aq _)]
 cases f <;> rfl
mutual
theorem Rt {st st':List (Nat×ao)}{ln ln':Nat→Nat}{h:Nat}{bw:TypeId}{f:Bool}{τ:Ty}{l:List (S.D τ)}(H:I6 (S:=S) st st' ln ln' h bw f τ l):∀v:TV S,CV st st' (v.er ln) ((v.fz h f τ l).er ln')
 | .ab _ _ _=>CV.refl _ _ _
 | .ptr _ _ _=>CV.refl _ _ _
 | .agg vs=>CV.agg (s8 H vs)
 | .aU vs=>CV.aU (s8 H vs)
 | .aP g vs=>CV.aP (s8 H vs)
 | .loc h' o=>by
  simp only[TV.fz]
  cases Nat.beq h' h with
  | true=>exact CV.any _ _ _
  | false=>exact CV.refl _ _ _
 | .gY h' _ _ _=>by
  simp only[TV.fz]
  cases Nat.beq h' h with
  | true=>exact CV.any _ _ _
  | false=>exact CV.refl _ _ _
 | .aK h' τ'=>by
  simp only[TV.fz]
  cases hb:Nat.beq h' h with
  | true=>
   have:=af hb
   subst this
   dsimp only
   split
   ·rename_i e _
    subst e
    exact CV.fz H.Kv (T7 H)
   ·exact CV.any _ _ _
  | false=>
   show CV st st' (.aK h' _ 0 (ln h')) (.aK h' _ 0 (ln' h'))
   rw[H.agree h' fun e=>by subst e;rw[aQ] at hb;cases hb]
   exact CV.refl _ _ _
 | .sub h' _ _ _=>by
  simp only[TV.fz]
  cases Nat.beq h' h with
  | true=>exact CV.any _ _ _
  | false=>exact CV.refl _ _ _
 | .cA h'=>by
  simp only[TV.fz]
  cases Nat.beq h' h with
  | true=>exact CV.any _ _ _
  | false=>exact CV.refl _ _ _
 | .mp h'=>by
  simp only[TV.fz]
  cases Nat.beq h' h with
  | true=>exact CV.any _ _ _
  | false=>exact CV.refl _ _ _
 | .ks _ _ _ _=>CV.refl _ _ _
 | .kp _ _ _ _=>CV.refl _ _ _
 | .fX _ _ _ _ _=>CV.refl _ _ _
 | .bT _ _ _=>CV.refl _ _ _
 | .val _=>CV.refl _ _ _
 | .any=>CV.refl _ _ _
theorem s8 {st st':List (Nat×ao)}{ln ln':Nat→Nat}{h:Nat}{bw:TypeId}{f:Bool}{τ:Ty}{l:List (S.D τ)}(H:I6 (S:=S) st st' ln ln' h bw f τ l):∀vs:List (TV S),O0 st st' (TV.er.go ln vs) (TV.er.go ln' (TV.fz.go h f τ l vs))
 | []=>⟨rfl,fun j g' hg'=>by simp[TV.fz.go,TV.er.go] at hg'⟩
 | v::r=>by
  obtain⟨h1,h2⟩:=s8 H r
  refine⟨by simp only[TV.fz.go,TV.er.go,aZ,h1],fun j g' hg'=>?_⟩
  simp only[TV.fz.go,TV.er.go] at hg'⊢
  cases j with
  | zero=>cases hg';exact⟨_,rfl,Rt H v⟩
  | succ j=>exact h2 j g' hg'
end
theorem Ub {st st':List (Nat×ao)}{ln ln':Nat→Nat}{h:Nat}{bw:TypeId}{f:Bool}{τ:Ty}{l:List (S.D τ)}(H:I6 (S:=S) st st' ln ln' h bw f τ l) (o:TO S):we st st' (o.er ln) ((o.fz h f τ l).er ln'):=by
 cases o with
 | box e m cs=>exact⟨rfl,id,rfl,rfl,rfl,(s8 H cs).1,.inr ⟨rfl,(s8 H cs).2⟩⟩
 | arr e m f τ l=>exact we.refl _ _ _
 | lp p n cs=>exact⟨rfl,id,rfl,rfl,rfl,(s8 H cs).1,.inr ⟨rfl,(s8 H cs).2⟩⟩
 | deep=>exact we.refl _ _ _
theorem vv {k:Nat}:∀{st:List (Nat×TO S)}{x:Nat}{o:TO S},aF st x=some o→dr k st=false→o.has k=false
 | [],_,_,h,_=>by cases h
 | (t,o')::r,x,o,h,hf=>by
  simp only[dr,bc] at hf
  simp only[aF] at h
  cases hb:Nat.beq t x with
  | true=>rw[hb] at h;cases h;exact hf.1
  | false=>rw[hb] at h;exact vv h hf.2
theorem T9 {h:Nat}{f:Bool}{τ:Ty}{l:List (S.D τ)}{o:TO S}(e:o.has h=false):o.fz h f τ l=o:=by
 cases o with
 | box e' m cs=>simp only[TO.fz];rw[wZ cs e]
 | arr e m f τ l=>rfl
 | lp p n cs=>simp only[TO.fz];rw[wZ cs e]
 | deep=>rfl
theorem Iq {ln:Nat→Nat}:∀{fr:List (Nat×TV S)}{t:Nat}{g:G},AM.get (gX ln fr) t=some g→∃v,bp fr t=some v∧g=v.er ln
 | [],_,_,h=>by cases h
 | (k,v)::r,t,g,h=>by
  simp only[gX,AM.get] at h
  simp only[bp]
  cases hk:Nat.beq k t with
  | true=>rw[hk] at h;cases h;exact⟨v,rfl,rfl⟩
  | false=>rw[hk] at h;exact Iq h
theorem zf {ln:Nat→Nat}:∀{st:List (Nat×TO S)}{t:Nat}{k:ao},az (bG ln st) t=some k→∃o,aF st t=some o∧k=o.er ln
 | [],_,_,h=>by cases h
 | (x,o)::r,t,k,h=>by
  simp only[bG,az] at h
  simp only[aF]
  cases hk:Nat.beq x t with
  | true=>rw[hk] at h;cases h;exact⟨o,rfl,rfl⟩
  | false=>rw[hk] at h;exact zf h
theorem Gh.typed {s t:aj S}(hfr:∀d v',bp t.bV d=some v'→∃v,bp s.bV d=some v∧CV s.er.st t.er.st (v.er s.ln) (v'.er t.ln)) (hst:∀x o',aF t.bj x=some o'→∃o,aF s.bj x=some o∧we s.er.st t.er.st (o.er s.ln) (o'.er t.ln))
  (hdf:TV.er.go s.ln s.df=TV.er.go t.ln t.df):Gh s.er t.er:=by
 refine Gh.gen (fun d g' hg'=>?_) (fun x k' hk'=>?_) hdf
 ·obtain⟨v',h1,rfl⟩:=Iq hg'
  obtain⟨v,h2,h3⟩:=hfr d v' h1
  exact⟨_,fG h2,h3⟩
 ·obtain⟨o',h1,rfl⟩:=zf hk'
  obtain⟨o,h2,h3⟩:=hst x o' h1
  exact⟨_,kL h2,h3⟩
theorem Dq {s t:aj S}{h:Nat}(hl:aO s) (hf:AD s h=some t):Gh s.er t.er∧aO t∧bA s t:=by
 unfold AD at hf
 split at hf
 ·rename_i e f τ l ho
  split at hf
  ·rename_i hc
   simp only[ag,a7] at hc
   obtain⟨c1,c2,c3,c4⟩:=hc
   cases hf
   generalize ht:({s with fr:=Kl h f τ l s.fr,st:=yO h f τ l s.st,last:=AS h s.last}:aj S)=t
   have hlst:aF s.bM h=none:=by
    cases hq:aF s.bM h with
    | none=>rfl
    | some o=>rw[hq] at c4;cases c4
   have hgone:aF t.bj h=none:=by
    subst ht
    show aF (yO h f τ l s.st++s.bM) h=none
    rw[dV,F1];exact hlst
   have hother:∀{x:Nat},x≠h→∃g:TO S→TO S,(∀o,(g o).len=o.len)∧aF t.bj x=(aF s.bj x).map g∧∀o,aF s.bj x=some o→g o=o.fz h f τ l:=by
    intro x hx
    subst ht
    show ∃g:TO S→TO S,_∧aF (yO h f τ l s.st++s.bM) x=(aF (s.st++s.bM) x).map g∧_
    refine⟨TO.fz h f τ l,T8 h f τ l,?_,fun o _=>rfl⟩
    rw[dV,dV,wk hx]
    cases h1:aF s.st x with
    | some o=>rfl
    | none=>
     show aF s.bM x=(aF s.bM x).map _
     cases h2:aF s.bM x with
     | none=>rfl
     | some o=>rw[b9,T9 (vv h2 c2)]
   have hag:kK s.ln t.ln h:=by
    intro x hx
    show bI s.bj x=bI t.bj x
    obtain⟨g,g1,g2,_⟩:=hother hx
    unfold bI
    rw[g2]
    cases aF s.bj x with
    | none=>rfl
    | some o=>exact(g1 o).symm
   have H:I6 (S:=S) s.er.st t.er.st s.ln t.ln h e f τ l:={
    get:=dX (iR ho)
    gone:=uB hgone
    Kv:=fun x k hk=>by
     obtain⟨o',h1,_⟩:=zf hk
     have hx:x≠h:=fun e=>by subst e;rw[hgone] at h1;cases h1
     obtain⟨g,_,g2,_⟩:=hother hx
     rw[g2] at h1
     obtain⟨o,h2,_⟩:=ay.1 h1
     exact⟨_,kL h2⟩
    len:=oG (iR ho)
    agree:=hag}
   have hfrA:∀d,bp t.bV d=(bp s.bV d).map (TV.fz h f τ l):=by
    intro d
    subst ht
    show bp (Kl h f τ l s.fr++s.lo) d=(bp (s.fr++s.lo) d).map _
    rw[pU,pU,G5]
    cases bp s.fr d with
    | some v=>rfl
    | none=>
     show bp s.lo d=(bp s.lo d).map _
     cases h2:bp s.lo d with
     | none=>rfl
     | some v=>rw[b9,LV v (vR h2 c1)]
   refine⟨Gh.typed (fun d v' hv'=>?_) (fun x o' ho'=>?_) ?_,?_,by subst ht;exact⟨rfl,rfl,rfl⟩⟩
   ·rw[hfrA] at hv'
    obtain⟨v,h1,rfl⟩:=ay.1 hv'
    exact⟨v,h1,Rt H v⟩
   ·have hx:x≠h:=fun e=>by subst e;rw[hgone] at ho';cases ho'
    obtain⟨g,_,g2,g3⟩:=hother hx
    rw[g2] at ho'
    obtain⟨o,h1,h2⟩:=ay.1 ho'
    refine⟨o,h1,?_⟩
    rw[←h2,g3 o h1]
    exact Ub H o
   ·have:t.df=s.df:=by subst ht;rfl
    rw[this]
    exact p6 hag s.df c3
   ·intro d hh x hm
    have hm:(d,hh,x)∈AS h s.last:=by subst ht;exact hm
    obtain⟨h1,h2⟩:=uh hm
    obtain⟨i,bw,m,f',τ',l',a,e1,e2,e3⟩:=hl d hh x h1
    refine⟨i,bw,m,f',τ',l',a,?_,?_,e3⟩
    ·rw[hfrA,e1]
     show some ((TV.gY hh τ' i 0:TV S).fz h f τ l)=_
     rw[LV _ (by
      simp only[TV.has]
      cases hb:Nat.beq hh h with
      | false=>rfl
      | true=>exact absurd (af hb) h2)]
    ·obtain⟨g,_,g2,g3⟩:=hother h2
     rw[g2,e2,b9,g3 _ e2];rfl
  ·cases hf
 ·cases hf
end
end Go.DN
