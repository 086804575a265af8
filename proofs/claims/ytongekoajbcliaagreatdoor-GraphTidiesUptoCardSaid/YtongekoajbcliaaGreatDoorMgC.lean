/-
  DN, first half: a typed interpreter over AM.
-/
import Derived.Test.YtongekoajbcliaaGreatDoorMgI
import Derived.Test.YtongekoajbcliaaGreatDoorMgF
set_option linter.unusedSectionVars false
set_option linter.unusedSimpArgs false
set_option linter.unusedVariables false
/-
 DN,part A:kinds of plain data,their encodings;typed values and states,and what they say of a state.
-/
namespace Go.DN
open Go.AM
structure lR where
 a:Int
 b:Int
 t:Nat
 f:List (Nat×List Int)
structure Zt where
 n:Nat
 es:List lR
 pd:Option (Option (Nat×Nat)×Nat×List Int)
inductive Ty where
 | int (k:IntKind)
 | bool
 | str
 | list (t:Ty)
 | st (n:Nat)
 | map
 | dw
 | pt (n:Nat)
 deriving DecidableEq
@[reducible] def Ty.den (α:Nat→Type):Ty→Type
 | .int _=>Int
 | .bool=>Bool
 | .str=>ByteArray
 | .list t=>List (t.den α)
 | .st n=>α n
 | .map=>Zt
 | .dw=>Bool
 | .pt n=>Option (α n)
def Ty.gm:Ty→Bool
 | .st _=>true
 | _=>false
def Ty.iR:Ty→Bool
 | .int _=>true
 | .bool=>true
 | .str=>true
 | _=>false
structure bn (α:Nat→Type) where
 τ:Ty
 a:τ.den α
def jv {α:Nat→Type}(τ' τ:Ty) (a:τ'.den α):Option (τ.den α):=if h:τ'=τ then some (h▸a) else none
theorem eW {α:Nat→Type}{τ' τ:Ty}{a:τ'.den α}{b:τ.den α}(h:jv τ' τ a=some b):(⟨τ',a⟩:bn α)=⟨τ,b⟩:=by
 unfold jv at h;split at h
 ·rename_i e;subst e;cases h;rfl
 ·cases h
def Co {α:Nat→Type}(se:(n:Nat)→α n→List G):(τ:Ty)→τ.den α→List G
 | .int k,a=>[.val (.int k a)]
 | .bool,a=>[.val (.bool a)]
 | .str,a=>[.val (.string a)]
 | .list t,l=>[.sl (List.length l) (List.flatMap (Co se t) l)]
 | .st n,a=>se n a
 | .map,_=>[.val (.bool true)]
 | .dw,b=>[.dw b]
 | .pt n,o=>[match o with | none=>.val (.pointer none) | some a=>.ptr (se n a)]
structure Wy where
 N:Nat
 aw:List Nat
 ps:Array Tmp
 nF:Code
 body:Code
 id:Nat
structure eI where
 wq:Bool:=false
 Z8:TypeId→Option TypeId:=fun _=>none
 fJ:Nat→Wy:=fun _=>⟨0,[],#[],.skip,.skip,0⟩
 α:Nat→Type
 cX:Nat→List Ty
 cells:(n:Nat)→α n→List (bn α)
 put:(n:Nat)→List (bn α)→Option (α n)
 gB:(n:Nat)→α n→List G
 ty:TypeId→Option Nat
 V5:TypeId→Option Ty
 nJ:∀n a,(cells n a).map bn.τ=cX n
 one:∀n t,t∈cX n→t.gm=false
 pos:∀n,cX n≠[]
 gZ:∀n l a,put n l=some a→cells n a=l
 xA:∀n a,gB n a=(cells n a).flatMap (fun x=>Co gB x.τ x.a)
section
variable (S:eI)
abbrev eI.D (τ:Ty):Type:=τ.den S.α
abbrev eI.L:Type:=bn S.α
abbrev aX (τ:Ty) (a:S.D τ):List G:=Co S.gB τ a
def eI.sz (τ:Ty):Nat:=match τ with | .st n=>(S.cX n).length | _=>1
theorem EZ {τ:Ty}(h:τ.gm=false) (a:S.D τ):∃g,aX S τ a=[g]∧g.one=true:=by
 cases τ with
 | st n=>cases h
 | pt n=>cases a <;> exact⟨_,rfl,rfl⟩
 | _=>exact⟨_,rfl,rfl⟩
theorem pL:∀(l:List S.L),(∀t∈l.map bn.τ,t.gm=false)→(l.flatMap (fun x=>Co S.gB x.τ x.a)).length=l.length∧∀g∈l.flatMap (fun x=>Co S.gB x.τ x.a),g.one=true
 | [],_=>⟨rfl,fun g h=>by cases h⟩
 | x::r,h=>by
  obtain⟨i1,i2⟩:=pL r fun t ht=>h t (ap _ ht);obtain⟨g,hg,ho⟩:=EZ S (τ:=x.τ) (h _ ar) x.a;simp only[b6];constructor
  ·have:(Co S.gB x.τ x.a).length=1:=by show(aX S x.τ x.a).length=1;rw[hg];rfl
   simp[i1,this];omega
  ·intro g' hg';rcases dl.1 hg' with h1 | h1
   ·have h1:g'∈aX S x.τ x.a:=h1;rw[hg] at h1;simp at h1;subst h1;exact ho
   ·exact i2 _ h1
theorem tz (τ:Ty) (a:S.D τ):(aX S τ a).length=S.sz τ:=by
 cases τ with
 | st n=>
  show(S.gB n a).length=(S.cX n).length;have:=S.nJ n a;rw[S.xA n a,(pL S _ (fun t ht=>S.one n t (by rw[←this];exact ht))).1,←this,aN]
 | _=>rfl
theorem Lb (τ:Ty):0<S.sz τ:=by
 cases τ with
 | st n=>exact List.length_pos_iff.2 (S.pos n)
 | _=>exact Nat.one_pos
theorem Cp (τ:Ty) (a:S.D τ):∀g∈aX S τ a,g.one=true:=by
 cases τ with
 | st n=>
  show ∀g∈S.gB n a,_;have:=S.nJ n a;rw[S.xA n a];exact(pL S _ (fun t ht=>S.one n t (by rw[←this];exact ht))).2
 | _=>intro g hg;obtain⟨g',h1,h2⟩:=EZ S (τ:=_) rfl a;rw[h1] at hg;simp at hg;subst hg;exact h2
@[reducible] def mY (τ:Ty):aH (S.D τ):=⟨S.sz τ,aX S τ,tz S τ,Lb S τ,fun a=>Cp S τ a⟩
def dI (τ:Ty) (a:S.D τ):G:=(aX S τ a).headD .any
theorem jV {τ:Ty}(h:τ.gm=false) (a:S.D τ):aX S τ a=[dI S τ a]:=by
 obtain⟨g,hg,_⟩:=EZ S h a;unfold dI;rw[hg];rfl
theorem ib (n:Nat) (a:S.α n):aX S (.st n) a=(S.cells n a).map fun x=>dI S x.τ x.a:=by
 show S.gB n a=_;have h0:=S.nJ n a;have h1:∀t∈(S.cells n a).map bn.τ,t.gm=false:=fun t ht=>S.one n t (by rw[←h0];exact ht);rw[S.xA n a];generalize S.cells n a=l at h1
 induction l with
 | nil=>rfl
 | cons x r ih=>
  simp only[b6,bc];rw[ih fun t ht=>h1 t (ap _ ht)];have:=jV S (τ:=x.τ) (h1 _ ar) x.a;show aX S x.τ x.a++_=_;rw[this];rfl
end
inductive TV (S:eI) where
 | aD (f:Bool) (τ:Ty) (a:τ.den S.α)
 | ptr (f:Bool) (τ:Ty) (a:τ.den S.α)
 | agg (l:List (TV S))
 | bB (l:List (TV S))
 | loc (h off:Nat)
 | iK (h:Nat) (τ:Ty) (i j:Nat)
 | aL (h:Nat) (τ:Ty)
 | sub (h:Nat) (τ:Ty) (o n:Nat)
 | ba (f:FuncId) (caps:List (TV S))
 | cW (h:Nat)
 | mp (h:Nat)
 | ks (h:Nat) (τ:Ty) (i n:Nat)
 | kp (h:Nat) (τ:Ty) (i j:Nat)
 | iF (b:Bool) (h:Nat) (τ:Ty) (i j:Nat)
 | gw (b:Bool) (h off:Nat)
 | dX (b:Bool) (h:Nat)
 | val (v:Value)
 | any
inductive Dk where
 | wq (kty:TypeId)
 | rows (kty:TypeId) (ho:Option Nat)
 | map (q:IntKind) (kty tty:TypeId)
 | sm (ik:Bool)
 deriving DecidableEq
inductive TO (S:eI) where
 | box (bI:TypeId) (ew:Bool) (cs:List (TV S))
 | arr (bI:TypeId) (ew fresh:Bool) (τ:Ty) (l:List (τ.den S.α))
 | lp (key:Nat) (n:Int) (cs:List (TV S))
 | deep (bI:TypeId) (ew fresh:Bool) (dk:Dk) (τ:Ty) (a:τ.den S.α)
structure ae (S:eI) where
 fr:List (Nat×TV S)
 lo:List (Nat×TV S)
 st:List (Nat×TO S)
 bN:List (Nat×TO S)
 df:List (TV S)
 nx:Nat
 last:List (Nat×Nat×bn S.α)
section
variable {S:eI}
def dY (f:Bool) (g:G):G:=bif f then DY g else g
def oP (f:Bool) (τ:Ty) (a:S.D τ):G:=
 match τ with
 | .st n=>.agg ((aX S (.st n) a).map (dY f))
 | τ=>dY f (dI S τ a)
def Uk (f:Bool) (τ:Ty) (a:S.D τ):G:=bif f then .fr (.ptr (aX S τ a)) else .ptr (aX S τ a)
def TV.er (ln:Nat→Nat):TV S→G
 | .aD f τ a=>oP f τ a
 | .ptr f τ a=>Uk f τ a
 | .agg l=>.agg (go ln l)
 | .bB l=>.bB (go ln l)
 | .loc h off=>.loc h off
 | .iK h τ i j=>.loc h (i*S.sz τ+j)
 | .aL h τ=>.aL h (S.sz τ) 0 (ln h)
 | .sub h τ o n=>.aL h (S.sz τ) (o*S.sz τ) n
 | .ba f caps=>.ba f (go ln caps)
 | .cW h=>.cW h
 | .mp h=>.eN h
 | .ks h τ i n=>.ks h i (S.sz τ) n
 | .kp h τ i j=>.kp h i (j*S.sz τ)
 | .iF b h τ i j=>bif b then .val (.pointer none) else .kp h i (j*S.sz τ)
 | .gw b h off=>bif b then .val (.pointer none) else .loc h off
 | .dX b h=>bif b then .val (.map none) else .eN h
 | .val v=>.val v
 | .any=>.any
where go (ln:Nat→Nat):List (TV S)→List G
 | []=>[]
 | x::r=>x.er ln::go ln r
theorem cP (ln:Nat→Nat) (l:List (TV S)):TV.er.go ln l=l.map (TV.er ln):=by
 induction l with
 | nil=>rfl
 | cons x r ih=>simp only[TV.er.go,bc,ih]
def EP (id:Nat) (n:Int):Option Code:=bif n==0 then none else bif n==1 then some (.exit id) else some .ret
def eI.lp (S:eI) (key:Nat) (n:Int):Lp:=⟨0,(S.fJ key).N,(S.fJ key).aw,(S.fJ key).ps,(S.fJ key).nF,(S.fJ key).body,EP (S.fJ key).id n⟩
def xN:(τ:Ty)→S.D τ→Nat
 | .list _,l=>List.length l
 | _,_=>0
def TO.len:TO S→Nat
 | .arr _ _ _ _ l=>l.length
 | .deep _ _ _ _ τ a=>xN τ a
 | _=>0
def kA:(τ:Ty)→S.D τ→Nat×List (Nat×List G)
 | .list (.list t),ll=>(S.sz t,List.map (fun l=>(List.length l,List.flatMap (aX S t) l)) ll)
 | _,_=>(1,[])
def Z7:bn S.α→Nat×List G
 | ⟨.list t,l⟩=>(List.length l,List.flatMap (aX S t) l)
 | _=>(0,[])
def ZB:List Ty→Nat
 | .list t::_=>S.sz t
 | _=>1
def Kx:(τ:Ty)→S.D τ→Nat×Nat×List (Nat×List G)
 | .list (.st n),l=>(ZB (S:=S) (S.cX n),(S.cX n).length,List.flatMap (fun a=>(S.cells n a).map Z7) l)
 | _,_=>(1,1,[])
def pF (q:IntKind) (l:List Int):List G:=l.map fun x=>.val (.int q x)
def lR.me (q:IntKind) (e:lR):ME:=⟨(e.a,e.b),e.t,e.f.map fun p=>(p.1,pF q p.2)⟩
def mapOf:(τ:Ty)→S.D τ→Zt
 | .map,d=>d
 | _,_=>⟨0,[],none⟩
def R7 (q:IntKind):Option (Option (Nat×Nat)×Nat×List Int)→Option (Option (Nat×Nat)×Nat×List G)
 | some (s,x,l)=>some (s,x,pF q l)
 | none=>none
@[reducible] def KK:Bool→Type
 | true=>Int
 | false=>ByteArray
def xk:(i:Bool)→KK i→Value
 | true,n=>.int .i64 n
 | false,s=>.string s
def OP:Bool→Ty
 | true=>.int .i64
 | false=>.str
instance (i:Bool):DecidableEq (KK i):=match i with
 | true=>inferInstanceAs (DecidableEq Int)
 | false=>inferInstanceAs (DecidableEq ByteArray)
def rn:(i:Bool)→List (bn S.α)→KK i×G
 | false,[⟨.str,k⟩,⟨τ,v⟩]=>((k:ByteArray),dI S τ v)
 | true,[⟨.int .i64,k⟩,⟨τ,v⟩]=>((k:Int),dI S τ v)
 | false,_=>(ByteArray.mk #[],.any)
 | true,_=>((0:Int),.any)
def qK (i:Bool):(τ:Ty)→S.D τ→List (KK i×G)
 | .st n0,a0=>match S.cells n0 a0 with
  | [⟨.list (.st n),l⟩]=>List.map (fun a=>rn i (S.cells n a)) l
  | _=>[]
 | _,_=>[]
def Dk.dp (e:TypeId) (τ:Ty) (a:S.D τ):Dk→Dp
 | .wq kty=>tY e kty (kA τ a).1 (kA τ a).2
 | .rows kty ho=>Yf e kty (Kx τ a).1 (Kx τ a).2.1 (Kx τ a).2.2 ho
 | .map q kty tty=>Gc q kty tty (mapOf τ a).n ((mapOf τ a).es.map (lR.me q)) (R7 q (mapOf τ a).pd)
 | .sm i=>xR (xk i) (qK i τ a)
def TO.er (ln:Nat→Nat):TO S→av
 | .box e m cs=>⟨e,false,m,false,0,TV.er.go ln cs,none⟩
 | .arr e m f τ l=>⟨e,true,m,f,S.sz τ,List.flatMap (aX S τ) l,none⟩
 | .lp key n cs=>⟨0,false,false,false,0,TV.er.go ln cs,some (.loop (S.lp key n))⟩
 | .deep e m f dk τ a=>⟨e,true,m,f,1,[],some (.deep (dk.dp e τ a))⟩
def bp:List (Nat×TV S)→Nat→Option (TV S)
 | [],_=>none
 | (k,g)::r,t=>bif Nat.beq k t then some g else bp r t
def aA:List (Nat×TO S)→Nat→Option (TO S)
 | [],_=>none
 | (k,g)::r,t=>bif Nat.beq k t then some g else aA r t
def cp (st:List (Nat×TO S)) (h:Nat):Nat:=match aA st h with | some o=>o.len | none=>0
def il (ln:Nat→Nat):List (Nat×TV S)→List (Nat×G)
 | []=>[]
 | (t,v)::r=>(t,v.er ln)::il ln r
def bT (ln:Nat→Nat):List (Nat×TO S)→List (Nat×av)
 | []=>[]
 | (t,o)::r=>(t,o.er ln)::bT ln r
def ae.ca (s:ae S):List (Nat×TV S):=s.fr++s.lo
def ae.bl (s:ae S):List (Nat×TO S):=s.st++s.bN
def ae.ln (s:ae S):Nat→Nat:=cp s.bl
def ae.er (s:ae S):St:=⟨il s.ln s.ca,bT s.ln s.bl,TV.er.go s.ln s.df⟩
structure bC (s t:ae S):Prop where
 lo:t.lo=s.lo
 bN:t.bN=s.bN
 df:t.df=s.df
theorem bC.refl (s:ae S):bC s s:=⟨rfl,rfl,rfl⟩
theorem bC.trans {a b c:ae S}(h:bC a b) (h':bC b c):bC a c:=⟨h'.lo.trans h.lo,h'.bN.trans h.bN,h'.df.trans h.df⟩
theorem fU {ln:Nat→Nat}:∀{fr:List (Nat×TV S)}{t:Nat}{v:TV S},bp fr t=some v→get (il ln fr) t=some (v.er ln)
 | [],_,_,h=>by cases h
 | (k,g)::r,t,v,h=>by
  simp only[bp] at h;simp only[il,AM.get];cases hk:Nat.beq k t with
  | true=>rw[hk] at h;cases h;rfl
  | false=>rw[hk] at h;exact fU h
theorem ga {ln:Nat→Nat}:∀{st:List (Nat×TO S)}{t:Nat}{o:TO S},aA st t=some o→ay (bT ln st) t=some (o.er ln)
 | [],_,_,h=>by cases h
 | (k,g)::r,t,v,h=>by
  simp only[aA] at h;simp only[bT,ay];cases hk:Nat.beq k t with
  | true=>rw[hk] at h;cases h;rfl
  | false=>rw[hk] at h;exact ga h
def vP:Value→TV S
 | .int k n=>.aD true (.int k) n
 | .bool b=>.aD true .bool b
 | .string s=>.aD true .str s
 | v=>.val v
theorem K3 (ln:Nat→Nat) (v:Value):(vP v:TV S).er ln=.val v:=by cases v <;> rfl
def cu (s:ae S):Operand→Option (TV S)
 | .tmp t=>bp s.ca t
 | .const v=>some (vP v)
 | .func f=>some (.ba f [])
 | .global _=>none
theorem bh {s:ae S}{x:Operand}{v:TV S}(h:cu s x=some v):ev s.er x=some (v.er s.ln):=by
 cases x with
 | tmp t=>exact fU h
 | const v'=>cases h;simp only[ev,K3]
 | func f=>cases h;rfl
 | global _=>cases h
def Lt (d:Nat):List (Nat×Nat×bn S.α)→List (Nat×Nat×bn S.α)
 | []=>[]
 | x::r=>bif Nat.beq x.1 d then Lt d r else x::Lt d r
def xd (h:Nat):List (Nat×Nat×bn S.α)→List (Nat×Nat×bn S.α)
 | []=>[]
 | x::r=>bif Nat.beq x.2.1 h then xd h r else x::xd h r
theorem HJ {d:Nat}{y:Nat×Nat×bn S.α}:∀{l:List (Nat×Nat×bn S.α)},y∈Lt d l→y∈l∧y.1≠d
 | [],h=>by cases h
 | x::r,h=>by
  simp only[Lt] at h;cases hb:Nat.beq x.1 d with
  | true=>rw[hb] at h;obtain⟨h1,h2⟩:=HJ h;exact⟨ap _ h1,h2⟩
  | false=>
   rw[hb] at h;rcases bf.1 h with e | h
   ·subst e;exact⟨ar,fun e=>by rw[e,aW] at hb;cases hb⟩
   ·obtain⟨h1,h2⟩:=HJ h;exact⟨ap _ h1,h2⟩
theorem vH {d:Nat}{y:Nat×Nat×bn S.α}:∀{l:List (Nat×Nat×bn S.α)},y∈xd d l→y∈l∧y.2.1≠d
 | [],h=>by cases h
 | x::r,h=>by
  simp only[xd] at h;cases hb:Nat.beq x.2.1 d with
  | true=>rw[hb] at h;obtain⟨h1,h2⟩:=vH h;exact⟨ap _ h1,h2⟩
  | false=>
   rw[hb] at h;rcases bf.1 h with e | h
   ·subst e;exact⟨ar,fun e=>by rw[e,aW] at hb;cases hb⟩
   ·obtain⟨h1,h2⟩:=vH h;exact⟨ap _ h1,h2⟩
def ae.put (s:ae S) (d:Nat) (v:TV S):ae S:={s with fr:=(d,v)::s.fr,last:=Lt d s.last}
def aO (s:ae S):Prop:=∀d h x,(d,h,x)∈s.last→∃i bI m f τ l a,bp s.ca d=some (.iK h τ i 0)∧aA s.bl h=some (.arr bI m f τ l)∧x=⟨τ,a⟩∧l[i]?=some a
theorem FK {d t:Nat}(v:TV S) (fr:List (Nat×TV S)) (h:t≠d):bp ((d,v)::fr) t=bp fr t:=by
 simp only[bp];cases hb:Nat.beq d t with
 | true=>exact absurd (ab hb).symm h
 | false=>rfl
theorem aO.put {s:ae S}(h:aO s) (d:Nat) (v:TV S):aO (s.put d v):=by
 intro d' hh x hm;obtain⟨h1,h2⟩:=HJ hm;obtain⟨i,bI,m,f,τ,l,a,e1,e2⟩:=h d' hh x h1;exact⟨i,bI,m,f,τ,l,a,(FK v s.ca h2).trans e1,e2⟩
theorem iJ (s:ae S) (d:Nat) (v:TV S):(s.put d v).er=s.er.put d (v.er s.ln):=rfl
end
end Go.DN
/-
 DN,part B:operations that yield a value and leave the world alone.
-/
namespace Go.DN
open Go.AM
section
variable {S:eI}
def ny (P:Program) (t:TypeId):Option Nat:=(P.info? t).map (·.size)
def IW (P:Program) (t:TypeId):Option Bool:=match P.underlying t with
 | some (.struct _)=>some true
 | some (.array _ _)=>some true
 | some _=>some false
 | none=>none
theorem dC {P:Program}{t:TypeId}{n:Nat}(h:ny P t=some n):∀w,(sizeOf t).run P w=.ok n w:=by
 intro w;unfold ny at h;obtain⟨i,h1,h2⟩:=az.1 h;subst h2;simp[sizeOf,typeInfo,h1]
theorem gC {P:Program}{t:TypeId}{b:Bool}(h:IW P t=some b):∀w,(isAgg t).run P w=.ok b w:=by
 intro w;unfold IW at h;cases hu:P.underlying t with
 | none=>rw[hu] at h;cases h
 | some d=>rw[hu] at h;cases d <;> cases h <;> simp[isAgg,underlying,hu]
def VT (op:BinOp) (k:IntKind) (a b:Int):Option (TV S):=
 match op with
 | .add=>some (.aD true (.int k) (k.wrap (a+b)))
 | .sub=>some (.aD true (.int k) (k.wrap (a-b)))
 | .mul=>some (.aD true (.int k) (k.wrap (a*b)))
 | .eql=>some (.aD true .bool (a==b))
 | .neq=>some (.aD true .bool (a !=b))
 | .lss=>some (.aD true .bool (decide (a<b)))
 | .leq=>some (.aD true .bool (decide (a≤b)))
 | .gtr=>some (.aD true .bool (decide (a>b)))
 | .geq=>some (.aD true .bool (decide (a≥b)))
 | .and=>some (.aD true (.int k) (k.wrap ((BitVec.ofInt k.bits a &&& BitVec.ofInt k.bits b).toNat:Int)))
 | .or=>some (.aD true (.int k) (k.wrap ((BitVec.ofInt k.bits a ||| BitVec.ofInt k.bits b).toNat:Int)))
 | _=>none
theorem XQ {op:BinOp}{k:IntKind}{a b:Int}{v:TV S}(h:VT op k a b=some v) (ln:Nat→Nat):∃r,v.er ln=.val r∧Fx op (.int k a) (.int k b)=some r:=by
 cases op <;> simp only[VT] at h <;> cases h <;> exact⟨_,rfl,by simp[Fx]⟩
def VS (op:BinOp) (a b:ByteArray):Option (TV S):=
 match op with
 | .eql=>some (.aD true .bool (a.toList==b.toList))
 | .neq=>some (.aD true .bool (!(a.toList==b.toList)))
 | .lss=>some (.aD true .bool (Op.bytesLess a.toList b.toList))
 | _=>none
theorem XP {op:BinOp}{a b:ByteArray}{v:TV S}(h:VS op a b=some v) (ln:Nat→Nat):∃r,v.er ln=.val r∧Fx op (.string a) (.string b)=some r:=by
 cases op <;> simp only[VS] at h <;> cases h <;> exact⟨_,rfl,by simp[Fx]⟩
def Gs (ki:IntKind):List (bn S.α)→Option (List Int)
 | []=>some []
 | ⟨.int k,a⟩::r=>match decEq k ki with
  | isTrue _=>match Gs ki r with
   | some l=>some (a::l)
   | none=>none
  | isFalse _=>none
 | _=>none
theorem My {ki:IntKind}:∀{l:List (bn S.α)}{xs:List Int},Gs ki l=some xs→(l.map fun x=>dI S x.τ x.a)=xs.map fun a=>.val (.int ki a)
 | [],_,h=>by cases h;rfl
 | ⟨.int k,a⟩::r,xs,h=>by
  simp only[Gs] at h;split at h
  ·rename_i e _;subst e;split at h
   ·rename_i l hl;cases h;rw[bc,bc,My hl];rfl
   ·cases h
  ·cases h
 | ⟨.bool,_⟩::_,_,h=>by cases h
 | ⟨.dw,_⟩::_,_,h=>by cases h
 | ⟨.pt _,_⟩::_,_,h=>by cases h
 | ⟨.str,_⟩::_,_,h=>by cases h
 | ⟨.list _,_⟩::_,_,h=>by cases h
 | ⟨.st _,_⟩::_,_,h=>by cases h
theorem XB {f:Bool}{n:Nat}{a:S.α n}{ki:IntKind}{xs:List Int}(h:Gs ki (S.cells n a)=some xs) (ln:Nat→Nat):(TV.aD f (.st n) a:TV S).er ln=.agg (xs.map fun a=>.val (.int ki a)):=by
 show G.agg ((aX S (.st n) a).map (dY f))=_;rw[ib,My h,iO];congr 1;refine fh fun x _=>?_;cases f <;> rfl
def KH (ki:IntKind):List (TV S)→Option (List Int)
 | []=>some []
 | .aD _ (.int k) a::r=>match decEq k ki with
  | isTrue _=>match KH ki r with
   | some l=>some (a::l)
   | none=>none
  | isFalse _=>none
 | _::_=>none
theorem Mx {ki:IntKind}(ln:Nat→Nat):∀{l:List (TV S)}{xs:List Int},KH ki l=some xs→TV.er.go ln l=xs.map fun a=>.val (.int ki a)
 | [],_,h=>by cases h;rfl
 | v::r,xs,h=>by
  unfold KH at h;split at h
  ·rename_i e;cases e
  ·rename_i f k a r' e;cases e;split at h
   ·rename_i e _;subst e;split at h
    ·rename_i l hl;cases h;simp only[TV.er.go,Mx ln hl,bc];congr 1;cases f <;> rfl
    ·cases h
   ·cases h
  ·cases h
def Re (ki:IntKind):TV S→Option (List Int)
 | .aD _ (.st n) a=>Gs ki (S.cells n a)
 | .agg vs=>KH ki vs
 | _=>none
theorem Pe {ki:IntKind}{v:TV S}{xs:List Int}(h:Re ki v=some xs) (ln:Nat→Nat):v.er ln=.agg (xs.map fun a=>.val (.int ki a)):=by
 unfold Re at h;split at h
 ·exact XB h ln
 ·exact congrArg G.agg (Mx ln h)
 ·cases h
def VW (P:Program) (op:BinOp) (t:TypeId) (x y:TV S){A:Type}(k:TV S→Option A):Option A:=
 match op with
 | .eql=>match P.underlying t with
  | some (.array len e)=>match P.underlying e with
   | some (.int ki)=>match Re ki x with
    | some xs=>match Re ki y with
     | some ys=>match decEq (ny P e) (some 1) with
      | isTrue _=>match !(P.eqGuardType P.depth t)&&(Nat.beq xs.length len&&Nat.beq ys.length len) with
       | true=>k (.aD true .bool (GR xs ys))
       | false=>none
      | isFalse _=>none
     | none=>none
    | none=>none
   | _=>none
  | _=>none
 | _=>none
def PH:(τ:Ty)→S.D τ→Option Value
 | .int k,a=>some (.int k a)
 | .bool,a=>some (.bool a)
 | .str,a=>some (.string a)
 | _,_=>none
theorem Ll:∀{τ:Ty}{a:S.D τ}{v:Value},PH τ a=some v→∀f,dY f (dI S τ a)=.val v∧oP f τ a=.val v
 | .int k,a,_,h,f=>by cases h;cases f <;> exact⟨rfl,rfl⟩
 | .bool,a,_,h,f=>by cases h;cases f <;> exact⟨rfl,rfl⟩
 | .str,a,_,h,f=>by cases h;cases f <;> exact⟨rfl,rfl⟩
 | .list _,_,_,h,_=>by cases h
 | .st _,_,_,h,_=>by cases h
 | .map,_,_,h,_=>by cases h
 | .dw,_,_,h,_=>by cases h
 | .pt _,_,_,h,_=>by cases h
def PI:List (bn S.α)→Option (List Value)
 | []=>some []
 | x::r=>match PH x.τ x.a,PI r with
  | some v,some l=>some (v::l)
  | _,_=>none
def Lm:List (TV S)→Option (List Value)
 | []=>some []
 | .aD _ τ a::r=>match PH τ a,Lm r with
  | some v,some l=>some (v::l)
  | _,_=>none
 | _::_=>none
def V6:TV S→Option (List Value)
 | .aD _ (.st n) a=>PI (S.cells n a)
 | .agg vs=>Lm vs
 | _=>none
theorem RF {v:TV S}{us:List Value}(h:V6 v=some us) (ln:Nat→Nat):v.er ln=.agg (us.map .val):=by
 unfold V6 at h;split at h
 ·rename_i f n a;show G.agg ((aX S (.st n) a).map (dY f))=_;rw[ib,iO];congr 1;generalize S.cells n a=l at h
  induction l generalizing us with
  | nil=>cases h;rfl
  | cons x r ih=>
   simp only[PI] at h;split at h
   ·rename_i hv hl;cases h;rw[bc,bc,←ih hl];congr 1;exact(Ll hv f).1
   ·cases h
 ·rename_i vs;refine congrArg G.agg ?_
  induction vs generalizing us with
  | nil=>cases h;rfl
  | cons x r ih=>
   unfold Lm at h;split at h
   ·rename_i e;cases e
   ·rename_i f τ a r' e;cases e;split at h
    ·rename_i hv hl;cases h;simp only[TV.er.go,bc,←ih hl];congr 1;exact(Ll hv f).2
    ·cases h
   ·cases h
 ·cases h
def ei (P:Program) (op:BinOp) (t:TypeId) (x y:TV S){A:Type}(k:TV S→Option A):Option A:=
 match P.underlying t with
 | some (.struct fs)=>match V6 x with
  | some us=>match V6 y with
   | some vs=>match Ij P fs.toList us vs with
    | some b=>match !(P.stoodInHeld t)&&!(P.eqGuardType P.depth t) with
     | true=>match op with
      | .eql=>k (.aD true .bool b)
      | .neq=>k (.aD true .bool (!b))
      | _=>none
     | false=>none
    | none=>none
   | none=>none
  | none=>none
 | _=>none
def Wt (P:Program) (op:BinOp) (t:TypeId) (x y:TV S){A:Type}(k:TV S→Option A):Option A:=
 match P.underlying t with
 | some (.struct _)=>ei P op t x y k
 | _=>VW P op t x y k
def VU (P:Program) (op:BinOp) (t:TypeId) (x y:TV S){A:Type}(k:TV S→Option A):Option A:=
 match x with
 | .aD _ (.int ka) a=>match y with
  | .aD _ (.int kb) b=>match op with
   | .quo=>match decEq ka kb with
    | isTrue _=>(bj (b≠0)).bind fun _=>k (.aD true (.int ka) (ka.wrap (Int.tdiv a b)))
    | isFalse _=>none
   | .rem=>match decEq ka kb with
    | isTrue _=>(bj (b≠0)).bind fun _=>k (.aD true (.int ka) (Int.tmod a b))
    | isFalse _=>none
   | .shr=>(bj (0≤b)).bind fun _=>k (.aD true (.int ka) (Int.fdiv a (2^(min (Int.toNat b) ka.bits))))
   | .shl=>(bj (0≤b)).bind fun _=>k (.aD true (.int ka) (ka.wrap (a*2^(min (Int.toNat b) ka.bits))))
   | op=>match decEq ka kb with
    | isTrue _=>match VT op ka a b with
     | some v=>k v
     | none=>none
    | isFalse _=>none
  | _=>none
 | .aD _ .str a=>match y with
  | .aD _ .str b=>match op with
   | .add=>(bj (((a.size+b.size:Nat):Int)≤9223372036854775807)).bind fun _=>k (.aD true .str (a++b))
   | op=>match VS op a b with
    | some v=>k v
    | none=>none
  | _=>none
 | .aD _ .bool a=>match y with
  | .aD _ .bool b=>match P.underlying t with
   | some .bool=>match op with
    | .eql=>k (.aD true .bool (a==b))
    | .neq=>k (.aD true .bool (!(a==b)))
    | _=>none
   | _=>none
  | _=>none
 | .aD f (.st n) a=>Wt P op t (.aD f (.st n) a) y k
 | .agg vs=>Wt P op t (.agg vs) y k
 | _=>none
section
variable {P:Program}{s:ae S}{dst:Option Tmp}{ty:TypeId}{pos:String}{after:Array Edge}{guard:Option (Nat×Bool)}
theorem tB (f:Bool) (k:IntKind) (a:Int):oP (S:=S) f (.int k) a=.val (.int k a):=by cases f <;> rfl
theorem ic (f:Bool) (a:Bool):oP (S:=S) f .bool a=.val (.bool a):=by cases f <;> rfl
theorem M2 (f:Bool) (a:ByteArray):oP (S:=S) f .str a=.val (.string a):=by cases f <;> rfl
theorem jY {x:Operand}{f:Bool}{k:IntKind}{a:Int}(h:cu s x=some (.aD f (.int k) a)):ev s.er x=some (.val (.int k a)):=by rw[bh h];exact congrArg some (tB f k a)
theorem MN {x:Operand}{f:Bool}{a:Bool}(h:cu s x=some (.aD f .bool a)):ev s.er x=some (.val (.bool a)):=by rw[bh h];exact congrArg some (ic f a)
theorem GK {x:Operand}{f:Bool}{a:ByteArray}(h:cu s x=some (.aD f .str a)):ev s.er x=some (.val (.string a)):=by rw[bh h];exact congrArg some (M2 f a)
theorem XV {op:BinOp}{t t':TypeId}{x y:Operand}{vx vy:TV S}{A:Type}{k:TV S→Option A}{r:A}(hx:cu s x=some vx) (hy:cu s y=some vy) (h:VW P op t vx vy k=some r):
  ∃v,PY P s.er ⟨dst,.binOp op t x y t',ty,pos,after,guard⟩ (v.er s.ln)∧k v=some r:=by
 unfold VW at h;split at h
 ·split at h
  ·rename_i hu;split at h
   ·rename_i hue;split at h
    ·rename_i hxs;split at h
     ·rename_i hys;split at h
      ·rename_i hz _;split at h
       ·rename_i hc;simp only[af,aS] at hc;obtain⟨c1,c2,c3⟩:=hc;exact⟨_,PY.ZY (by rw[bh hx,Pe hxs]) (by rw[bh hy,Pe hys]) hu hue (dC hz) (ab c2) (ab c3) c1,h⟩
       ·cases h
      ·cases h
     ·cases h
    ·cases h
   ·cases h
  ·cases h
 ·cases h
theorem Td {op:BinOp}{t t':TypeId}{x y:Operand}{vx vy:TV S}{A:Type}{k:TV S→Option A}{r:A}(hx:cu s x=some vx) (hy:cu s y=some vy) (h:Wt P op t vx vy k=some r):
  ∃v,PY P s.er ⟨dst,.binOp op t x y t',ty,pos,after,guard⟩ (v.er s.ln)∧k v=some r:=by
 unfold Wt at h;split at h
 ·unfold ei at h;split at h
  ·rename_i hu;split at h
   ·rename_i hxs;split at h
    ·rename_i hys;split at h
     ·rename_i b hb;split at h
      ·rename_i hc;simp only[af,aS] at hc;have:=PY.Z6 (s:=s.er) (dst:=dst) (ty:=ty) (pos:=pos) (after:=after) (guard:=guard) (t':=t') (by rw[bh hx,RF hxs]) (by rw[bh hy,RF hys]) hu hc.1 hc.2 hb;split at h
       ·exact⟨.aD true .bool b,this.1,h⟩
       ·exact⟨.aD true .bool (!b),this.2,h⟩
       ·cases h
      ·cases h
     ·cases h
    ·cases h
   ·cases h
  ·cases h
 ·exact XV hx hy h
theorem XR {op:BinOp}{t t':TypeId}{x y:Operand}{vx vy:TV S}{A:Type}{k:TV S→Option A}{r:A}(hx:cu s x=some vx) (hy:cu s y=some vy) (h:VU P op t vx vy k=some r):
  ∃v,PY P s.er ⟨dst,.binOp op t x y t',ty,pos,after,guard⟩ (v.er s.ln)∧k v=some r:=by
 unfold VU at h;split at h
 ·split at h
  ·rename_i fa ka a fb kb b;have e1:=jY hx;have e2:=jY hy;split at h
   ·split at h
    ·rename_i _ e _;subst e;obtain⟨u,hu,h⟩:=bind_some h;exact⟨_,PY.quo e1 e2 (cD hu),h⟩
    ·cases h
   ·split at h
    ·rename_i _ e _;subst e;obtain⟨u,hu,h⟩:=bind_some h;exact⟨_,PY.rem e1 e2 (cD hu),h⟩
    ·cases h
   ·obtain⟨u,hu,h⟩:=bind_some h;exact⟨_,PY.shr e1 e2 (cD hu),h⟩
   ·obtain⟨u,hu,h⟩:=bind_some h;exact⟨_,PY.shl e1 e2 (cD hu),h⟩
   ·split at h
    ·rename_i e _;subst e;split at h
     ·rename_i v hv;obtain⟨w,h1,h2⟩:=XQ hv s.ln;exact⟨v,by rw[h1];exact PY.bin e1 e2 h2,h⟩
     ·cases h
    ·cases h
  ·cases h
 ·split at h
  ·split at h
   ·obtain⟨u,hu,h⟩:=bind_some h;exact⟨_,PY.cat (GK hx) (GK hy) (cD hu),h⟩
   ·split at h
    ·rename_i v hv;obtain⟨w,h1,h2⟩:=XP hv s.ln;exact⟨v,by rw[h1];exact PY.bin (GK hx) (GK hy) h2,h⟩
    ·cases h
  ·cases h
 ·split at h
  ·split at h
   ·rename_i hu;split at h
    ·exact⟨_,PY.aaE (MN hx) (MN hy) hu,h⟩
    ·exact⟨_,PY.aaB (MN hx) (MN hy) hu,h⟩
    ·cases h
   ·cases h
  ·cases h
 ·exact Td hx hy h
 ·exact Td hx hy h
 ·cases h
end
end
end Go.DN
/-
 DN,part C:more operations that yield a value;a value seen as plain data.
-/
namespace Go.DN
open Go.AM
def RW (g g':G):Prop:=∀(O:Nat→Prop) (base:Nat) (w:World) (μ:Mu) (v:Value),aU O base w μ g v→aU O base w μ g' v
theorem RW.refl (g:G):RW g g:=fun _ _ _ _ _ h=>h
theorem RW.trans {a b c:G}(h:RW a b) (h':RW b c):RW a c:=fun _ _ _ _ _ x=>h' _ _ _ _ _ (h _ _ _ _ _ x)
theorem PY.rw {P:Program}{s:St}{o:Oper}{g g':G}(h:PY P s o g) (hw:RW g g'):PY P s o g':=fun N cx μ a w hr=>
 let ⟨v,h1,h2⟩:=h N cx μ a w hr
 ⟨v,hw _ _ _ _ _ h1,h2⟩
theorem bH.vW {O:Nat→Prop}{w:World}{cs:List G}{v:Value}(n:Nat) (h:bH O w (.ptr cs) v):bH O w (.ptr (cs.take n)) v:=by
 cases h with
 | ptr _ b off us h1 h2 h3 h4=>
  refine .ptr _ b off us h1 h2 (fun j hj=>h3 j ?_) (fun j g hg=>h4 j g ?_)
  ·rw[br] at hj;omega
  ·rw[bo] at hg;split at hg
   ·exact hg
   ·cases hg
def HN (f:Bool) (cs:List G):G:=bif f then .fr (.ptr cs) else .ptr cs
theorem RW.vW (f:Bool) (cs:List G) (n:Nat):RW (HN f cs) (HN f (cs.take n)):=by
 intro O base w μ v h;cases f with
 | true=>cases h with
  | aF h=>cases h
  | fr h=>exact .fr (bH.vW n h)
 | false=>cases h with
  | aF h=>exact .aF (bH.vW n h)
theorem RW.nil:RW (.val (.slice none 0 0)) (.fr (.sl 0 [])):=by
 intro O base w μ v h;cases h with
 | aF h=>cases h;exact .fr .nil
theorem RW.X3 (g:G):RW (DY g) g:=by
 intro O base w μ v h;cases g <;> first | exact h | (cases h with
  | aF h=>cases h
  | fr h=>exact .aF h.Ot)
theorem RW.dY (f f':Bool) (g:G) (h:f'=true→f=true):RW (DN.dY f g) (DN.dY f' g):=by
 cases f with
 | true=>cases f' with
  | true=>exact RW.refl _
  | false=>exact RW.X3 g
 | false=>cases f' with
  | true=>cases h rfl
  | false=>exact RW.refl _
theorem RW.agg {gs gs':List G}(hl:gs'.length=gs.length) (h:∀(j:Nat) (g':G),gs'[j]?=some g'→∃g,gs[j]?=some g∧RW g g'):RW (.agg gs) (.agg gs'):=by
 intro O base w μ v hv;cases hv with
 | aF hv=>cases hv with
  | agg _ us h1 h2=>exact .agg _ us (h1.trans hl.symm) fun j g' v hg' hv=>(by
    obtain⟨g,hg,hw⟩:=h j g' hg';exact hw _ _ _ _ _ (.aF (h2 j g v hg hv)))
 | agg _ us h1 h2=>exact .agg _ us (h1.trans hl.symm) fun j g' v hg' hv=>(by
   obtain⟨g,hg,hw⟩:=h j g' hg';exact hw _ _ _ _ _ (h2 j g v hg hv))
section
variable {S:eI}
def pk (τ:Ty):TV S→Option (Bool×S.D τ)
 | .aD f τ' a=>match τ'.gm with
  | true=>none
  | false=>match jv τ' τ a with
   | some b=>some (f||τ.iR,b)
   | none=>none
 | .val (.slice none 0 0)=>match τ with
  | .list _=>some (true,[])
  | _=>none
 | .val (.pointer none)=>match τ with
  | .pt n=>some (true,(none:Option (S.α n)))
  | _=>none
 | _=>none
theorem HC {τ:Ty}{v:TV S}{f:Bool}{a:S.D τ}(h:pk τ v=some (f,a)) (ln:Nat→Nat):τ.gm=false∧RW (v.er ln) (dY f (dI S τ a)):=by
 unfold pk at h;split at h
 ·rename_i f' τ' a';split at h
  ·cases h
  ·rename_i h1;split at h
   ·rename_i b hb;cases h;have:=eW hb;cases this;refine⟨h1,?_⟩;cases τ with
    | st n=>cases h1
    | _=>cases f' <;> exact RW.refl _
   ·cases h
 ·split at h
  ·cases h;exact⟨rfl,RW.nil⟩
  ·cases h
 ·split at h
  ·cases h;exact⟨rfl,RW.refl _⟩
  ·cases h
 ·cases h
def Ec:List Ty→List (TV S)→Option (Bool×List (bn S.α))
 | [],[]=>some (true,[])
 | τ::ts,v::vs=>match pk τ v with
  | some (f,a)=>match Ec ts vs with
   | some (g,l)=>some (f&&g,⟨τ,a⟩::l)
   | none=>none
  | none=>none
 | _,_=>none
theorem CZ (ln:Nat→Nat):∀{ts:List Ty}{vs:List (TV S)}{f:Bool}{l:List (bn S.α)},Ec ts vs=some (f,l)→
  l.length=vs.length∧∀(j:Nat) (x:bn S.α),l[j]?=some x→∃v,vs[j]?=some v∧RW (v.er ln) (dY f (dI S x.τ x.a))
 | [],[],_,_,h=>by cases h;exact⟨rfl,fun j x h=>by simp at h⟩
 | τ::ts,v::vs,f,l,h=>by
  simp only[Ec] at h;split at h
  ·rename_i f1 a h1;split at h
   ·rename_i g l' h2;cases h;obtain⟨i1,i2⟩:=CZ ln h2;obtain⟨_,h3⟩:=HC h1 ln;refine⟨by simp[i1],fun j x hx=>?_⟩;cases j with
    | zero=>cases hx;exact⟨v,rfl,h3.trans (RW.dY _ _ _ fun h=>by simp at h;exact h.1)⟩
    | succ j=>
     obtain⟨v',h4,h5⟩:=i2 j x hx;exact⟨v',h4,h5.trans (RW.dY _ _ _ fun h=>by simp at h;exact h.2)⟩
   ·cases h
  ·cases h
 | [],_::_,_,_,h=>by cases h
 | _::_,[],_,_,h=>by cases h
def FL (τ:Ty) (v:TV S):Option (Bool×S.D τ):=
 match v with
 | .aD f τ' a=>match jv τ' τ a with
  | some b=>some (f||τ.iR,b)
  | none=>none
 | .val (.slice none 0 0)=>match τ with
  | .list _=>some (true,[])
  | _=>none
 | .val (.pointer none)=>match τ with
  | .pt n=>some (true,(none:Option (S.α n)))
  | _=>none
 | .agg vs=>match τ with
  | .st n=>match Ec (S.cX n) vs with
   | some (f,l)=>match S.put n l with
    | some a=>some (f,a)
    | none=>none
   | none=>none
  | _=>none
 | _=>none
theorem X4 {τ:Ty}{v:TV S}{f:Bool}{a:S.D τ}(h:FL τ v=some (f,a)) (ln:Nat→Nat):RW (v.er ln) (oP f τ a):=by
 unfold FL at h;split at h
 ·split at h
  ·rename_i f' _ _ _ b hb;cases h;have:=eW hb;cases this;cases τ with
   | st n=>cases f' <;> exact RW.refl _
   | _=>cases f' <;> exact RW.refl _
  ·cases h
 ·split at h
  ·cases h;exact RW.nil
  ·cases h
 ·split at h
  ·cases h;exact RW.refl _
  ·cases h
 ·split at h
  ·rename_i _ vs _ n;split at h
   ·rename_i f1 l h1;split at h
    ·rename_i a1 h2;cases h;obtain⟨i1,i2⟩:=CZ ln h1;have h3:=S.gZ n l a h2;show RW (.agg (TV.er.go ln vs)) (.agg ((aX S (.st n) a).map (dY f)));rw[cP,ib,h3];refine RW.agg (by simp[i1]) fun j g' hg'=>?_;simp only[ak,Option.map_map] at hg';obtain⟨x,hx,rfl⟩:=az.1 hg';obtain⟨v,h4,h5⟩:=i2 j x hx;exact⟨v.er ln,by rw[ak,h4];rfl,h5⟩
    ·cases h
   ·cases h
  ·cases h
 ·cases h
def split (f:Bool) (n:Nat) (a:S.α n):List (TV S):=(S.cells n a).map fun x=>.aD f x.τ x.a
theorem qb {τ:Ty}(h:τ.gm=false) (f:Bool) (a:S.D τ) (ln:Nat→Nat):(TV.aD f τ a:TV S).er ln=dY f (dI S τ a):=by
 cases τ with
 | st n=>cases h
 | _=>rfl
theorem lu (n:Nat) (a:S.α n):∀x∈S.cells n a,x.τ.gm=false:=fun x hx=>
 S.one n _ (by rw[←S.nJ n a];exact kQ hx)
theorem Li (f:Bool) (n:Nat) (a:S.α n) (ln:Nat→Nat):TV.er.go ln (split f n a)=(aX S (.st n) a).map (dY f):=by
 rw[cP,ib];have h:=lu n a;unfold split;generalize S.cells n a=l at h
 induction l with
 | nil=>rfl
 | cons x r ih=>
  simp only[bc];rw[qb (h x ar),ih fun y hy=>h y (ap _ hy)]
def eH:TV S→List (TV S)
 | .agg l=>l
 | .aD f (.st n) a=>split f n a
 | v=>[v]
theorem Rz (v:TV S) (ln:Nat→Nat) (h:∀u,v=.val u→u.oneCell'=true):cT (v.er ln)=TV.er.go ln (eH v):=by
 have fr1:∀(f:Bool) (τ:Ty) (a:S.D τ),τ.gm=false→cT (dY f (dI S τ a))=[dY f (dI S τ a)]:=by
  intro f τ a hs;cases τ with
  | st n=>cases hs
  | pt n=>cases a <;> cases f <;> rfl
  | _=>cases f <;> rfl
 cases v with
 | aD f τ a=>
  cases τ with
  | st n=>exact(Li f n a ln).symm
  | _=>exact fr1 f _ a rfl
 | agg l=>rfl
 | ptr f τ a=>cases f <;> rfl
 | val u=>exact congrArg (List.map G.val) (congrArg Array.toList (A2 (h u rfl)))
 | iF b h τ i j=>cases b <;> rfl
 | gw b h off=>cases b <;> rfl
 | dX b h=>cases b <;> rfl
 | _=>rfl
end
end Go.DN
/-
 DN,part D:the operations that yield a value and leave the world alone,as one function.
-/
namespace Go.DN
open Go.AM
section
variable {S:eI}
def Vh (P:Program) (t:TypeId) (i:Nat) (x:TV S):Option (TV S):=
 match P.underlying t with
 | some (.struct fs)=>match fs[i]? with
  | some f=>match ny P f.type with
   | some (z+1)=>match x with
    | .loc h off=>some (.loc h (off+f.offset))
    | .iK h τ i j=>some (.iK h τ i (j+f.offset))
    | .kp h (.list τ) i j=>some (.kp h (.list τ) i (j+f.offset))
    | .ptr fl (.st n) a=>match IW P f.type with
     | some false=>match (S.cells n a)[f.offset]? with
      | some y=>some (.ptr fl y.τ y.a)
      | none=>none
     | some true=>match S.ty f.type with
      | some n'=>match S.put n' (((S.cells n a).drop f.offset).take (z+1)) with
       | some a'=>some (.ptr fl (.st n') a')
       | none=>none
      | none=>none
     | none=>none
    | _=>none
   | _=>none
  | none=>none
 | _=>none
def Vg (P:Program) (t:TypeId) (i:Nat) (x:TV S):Option (TV S):=
 match P.underlying t with
 | some (.struct fs)=>match fs[i]? with
  | some f=>match IW P f.type with
   | some false=>match x with
    | .agg l=>l[f.offset]?
    | .aD fl (.st n) a=>match (S.cells n a)[f.offset]? with
     | some y=>some (.aD fl y.τ y.a)
     | none=>none
    | _=>none
   | _=>none
  | none=>none
 | _=>none
section
variable {P:Program}{s:ae S}{dst:Option Tmp}{ty:TypeId}{pos:String}{after:Array Edge}{guard:Option (Nat×Bool)}
theorem Xw {t:TypeId}{i:Nat}{x:Operand}{vx v:TV S}(hx:cu s x=some vx) (h:Vg P t i vx=some v):
  PY P s.er ⟨dst,.field t x i,ty,pos,after,guard⟩ (v.er s.ln):=by
 unfold Vg at h;split at h
 ·rename_i fs hu;split at h
  ·rename_i f hf;split at h
   ·rename_i ha;split at h
    ·rename_i l;refine PY.S6 (gs:=TV.er.go s.ln l) (bh hx) hu hf (gC ha) ?_;rw[cP,ak,h];rfl
    ·rename_i fl n a;split at h
     ·rename_i y hy;cases h;refine PY.S6 (gs:=(aX S (.st n) a).map (dY fl)) (bh hx) hu hf (gC ha) ?_;rw[←Li fl n a s.ln,cP,ak];unfold split;rw[ak,hy];rfl
     ·cases h
    ·cases h
   ·cases h
  ·cases h
 ·cases h
theorem GO (f:Bool) (τ:Ty) (a:S.D τ) (ln:Nat→Nat):(TV.ptr f τ a:TV S).er ln=HN f (aX S τ a):=rfl
theorem Xx {t:TypeId}{i:Nat}{x:Operand}{vx v:TV S}(hx:cu s x=some vx) (h:Vh P t i vx=some v):
  PY P s.er ⟨dst,.fieldAddr t x i,ty,pos,after,guard⟩ (v.er s.ln):=by
 unfold Vh at h;split at h
 ·rename_i fs hu;split at h
  ·rename_i f hf;split at h
   ·rename_i z hz;split at h
    ·cases h;exact PY.field (bh hx) rfl hu hf (dC hz) (by omega)
    ·cases h;rename_i hh τ i' j;refine PY.rw (PY.field (g':=.loc hh (i'*S.sz τ+j+f.offset)) (bh hx) rfl hu hf (dC hz) (by omega)) ?_;show RW _ (.loc hh (i'*S.sz τ+(j+f.offset)));rw[Nat.add_assoc];exact RW.refl _
    ·cases h;rename_i hh τ i' j;refine PY.rw (PY.field (g':=.kp hh i' (j*S.sz (.list τ)+f.offset)) (bh hx) rfl hu hf (dC hz) (by omega)) ?_;show RW _ (.kp hh i' ((j+f.offset)*S.sz (.list τ)));rw[show S.sz (.list τ)=1 from rfl,pg,pg];exact RW.refl _
    ·rename_i fl n a;have key:∀(cs:List G) (m:Nat),((aX S (.st n) a).drop f.offset).take m=cs→PY P s.er ⟨dst,.fieldAddr t x i,ty,pos,after,guard⟩ (HN fl cs):=by
      intro cs m he;subst he;have e0:=bh hx;rw[GO] at e0;refine PY.rw (PY.field (g':=HN fl ((aX S (.st n) a).drop f.offset)) e0 ?_ hu hf (dC hz) (by omega)) (RW.vW _ _ _);cases fl <;> rfl
     split at h
     ·split at h
      ·rename_i y hy;cases h;refine key _ 1 ?_;rw[ib,jV S (lu n a y (aj hy))];rw[←List.map_drop,←List.map_take];have:((S.cells n a).drop f.offset).take 1=[y]:=by
        have:=ai.1 hy;obtain⟨h1,h2⟩:=this;rw[cM h1,h2];rfl
       rw[this];rfl
      ·cases h
     ·split at h
      ·rename_i n' _;split at h
       ·rename_i a' h';cases h;refine key _ (z+1) ?_;rw[ib,ib,S.gZ _ _ _ h',List.map_take,List.map_drop]
       ·cases h
      ·cases h
     ·cases h
    ·cases h
   ·cases h
  ·cases h
 ·cases h
def BM (h:Nat) (τ:Ty) (o n:Nat) (lo hi:Option (TV S)){A:Type}(k:TV S→Option A):Option A:=
 match lo,hi with
 | some (.aD _ (.int _) i),some (.aD _ (.int _) j)=>(bj (0≤i∧i≤j∧j≤(n:Int))).bind fun _=>k (.sub h τ (o+Int.toNat i) (Int.toNat j-Int.toNat i))
 | some (.aD _ (.int _) i),none=>(bj (0≤i∧i≤(n:Int))).bind fun _=>k (.sub h τ (o+Int.toNat i) (n-Int.toNat i))
 | none,some (.aD _ (.int _) j)=>(bj (0≤j∧j≤(n:Int))).bind fun _=>k (.sub h τ o (Int.toNat j))
 | none,none=>none
 | _,_=>none
def Ua (ln:Nat→Nat) (t:TypeId) (P:Program) (x:TV S) (lo hi:Option (TV S)){A:Type}(k:TV S→Option A):Option A:=
 match P.underlying t with
 | some (.slice e)=>match x with
  | .aD f (.list τ) l=>match decEq (ny P e) (some (S.sz τ)) with
   | isFalse _=>none
   | isTrue _=>match lo,hi with
    | some (.aD _ (.int _) i),some (.aD _ (.int _) j)=>(bj (0≤i∧i≤j∧j≤(List.length l:Int))).bind fun _=>k (.aD f (.list τ) (eG l i j))
    | some (.aD _ (.int _) i),none=>(bj (0≤i∧i≤(List.length l:Int))).bind fun _=>k (.aD f (.list τ) (eG l i (List.length l:Int)))
    | none,some (.aD _ (.int _) j)=>(bj (0≤j∧j≤(List.length l:Int))).bind fun _=>k (.aD f (.list τ) (eG l 0 j))
    | _,_=>none
  | .aL h τ=>match decEq (ny P e) (some (S.sz τ)) with
   | isFalse _=>none
   | isTrue _=>BM h τ 0 (ln h) lo hi k
  | .sub h τ o n=>match decEq (ny P e) (some (S.sz τ)) with
   | isFalse _=>none
   | isTrue _=>BM h τ o n lo hi k
  | _=>none
 | some .string=>match x with
  | .aD _ .str b=>match lo,hi with
   | some (.aD _ (.int _) i),some (.aD _ (.int _) j)=>(bj (0≤i∧i≤j∧j≤(b.size:Int))).bind fun _=>k (.aD true .str (b.extract i.toNat j.toNat))
   | some (.aD _ (.int _) i),none=>(bj (0≤i∧i≤(b.size:Int))).bind fun _=>k (.aD true .str (b.extract i.toNat b.size))
   | none,some (.aD _ (.int _) j)=>(bj (0≤j∧j≤(b.size:Int))).bind fun _=>k (.aD true .str (b.extract 0 j.toNat))
   | _,_=>none
  | _=>none
 | _=>none
theorem aU.BM {O:Nat→Prop}{base:Nat}{w:World}{μ:Mu}{h sz off n i j:Nat}{v:Value}(hv:aU O base w μ (.aL h sz off n) v) (h1:i≤j) (h2:j≤n):
  ∃(a:Option Addr) (cap:Nat),v=.slice a n cap∧n≤cap∧aU O base w μ (.aL h sz (off+i*sz) (j-i)) (sliced a i j cap sz):=by
 cases hv with
 | aF hv=>cases hv
 | gk _ _ hm=>
  obtain rfl:i=0:=by omega
  obtain rfl:j=0:=by omega
  refine⟨none,0,rfl,aG _,?_⟩;simp only[sliced,gJ,fZ,if_true];exact .gk h sz hm
 | aL _ _ _ _ b m cap hm hn hc=>
  refine⟨_,cap,rfl,hn,?_⟩;unfold sliced
  by_cases e:cap=i
  ·rw[if_pos e];have hj:j-i=0:=by omega
   have hci:cap-i=0:=by omega
   rw[hj,hci]
   by_cases hpos:0<m.1
   ·have:off+i*sz=m.1:=by rw[←e];exact hc
    rw[this];exact .fq h sz off b m.1 hm hpos
   ·have h5:off=0:=by omega
    have h6:i*sz=0:=by rw[←e];omega
    rw[h5,h6];exact .aL h sz 0 0 b m 0 hm (aG _) (by omega)
  ·rw[if_neg e];simp only[cd,Addr.lz];refine .aL h sz _ _ b m _ hm (by omega) ?_;have:i*sz+(cap-i)*sz=cap*sz:=by rw[←ff];congr 1;omega
   omega
 | fq _ _ off0 b m hm hpos=>
  obtain rfl:i=0:=by omega
  obtain rfl:j=0:=by omega
  refine⟨_,0,rfl,aG _,?_⟩;simp only[sliced,gJ,fZ,if_true];exact .fq h sz off0 b _ hm hpos
theorem vL (f:Bool) (τ:Ty) (l:List (S.D τ)) (ln:Nat→Nat):(TV.aD f (.list τ) l:TV S).er ln=@FO _ (mY S τ) f l:=by cases f <;> rfl
def rS (s:ae S):Option Operand→Option (Option (TV S))
 | none=>some none
 | some x=>match cu s x with
  | some v=>some (some v)
  | none=>none
theorem Pu {j:Int}{n:Nat}(h:j≤(n:Int)):j.toNat≤n:=by omega
theorem SA {j:Int}{n cap:Nat}(h:j≤(n:Int)) (h':n≤cap):j≤(cap:Int):=by omega
theorem N7 {t e:TypeId}{x:Operand}{lo hi:Option Operand}{h n o:Nat}{τ:Ty}{vl vh:Option (TV S)}{A:Type}{k:TV S→Option A}{r:A}(hx:ev s.er x=some (.aL h (S.sz τ) (o*S.sz τ) n))
  (hl:rS s lo=some vl) (hh:rS s hi=some vh) (hu:P.underlying t=some (.slice e)) (hz:ny P e=some (S.sz τ))
  (hk:BM h τ o n vl vh k=some r):∃v,PY P s.er ⟨dst,.slice t x lo hi none,ty,pos,after,guard⟩ (v.er s.ln)∧k v=some r:=by
 letI:=mY S τ
 have opS:∀{o:Option Operand}{v:TV S},rS s o=some (some v)→∃y,o=some y∧cu s y=some v:=by
  intro o v h;cases o with
  | none=>cases h
  | some y=>
   simp only[rS] at h;split at h
   ·rename_i v' hv;cases h;exact⟨y,rfl,hv⟩
   ·cases h
 have opN:∀{o:Option Operand},rS s o=some none→o=none:=by
  intro o h;cases o with
  | none=>rfl
  | some y=>
   simp only[rS] at h;split at h <;> cases h
 have er:∀(i m:Nat),(TV.sub h τ (o+i) m:TV S).er s.ln=.aL h (S.sz τ) (o*S.sz τ+i*S.sz τ) m:=by
  intro i m;show G.aL h (S.sz τ) ((o+i)*S.sz τ) m=_;rw[ff]
 unfold BM at hk;split at hk
 ·obtain⟨u,hc,hk⟩:=bind_some hk;obtain⟨y,rfl,hy⟩:=opS hl;obtain⟨y',rfl,hy'⟩:=opS hh;obtain⟨c1,c2,c3⟩:=cD hc;refine⟨_,?_,hk⟩;rw[er];intro N cx μ a w hr;obtain⟨ad,cap,e1,e2,e3⟩:=aU.BM (hr.ev hx) (Int.toNat_le_toNat c2) (Pu c3);refine⟨_,e3,fun w'=>?_⟩;simp[execOp,e1,hr.val (jY hy),hr.val (jY hy'),Lq (α:=S.D τ) (P:=P) hu (dC hz) ad n cap c1 c2 (SA c3 e2) w'];rfl
 ·obtain⟨u,hc,hk⟩:=bind_some hk;obtain⟨y,rfl,hy⟩:=opS hl;cases opN hh;obtain⟨c1,c2⟩:=cD hc;refine⟨_,?_,hk⟩;rw[er];intro N cx μ a w hr;obtain⟨ad,cap,e1,e2,e3⟩:=aU.BM (i:=Int.toNat _) (j:=n) (hr.ev hx) (Pu c2) (aG _);refine⟨_,e3,fun w'=>?_⟩;simp[execOp,e1,hr.val (jY hy),FR (α:=S.D τ) (P:=P) hu (dC hz) ad n cap c1 c2 w'];rfl
 ·obtain⟨u,hc,hk⟩:=bind_some hk;cases opN hl;obtain⟨y,rfl,hy⟩:=opS hh;obtain⟨c1,c2⟩:=cD hc;refine⟨_,?_,hk⟩;have:=er 0 (Int.toNat ‹_›);rw[fZ] at this;rw[this];intro N cx μ a w hr;obtain⟨ad,cap,e1,e2,e3⟩:=aU.BM (i:=0) (j:=Int.toNat _) (hr.ev hx) (iV _) (Pu c2);refine⟨_,e3,fun w'=>?_⟩;simp[execOp,e1,hr.val (jY hy),va (α:=S.D τ) (P:=P) hu (dC hz) ad n cap c1 (SA c2 e2) w'];rfl
 ·cases hk
 ·cases hk
theorem WQ {t:TypeId}{x:Operand}{lo hi:Option Operand}{vx:TV S}{vl vh:Option (TV S)}{A:Type}{k:TV S→Option A}{r:A}(hx:cu s x=some vx) (hl:rS s lo=some vl) (hh:rS s hi=some vh)
  (h:Ua s.ln t P vx vl vh k=some r):∃v,PY P s.er ⟨dst,.slice t x lo hi none,ty,pos,after,guard⟩ (v.er s.ln)∧k v=some r:=by
 have opS:∀{o:Option Operand}{v:TV S},rS s o=some (some v)→∃y,o=some y∧cu s y=some v:=by
  intro o v h;cases o with
  | none=>cases h
  | some y=>
   simp only[rS] at h;split at h
   ·rename_i v' hv;cases h;exact⟨y,rfl,hv⟩
   ·cases h
 have opN:∀{o:Option Operand},rS s o=some none→o=none:=by
  intro o h;cases o with
  | none=>rfl
  | some y=>
   simp only[rS] at h;split at h <;> cases h
 unfold Ua at h;split at h
 ·rename_i e hu;split at h
  ·rename_i f τ l;split at h
   ·cases h
   ·rename_i hz _;have e0:=bh hx;rw[vL] at e0;split at h
    ·obtain⟨u,hc,h⟩:=bind_some h;obtain⟨y,rfl,hy⟩:=opS hl;obtain⟨y',rfl,hy'⟩:=opS hh;obtain⟨c1,c2,c3⟩:=cD hc;refine⟨_,?_,h⟩;rw[vL]
     letI:=mY S τ;exact PY.slice (α:=S.D τ) e0 (jY hy) (jY hy') hu (dC hz) c1 c2 c3
    ·obtain⟨u,hc,h⟩:=bind_some h;obtain⟨y,rfl,hy⟩:=opS hl;cases opN hh;obtain⟨c1,c2⟩:=cD hc;refine⟨_,?_,h⟩;rw[vL]
     letI:=mY S τ;exact PY.Yd (α:=S.D τ) e0 (jY hy) hu (dC hz) c1 c2
    ·obtain⟨u,hc,h⟩:=bind_some h;cases opN hl;obtain⟨y,rfl,hy⟩:=opS hh;obtain⟨c1,c2⟩:=cD hc;refine⟨_,?_,h⟩;rw[vL]
     letI:=mY S τ;exact PY.Ye (α:=S.D τ) e0 (jY hy) hu (dC hz) c1 c2
    ·cases h
  ·split at h
   ·cases h
   ·rename_i hz _;refine N7 (n:=s.ln _) (o:=0) ?_ hl hh hu hz h;rw[bh hx,gJ];rfl
  ·split at h
   ·cases h
   ·rename_i hz _;exact N7 (bh hx) hl hh hu hz h
  ·cases h
 ·rename_i hu;split at h
  ·rename_i b;have e0:=GK hx;split at h
   ·obtain⟨u,hc,h⟩:=bind_some h;obtain⟨y,rfl,hy⟩:=opS hl;obtain⟨y',rfl,hy'⟩:=opS hh;obtain⟨c1,c2,c3⟩:=cD hc;exact⟨_,PY.Ya e0 (jY hy) (jY hy') hu c1 c2 c3,h⟩
   ·obtain⟨u,hc,h⟩:=bind_some h;obtain⟨y,rfl,hy⟩:=opS hl;cases opN hh;obtain⟨c1,c2⟩:=cD hc;exact⟨_,PY.WN e0 (jY hy) hu c1 c2,h⟩
   ·obtain⟨u,hc,h⟩:=bind_some h;cases opN hl;obtain⟨y,rfl,hy⟩:=opS hh;obtain⟨c1,c2⟩:=cD hc;exact⟨_,PY.WO e0 (jY hy) hu c1 c2,h⟩
   ·cases h
  ·cases h
 ·cases h
end
end
end Go.DN
/-
 DN,part E:the operations that yield a value,put together.
-/
namespace Go.DN
open Go.AM
section
variable {S:eI}
def okV:TV S→Bool
 | .any=>false
 | .val u=>u.oneCell'
 | _=>true
theorem tc {v:TV S}(h:okV v=true) (ln:Nat→Nat):Gv (v.er ln)=true:=by
 cases v with
 | aD f τ a=>cases τ with
  | st n=>rfl
  | pt n=>cases a <;> cases f <;> rfl
  | _=>cases f <;> rfl
 | ptr f τ a=>cases f <;> rfl
 | iF b h τ i j=>cases b <;> rfl
 | gw b h off=>cases b <;> rfl
 | dX b h=>cases b <;> rfl
 | any=>cases h
 | _=>rfl
theorem xe {v:TV S}(h:okV v=true) (ln:Nat→Nat):cT (v.er ln)=TV.er.go ln (eH v):=Rz v ln fun u e=>by subst e;exact h
def Kw (places:List (Nat×Nat)) (cells:List (TV S)):List (Nat×TV S)→Option (List (TV S))
 | []=>some cells
 | (i,v)::r=>match places[i]? with
  | some (off,size)=>match okV v&&(Nat.beq (eH v).length size&&Nat.ble (off+size) cells.length) with
   | true=>Kw places (setAt cells off (eH v)) r
   | false=>none
  | none=>none
theorem Jc {α β:Type}(f:α→β):∀(xs:List α) (off:Nat) (cs:List α),(setAt cs off xs).map f=setAt (cs.map f) off (xs.map f)
 | [],_,_=>rfl
 | x::r,off,cs=>by simp only[setAt,bc,Jc f r,nP]
theorem K8 (ln:Nat→Nat) (places:List (Nat×Nat)):∀{parts:List (Nat×TV S)}{cells out:List (TV S)},Kw places cells parts=some out→
  Di (places[·]?) (TV.er.go ln cells) (parts.map fun x=>(x.1,x.2.er ln))=some (TV.er.go ln out)
 | [],_,_,h=>by cases h;rfl
 | (i,v)::r,cells,out,h=>by
  simp only[Kw] at h;split at h
  ·rename_i off size hp;split at h
   ·rename_i hc;simp only[af] at hc;obtain⟨h1,h2,h3⟩:=hc;have h4:=tc h1 ln;have h5:=xe h1 ln;have ih:=K8 ln places h;simp only[bc,Di,hp];have h6:(cT (v.er ln)).length=(eH v).length:=by rw[h5,cP,aN]
    have h7:(TV.er.go ln cells).length=cells.length:=by rw[cP,aN]
    rw[h4,h6,h7,h2,h3,h5];simp only[ij];have h8:setAt (TV.er.go ln cells) off (TV.er.go ln (eH v))=TV.er.go ln (setAt cells off (eH v)):=by
     simp only[cP,Jc]
    rw[h8];exact ih
   ·cases h
  ·cases h
def Pw (s:ae S):List (Nat×Operand)→Option (List (Nat×TV S))
 | []=>some []
 | (i,x)::r=>match cu s x with
  | some v=>match Pw s r with
   | some vs=>some ((i,v)::vs)
   | none=>none
  | none=>none
theorem N2 {s:ae S}:∀{l:List (Nat×Operand)}{vs:List (Nat×TV S)},Pw s l=some vs→MM s.er l=some (vs.map fun x=>(x.1,x.2.er s.ln))
 | [],_,h=>by cases h;rfl
 | (i,x)::r,vs,h=>by
  simp only[Pw] at h;split at h
  ·rename_i v hv;split at h
   ·rename_i vs' hr;cases h;simp only[MM,bh hv,N2 hr,bc]
   ·cases h
  ·cases h
def uL (s:ae S):List Operand→Option (List (TV S))
 | []=>some []
 | x::r=>match cu s x with
  | some v=>match uL s r with
   | some vs=>some (v::vs)
   | none=>none
  | none=>none
theorem nw {s:ae S}:∀{l:List Operand}{vs:List (TV S)},uL s l=some vs→l.map (ev s.er)=(TV.er.go s.ln vs).map some∧wu s.er l=some (TV.er.go s.ln vs)
 | [],_,h=>by cases h;exact⟨rfl,rfl⟩
 | x::r,vs,h=>by
  simp only[uL] at h;split at h
  ·rename_i v hv;split at h
   ·rename_i vs' hr;cases h;obtain⟨i1,i2⟩:=nw hr;exact⟨by simp only[bc,TV.er.go,bh hv,i1],by simp only[TV.er.go,wu,bh hv,i2]⟩
   ·cases h
  ·cases h
def Qq (s:ae S):TV S→Option Int
 | .aD _ (.list _) l=>some (List.length l:Int)
 | .aL h _=>match aA s.bl h with
  | some (.arr _ _ _ _ l)=>some (List.length l:Int)
  | some (.deep _ _ _ _ τ a)=>some (xN τ a:Int)
  | _=>none
 | .ks _ _ _ n=>some (n:Int)
 | .sub _ _ _ n=>some (n:Int)
 | .val (.slice none 0 0)=>some 0
 | _=>none
def U4 (P:Program) (t:TypeId) (v:TV S) (y:Operand):Option Bool:=
 match v with
 | .aD _ .dw b=>match y with
  | .const .nilIface=>match P.underlying t with
   | some (.interface _)=>some b
   | _=>none
  | _=>none
 | _=>none
theorem Xp {P:Program}{t:TypeId}{v:TV S}{y:Operand}{b:Bool}(h:U4 P t v y=some b) (ln:Nat→Nat):y=.const .nilIface∧(∃ms,P.underlying t=some (.interface ms))∧∀o:Option G,o=some (v.er ln)→o=some (.dw b)∨o=some (.fr (.dw b)):=by
 unfold U4 at h;split at h
 ·rename_i f b';split at h
  ·split at h
   ·rename_i hu;cases h;refine⟨rfl,⟨_,hu⟩,fun o ho=>?_⟩;subst ho;cases f
    ·exact .inl rfl
    ·exact .inr rfl
   ·cases h
  ·cases h
 ·cases h
def nilPtr (P:Program) (t:TypeId) (v:TV S) (y:Operand):Option Bool:=
 match y with
 | .const (.pointer none)=>match P.underlying t with
  | some (.pointer _)=>match v with
   | .kp _ _ _ _=>some false
   | .iF b _ _ _ _=>some b
   | .gw b _ _=>some b
   | .val (.pointer none)=>some true
   | .loc _ _=>some false
   | .aD _ (.pt n) o=>some (Option.isNone (o:Option (S.α n)))
   | _=>none
  | _=>none
 | _=>none
theorem Sj {P:Program}{t:TypeId}{v:TV S}{y:Operand}{b:Bool}(h:nilPtr P t v y=some b) (ln:Nat→Nat):y=.const (.pointer none)∧(∃e,P.underlying t=some (.pointer e))∧vX (v.er ln)=some b:=by
 unfold nilPtr at h;split at h
 ·split at h
  ·rename_i e hu;refine⟨rfl,⟨e,hu⟩,?_⟩;split at h
   ·cases h;rfl
   ·cases h;cases b <;> rfl
   ·cases h;cases b <;> rfl
   ·cases h;rfl
   ·cases h;rfl
   ·rename_i f n o;cases h;cases o <;> cases f <;> rfl
   ·cases h
  ·cases h
 ·cases h
def L2 (P:Program) (t:TypeId) (v:TV S) (y:Operand):Option Bool:=
 match y with
 | .const (.map none)=>match P.underlying t with
  | some (.map _ _)=>match v with
   | .mp _=>some false
   | .dX b _=>some b
   | .val (.map none)=>some true
   | _=>none
  | _=>none
 | _=>none
theorem Sk {P:Program}{t:TypeId}{v:TV S}{y:Operand}{b:Bool}(h:L2 P t v y=some b) (ln:Nat→Nat):y=.const (.map none)∧(∃kt et,P.underlying t=some (.map kt et))∧AM.wb (v.er ln)=some b:=by
 unfold L2 at h;split at h
 ·split at h
  ·rename_i kt et hu;refine⟨rfl,⟨kt,et,hu⟩,?_⟩;split at h
   ·cases h;rfl
   ·cases h;cases b <;> rfl
   ·cases h;rfl
   ·cases h
  ·cases h
 ·cases h
def Xm (s:ae S) (x:Operand):Option Operand→Option Operand→Bool
 | some _,some _=>match cu s x with
  | some (.sub h _ _ _)=>match aA s.bl h with
   | some (.arr _ _ _ _ _)=>true
   | _=>false
  | _=>false
 | _,_=>false
def Ub (P:Program) (s:ae S) (t:TypeId) (x:Operand) (lo hi:Option Operand){A:Type}(k:TV S→Option A):Option A:=
 match lo,hi with
 | some lo,some hi=>match P.underlying t with
  | some (.slice e)=>match cu s x with
   | some (.sub h τ o n)=>match aA s.bl h with
    | some (.arr _ _ _ τ' l)=>match decEq τ' τ with
     | isTrue _=>match decEq (ny P e) (some (S.sz τ')) with
      | isTrue _=>match cu s lo with
       | some (.aD _ (.int _) i)=>match cu s hi with
        | some (.aD _ (.int _) j)=>(bj (0≤i∧i≤j∧o+Int.toNat j≤List.length l)).bind fun _=>k (.sub h τ (o+Int.toNat i) (Int.toNat j-Int.toNat i))
        | _=>none
       | _=>none
      | isFalse _=>none
     | isFalse _=>none
    | _=>none
   | _=>none
  | _=>none
 | _,_=>none
def X9 (s:ae S):TV S→Option Nat
 | .aL h _=>some (s.ln h)
 | .sub _ _ _ n=>some n
 | _=>none
def Uc (P:Program) (s:ae S) (t:TypeId) (x lo hi mx:Operand){A:Type}(k:TV S→Option A):Option A:=
 match P.underlying t with
 | some (.slice e)=>match ny P e with
  | some _=>match cu s x with
   | some vx=>match X9 s vx with
    | some n=>match cu s lo with
     | some (.aD _ (.int _) i)=>match cu s hi with
      | some (.aD _ (.int _) j)=>match cu s mx with
       | some (.aD _ (.int _) m)=>(bj (0≤i∧i≤j∧j≤m∧m≤(n:Int))).bind fun _=>k .any
       | _=>none
      | _=>none
     | _=>none
    | none=>none
   | none=>none
  | none=>none
 | _=>none
def R2 (P:Program) (s:ae S) (op:Op){A:Type}(k:TV S→Option (bn S.α)→Option A):Option A:=
 match op with
 | .move x=>match cu s x with
  | some v=>k v none
  | none=>none
 | .assign x=>match cu s x with
  | some v=>k v none
  | none=>none
 | .pick c x y=>match cu s c with
  | some (.aD _ .bool b)=>match b with
   | true=>match cu s x with
    | some v=>k v none
    | none=>none
   | false=>match cu s y with
    | some v=>k v none
    | none=>none
  | _=>none
 | .binOp op t x y _=>match cu s x with
  | some vx=>match nilPtr P t vx y with
   | some b=>match op with
    | .eql=>k (.aD true .bool b) none
    | .neq=>k (.aD true .bool (!b)) none
    | _=>none
   | none=>match U4 P t vx y with
    | some b=>match op with
     | .eql=>k (.aD true .bool (!b)) none
     | .neq=>k (.aD true .bool b) none
     | _=>none
    | none=>match L2 P t vx y with
     | some b=>match op with
      | .eql=>k (.aD true .bool b) none
      | .neq=>k (.aD true .bool (!b)) none
      | _=>none
     | none=>match cu s y with
      | some vy=>VU P op t vx vy fun v=>k v none
      | none=>none
  | none=>none
 | .unOp op _ x=>match op with
  | .not=>match cu s x with
   | some (.aD _ .bool b)=>k (.aD true .bool (!b)) none
   | _=>none
  | .neg=>match cu s x with
   | some (.aD _ (.int ki) a)=>k (.aD true (.int ki) (ki.wrap (0-a))) none
   | _=>none
  | _=>none
 | .convert t t' x=>match P.underlying t with
  | some _=>match P.underlying t' with
   | some (.int ki)=>match cu s x with
    | some (.aD _ (.int _) a)=>k (.aD true (.int ki) (ki.wrap a)) none
    | _=>none
   | some .string=>match cu s x with
    | some (.aD _ .str a)=>k (.aD true .str a) none
    | _=>none
   | _=>none
  | none=>none
 | .extract x i=>match cu s x with
  | some (.bB l)=>match l[i]? with
   | some v=>k v none
   | none=>none
  | _=>none
 | .field t x i=>match cu s x with
  | some vx=>match Vg P t i vx with
   | some v=>k v none
   | none=>none
  | none=>none
 | .fieldAddr t x i=>match cu s x with
  | some vx=>match Vh P t i vx with
   | some v=>k v none
   | none=>none
  | none=>none
 | .indexAddr t x y=>match P.underlying t with
  | some (.slice e)=>match cu s y with
   | some (.aD _ (.int _) i)=>match cu s x with
    | some (.aD f (.list τ) l)=>match decEq (ny P e) (some (S.sz τ)) with
     | isTrue _=>(idx l i).bind fun a=>k (.ptr f τ a) none
     | isFalse _=>none
    | some (.aL h τ)=>match decEq (ny P e) (some (S.sz τ)) with
     | isTrue _=>match aA s.bl h with
      | some (.arr _ _ _ τ' l)=>match decEq τ' τ with
       | isTrue _=>(idx l i).bind fun a=>k (.iK h τ i.toNat 0) (some ⟨τ',a⟩)
       | isFalse _=>none
      | some (.deep _ _ _ _ τ' a)=>(bj (0≤i∧i<(xN τ' a:Int))).bind fun _=>k (.iK h τ i.toNat 0) none
      | _=>none
     | isFalse _=>none
    | some (.sub h τ o n)=>match decEq (ny P e) (some (S.sz τ)) with
     | isTrue _=>match aA s.bl h with
      | some (.arr _ _ _ τ' l)=>match decEq τ' τ with
       | isTrue _=>(bj (0≤i∧i<(n:Int))).bind fun _=>(l[o+i.toNat]?).bind fun a=>k (.iK h τ (o+i.toNat) 0) (some ⟨τ',a⟩)
       | isFalse _=>none
      | some (.box _ _ _)=>(bj (0≤i∧i<(n:Int))).bind fun _=>k (.iK h τ (o+i.toNat) 0) none
      | _=>none
     | isFalse _=>none
    | some (.ks h τ j n)=>match decEq (ny P e) (some (S.sz τ)) with
     | isTrue _=>(bj (0≤i∧i<(n:Int))).bind fun _=>k (.kp h τ j i.toNat) none
     | isFalse _=>none
    | _=>none
   | _=>none
  | some (.array n e)=>match cu s y with
   | some (.aD _ (.int _) i)=>match cu s x with
    | some (.loc h off)=>match P.underlying e with
     | some (.int ki)=>match decEq (ny P e) (some 1) with
      | isTrue _=>(bj (0≤i∧i<(n:Int))).bind fun _=>k (.iK h (.int ki) i.toNat off) none
      | isFalse _=>none
     | _=>none
    | _=>none
   | _=>none
  | _=>none
 | .index t x y=>match P.underlying t with
  | some .string=>match cu s x with
   | some (.aD _ .str b)=>match cu s y with
    | some (.aD _ (.int _) i)=>(VV b i).bind fun c=>k (.aD true (.int .u8) (c.toNat:Int)) none
    | _=>none
   | _=>none
  | _=>none
 | .slice t x lo hi none=>match Xm s x lo hi with
  | true=>Ub P s t x lo hi fun v=>k v none
  | false=>match cu s x with
   | some vx=>match rS s lo with
    | some vl=>match rS s hi with
     | some vh=>Ua s.ln t P vx vl vh fun v=>k v none
     | none=>none
    | none=>none
   | none=>none
 | .slice t x (some lo) (some hi) (some mx)=>Uc P s t x lo hi mx fun v=>k v none
 | .makeFunc (.func f) first caps=>match first.toList with
  | []=>match uL s caps.toList with
   | some vs=>match tG.contains f with
    | false=>k (.ba f vs) none
    | true=>none
   | none=>none
  | [x]=>match caps.toList with
   | []=>match cu s x with
    | some v=>match tG.contains f with
     | true=>k (.ba f [v]) none
     | false=>none
    | none=>none
   | _=>none
  | _=>none
 | .nilCheck x=>match cu s x with
  | some v=>match v with
   | .loc _ _=>k v none
   | .iK _ _ _ _=>k v none
   | .ptr _ _ _=>k v none
   | .ba _ _=>k v none
   | .kp _ _ _ _=>k v none
   | .iF b h τ i j=>(bj (b=false)).bind fun _=>k (.kp h τ i j) none
   | .aD f (.pt n) o=>Option.bind (o:Option (S.α n)) fun a=>k (.ptr f (.st n) a) none
   | _=>none
  | none=>none
 | .call c=>match c.callee with
  | .builtin .len=>match c.args.toList,c.argTypes.toList with
   | [x],[t]=>match P.underlying t with
    | some (.slice _)=>match cu s x with
     | some v=>match Qq s v with
      | some n=>k (.aD true (.int .i64) n) none
      | none=>none
     | none=>none
    | some .string=>match cu s x with
     | some (.aD _ .str b)=>k (.aD true (.int .i64) (b.size:Int)) none
     | _=>none
    | _=>none
   | _,_=>none
  | .builtin .min=>match c.args.toList with
   | [x,y]=>match cu s x,cu s y with
    | some (.aD _ (.int ki) a),some (.aD _ (.int _) b)=>k (.aD true (.int ki) (if b<a then b else a)) none
    | _,_=>none
   | _=>none
  | .builtin .max=>match c.args.toList with
   | [x,y]=>match cu s x,cu s y with
    | some (.aD _ (.int ki) a),some (.aD _ (.int _) b)=>k (.aD true (.int ki) (if b>a then b else a)) none
    | _,_=>none
   | _=>none
  | _=>none
 | .build t parts=>match P.underlying t with
  | some (.struct fs)=>match (P.info? t).bind (·.zero) with
   | some z=>match fs.toList.mapM (fun f=>(P.info? f.type).map fun i=>(f.offset,i.size)) with
    | some places=>match Pw s parts.toList with
     | some vs=>match Kw places (z.cells.toList.map vP) vs with
      | some out=>k (.agg out) none
      | none=>none
     | none=>none
    | none=>none
   | none=>none
  | _=>none
 | _=>none
def TI (s:ae S) (v:TV S):Option (bn S.α)→Prop
 | none=>True
 | some x=>∃h i bI m f τ l a,v=.iK h τ i 0∧aA s.bl h=some (.arr bI m f τ l)∧x=⟨τ,a⟩∧l[i]?=some a
def ae.Er (s:ae S) (d:Nat) (v:TV S):Option (bn S.α)→ae S
 | none=>s.put d v
 | some x=>match v with
  | .iK h _ _ _=>{s with fr:=(d,v)::s.fr,last:=(d,h,x)::Lt d s.last}
  | _=>s.put d v
theorem HM (s:ae S) (d:Nat) (v:TV S) (x:Option (bn S.α)):(s.Er d v x).er=s.er.put d (v.er s.ln):=by
 cases x with
 | none=>rfl
 | some x=>cases v <;> rfl
theorem uj (s:ae S) (d:Nat) (v:TV S) (x:Option (bn S.α)):bC s (s.Er d v x):=by
 cases x with
 | none=>exact⟨rfl,rfl,rfl⟩
 | some x=>cases v <;> exact⟨rfl,rfl,rfl⟩
theorem HL {s:ae S}(hl:aO s) (d:Nat){v:TV S}{x:Option (bn S.α)}(h:TI s v x):aO (s.Er d v x):=by
 cases x with
 | none=>exact hl.put d v
 | some x=>
  obtain⟨hh,i,bI,m,f,τ,l,a,e1,e2,e3,e4⟩:=h;subst e1;intro d' h' x' hm;rcases bf.1 hm with e | hm
  ·cases e;exact⟨i,bI,m,f,τ,l,a,by simp only[ae.Er,ae.ca,bU,bp,aW,cond_true],e2,e3,e4⟩
  ·obtain⟨i',ety',m',f',τ',l',a',q1,q2⟩:=hl.put d (.iK hh τ i 0) d' h' x' hm;exact⟨i',ety',m',f',τ',l',a',q1,q2⟩
section
variable {P:Program}{s:ae S}{dst:Option Tmp}{ty:TypeId}{pos:String}{after:Array Edge}{guard:Option (Nat×Bool)}
theorem pA {h:Nat}{e:TypeId}{m f:Bool}{τ:Ty}{l:List (S.D τ)}(ho:aA s.bl h=some (.arr e m f τ l)):s.ln h=l.length:=by
 unfold ae.ln cp;rw[ho];rfl
theorem OE {h:Nat}{e:TypeId}{m f:Bool}{dk:Dk}{τ:Ty}{a:S.D τ}(ho:aA s.bl h=some (.deep e m f dk τ a)):s.ln h=xN τ a:=by
 unfold ae.ln cp;rw[ho];rfl
theorem H2 {v:TV S}{n:Int}(h:Qq s v=some n):Qr (v.er s.ln)=some n:=by
 unfold Qq at h;split at h
 ·rename_i f τ l;cases h;cases f <;> rfl
 ·split at h
  ·rename_i ho;cases h;show some ((s.ln _:Nat):Int)=_;rw[pA ho]
  ·rename_i ho;cases h;show some ((s.ln _:Nat):Int)=_;rw[OE ho]
  ·cases h
 ·cases h;rfl
 ·cases h;rfl
 ·cases h;rfl
 ·cases h
theorem HA {α:Type}{a:Array α}{x:α}(h:a.toList=[x]):a=#[x]:=by cases a;simp at h;subst h;rfl
theorem CX {α:Type}{a:Array α}{x y:α}(h:a.toList=[x,y]):a=#[x,y]:=by cases a;simp at h;subst h;rfl
theorem HB {α:Type}{a:Array α}(h:a.toList=[]):a=#[]:=by cases a;simp at h;subst h;rfl
theorem Te {τ:Ty}{l:List (S.D τ)}{i:Int}{a:S.D τ}(h:idx l i=some a):((List.flatMap (aX S τ) l).drop (i.toNat*S.sz τ)).take (S.sz τ)=aX S τ a:=
 @MR _ (mY S τ) _ _ _ h
theorem Xq {t e:TypeId}{x y:Operand}{f:Bool}{τ:Ty}{l:List (S.D τ)}{ki:IntKind}{fi:Bool}{i:Int}{a:S.D τ}(hx:cu s x=some (.aD f (.list τ) l)) (hy:cu s y=some (.aD fi (.int ki) i))
  (hu:P.underlying t=some (.slice e)) (hz:ny P e=some (S.sz τ)) (ha:idx l i=some a):
  PY P s.er ⟨dst,.indexAddr t x y,ty,pos,after,guard⟩ ((TV.ptr f τ a:TV S).er s.ln):=by
 obtain⟨h0,h1,h2⟩:=pG ha;have e0:=bh hx;rw[GO,←Te ha];refine PY.rw (PY.index (g':=HN f ((List.flatMap (aX S τ) l).drop (i.toNat*S.sz τ))) (n:=l.length) e0 (jY hy) ?_ h0 h1 hu (dC hz)) (RW.vW _ _ _);cases f <;> rfl
theorem WR {t:TypeId}{x:Operand}{lo hi:Option Operand}{A:Type}{k:TV S→Option A}{r:A}(h:Ub P s t x lo hi k=some r):
  ∃v,PY P s.er ⟨dst,.slice t x lo hi none,ty,pos,after,guard⟩ (v.er s.ln)∧k v=some r:=by
 unfold Ub at h;split at h
 ·split at h
  ·rename_i hu;split at h
   ·rename_i hx;split at h
    ·rename_i ho;split at h
     ·rename_i e1 _;subst e1;split at h
      ·rename_i hz _;split at h
       ·rename_i hlo;split at h
        ·rename_i hhi;obtain⟨u,hc,h⟩:=bind_some h;obtain⟨c1,c2,c3⟩:=cD hc;refine⟨_,?_,h⟩;have a1:=jY hlo;have a2:=jY hhi;rw[←gD c1] at a1;rw[←gD (Int.le_trans c1 c2)] at a2;have:=PY.sliceB (dst:=dst) (ty:=ty) (pos:=pos) (after:=after) (guard:=guard) (P:=P) (bh hx) (ga ho) rfl a1 a2 hu (dC hz) (@aH.pos _ (mY S _)) (Int.toNat_le_toNat c2) (by
          show _≤(List.flatMap (aX S _) _).length;rw[show ∀l,(List.flatMap (aX S _) l).length=l.length*S.sz _ from @fG _ (mY S _),←ff];exact bW _ c3)
         rw[←ff] at this;exact this
        ·cases h
       ·cases h
      ·cases h
     ·cases h
    ·cases h
   ·cases h
  ·cases h
 ·cases h
theorem WS {t:TypeId}{x lo hi mx:Operand}{A:Type}{k:TV S→Option A}{r:A}(h:Uc P s t x lo hi mx k=some r):
  ∃v,PY P s.er ⟨dst,.slice t x (some lo) (some hi) (some mx),ty,pos,after,guard⟩ (v.er s.ln)∧k v=some r:=by
 unfold Uc at h;split at h
 ·rename_i hu;split at h
  ·rename_i hz;split at h
   ·rename_i vx hx;split at h
    ·rename_i n hn;split at h
     ·rename_i hlo;split at h
      ·rename_i hhi;split at h
       ·rename_i hmx;obtain⟨u,hc,h⟩:=bind_some h;obtain⟨c1,c2,c3,c4⟩:=cD hc;refine⟨_,?_,h⟩;have key:∃h' sz off,ev s.er x=some (.aL h' sz off n):=by
         unfold X9 at hn;split at hn
         ·cases hn;exact⟨_,_,_,bh hx⟩
         ·cases hn;exact⟨_,_,_,bh hx⟩
         ·cases hn
        obtain⟨h',sz,off,hx'⟩:=key;exact PY.slice3 hx' (jY hlo) (jY hhi) (jY hmx) hu (dC hz) c1 c2 c3 c4
       ·cases h
      ·cases h
     ·cases h
    ·cases h
   ·cases h
  ·cases h
 ·cases h
theorem LB {op:Op}{A:Type}{k:TV S→Option (bn S.α)→Option A}{r:A}(h:R2 P s op k=some r):
  ∃v x,PY P s.er ⟨dst,op,ty,pos,after,guard⟩ (v.er s.ln)∧TI s v x∧k v x=some r:=by
 unfold R2 at h;split at h
 ·split at h
  ·rename_i hv;exact⟨_,none,PY.move (bh hv),trivial,h⟩
  ·cases h
 ·split at h
  ·rename_i hv;exact⟨_,none,PY.assign (bh hv),trivial,h⟩
  ·cases h
 ·split at h
  ·rename_i hc;split at h
   ·split at h
    ·rename_i hv;exact⟨_,none,PY.ZE (MN hc) (bh hv),trivial,h⟩
    ·cases h
   ·split at h
    ·rename_i hv;exact⟨_,none,PY.ZF (MN hc) (bh hv),trivial,h⟩
    ·cases h
  ·cases h
 ·split at h
  ·rename_i hx;split at h
   ·rename_i b hb;obtain⟨e1,⟨e,hu⟩,e2⟩:=Sj hb s.ln;subst e1;split at h
    ·exact⟨_,none,PY.ptrEq (bh hx) e2 hu,trivial,h⟩
    ·exact⟨_,none,PY.ZC (bh hx) e2 hu,trivial,h⟩
    ·cases h
   split at h
   ·rename_i b hb;obtain⟨e1,⟨ms,hu⟩,e2⟩:=Xp hb s.ln;subst e1;have hx':=e2 _ (bh hx);split at h
    ·refine⟨.aD true .bool (b==false),none,PY.SN (b:=b) false rfl hx' hu,trivial,?_⟩;have:(b==false)=!b:=by cases b <;> rfl
     rw[this];exact h
    ·refine⟨.aD true .bool (b==true),none,PY.SN (b:=b) true rfl hx' hu,trivial,?_⟩;have:(b==true)=b:=by cases b <;> rfl
     rw[this];exact h
    ·cases h
   split at h
   ·rename_i b hb;obtain⟨e1,⟨kt,et,hu⟩,e2⟩:=Sk hb s.ln;subst e1;split at h
    ·exact⟨_,none,PY.ZL (bh hx) e2 hu,trivial,h⟩
    ·exact⟨_,none,PY.ZK (bh hx) e2 hu,trivial,h⟩
    ·cases h
   split at h
   ·rename_i hy;obtain⟨v,h1,h2⟩:=XR (dst:=dst) (ty:=ty) (pos:=pos) (after:=after) (guard:=guard) hx hy h;exact⟨v,none,h1,trivial,h2⟩
   ·cases h
  ·cases h
 ·split at h
  ·split at h
   ·rename_i hx;exact⟨_,none,PY.un (MN hx) rfl,trivial,h⟩
   ·cases h
  ·split at h
   ·rename_i hx;exact⟨_,none,PY.un (jY hx) rfl,trivial,h⟩
   ·cases h
  ·cases h
 ·split at h
  ·rename_i hu;split at h
   ·rename_i hu';split at h
    ·rename_i hx;exact⟨_,none,PY.conv (jY hx) hu hu',trivial,h⟩
    ·cases h
   ·rename_i hu';split at h
    ·rename_i hx;exact⟨_,none,PY.ZV (GK hx) hu hu',trivial,h⟩
    ·cases h
   ·cases h
  ·cases h
 ·split at h
  ·rename_i l hx;split at h
   ·rename_i v hv;refine⟨v,none,PY.extract (bh hx) ?_,trivial,h⟩;rw[cP,ak,hv];rfl
   ·cases h
  ·cases h
 ·split at h
  ·rename_i hx;split at h
   ·rename_i hv;exact⟨_,none,Xw hx hv,trivial,h⟩
   ·cases h
  ·cases h
 ·split at h
  ·rename_i hx;split at h
   ·rename_i hv;exact⟨_,none,Xx hx hv,trivial,h⟩
   ·cases h
  ·cases h
 ·split at h
  ·rename_i hu;split at h
   ·rename_i hy;split at h
    ·rename_i hx;split at h
     ·rename_i hz _;obtain⟨a,ha,h⟩:=bind_some h;exact⟨_,none,Xq hx hy hu hz ha,trivial,h⟩
     ·cases h
    ·rename_i hh τ hx;split at h
     ·rename_i hz _;split at h
      ·rename_i e m f τ' l ho;split at h
       ·rename_i e' _;subst e';obtain⟨a,ha,h⟩:=bind_some h;obtain⟨h0,h1,h2⟩:=pG ha;refine⟨_,some ⟨τ',a⟩,?_,⟨hh,_,e,m,f,τ',l,a,rfl,ho,rfl,h2⟩,h⟩;refine PY.index (n:=s.ln hh) (bh hx) (jY hy) ?_ h0 (by rw[pA ho];exact h1) hu (dC hz);show(if S.sz τ'=S.sz τ' then _ else _)=_;rw[if_pos rfl,da];rfl
       ·cases h
      ·rename_i e m f dk τ' a ho;obtain⟨u,hc,h⟩:=bind_some h;obtain⟨c1,c2⟩:=cD hc;refine⟨_,none,?_,trivial,h⟩;refine PY.index (n:=s.ln hh) (bh hx) (jY hy) ?_ c1 (by rw[OE ho];exact c2) hu (dC hz);show(if S.sz τ=S.sz τ then _ else _)=_;rw[if_pos rfl,da];rfl
      ·cases h
     ·cases h
    ·rename_i hh τ o n hx;split at h
     ·rename_i hz _;split at h
      ·rename_i e m f τ' l ho;split at h
       ·rename_i e' _;subst e';obtain⟨u,hc,h⟩:=bind_some h;obtain⟨c1,c2⟩:=cD hc;obtain⟨a,ha,h⟩:=bind_some h;refine⟨_,some ⟨τ',a⟩,?_,⟨hh,_,e,m,f,τ',l,a,rfl,ho,rfl,ha⟩,h⟩;refine PY.index (n:=n) (bh hx) (jY hy) ?_ c1 c2 hu (dC hz);show(if S.sz τ'=S.sz τ' then _ else _)=_;rw[if_pos rfl];show _=some (G.loc hh ((o+_)*S.sz τ'+0),n);rw[ff,fZ]
       ·cases h
      ·obtain⟨u,hc,h⟩:=bind_some h;obtain⟨c1,c2⟩:=cD hc;refine⟨_,none,?_,trivial,h⟩;refine PY.index (n:=n) (bh hx) (jY hy) ?_ c1 c2 hu (dC hz);show(if S.sz τ=S.sz τ then _ else _)=_;rw[if_pos rfl];show _=some (G.loc hh ((o+_)*S.sz τ+0),n);rw[ff,fZ]
      ·cases h
     ·cases h
    ·rename_i hh τ j n hx;split at h
     ·rename_i hz _;obtain⟨u,hc,h⟩:=bind_some h;obtain⟨c1,c2⟩:=cD hc;refine⟨_,none,?_,trivial,h⟩;refine PY.index (n:=n) (bh hx) (jY hy) ?_ c1 c2 hu (dC hz);show(if S.sz τ=S.sz τ then _ else _)=_;rw[if_pos rfl,da];rfl
     ·cases h
    ·cases h
   ·cases h
  ·rename_i n e hu;split at h
   ·rename_i hy;split at h
    ·rename_i hh off hx;split at h
     ·rename_i ki hki;split at h
      ·rename_i hz _;obtain⟨u,hc,h⟩:=bind_some h;obtain⟨c1,c2⟩:=cD hc;refine⟨_,none,?_,trivial,h⟩;have:=PY.U1 (P:=P) (dst:=dst) (ty:=ty) (pos:=pos) (after:=after) (guard:=guard) (bh hx) (jY hy) c1 c2 hu (dC hz);simpa[TV.er,eI.sz] using this
      ·cases h
     ·cases h
    ·cases h
   ·cases h
  ·cases h
 ·split at h
  ·rename_i hu;split at h
   ·rename_i hx;split at h
    ·rename_i hy;obtain⟨c,hc,h⟩:=bind_some h;obtain⟨h0,h1⟩:=Tx hc;exact⟨_,none,PY.T1 (GK hx) (jY hy) h0 h1 hu,trivial,h⟩
    ·cases h
   ·cases h
  ·cases h
 ·split at h
  ·obtain⟨v,h1,h2⟩:=WR (dst:=dst) (ty:=ty) (pos:=pos) (after:=after) (guard:=guard) h;exact⟨v,none,h1,trivial,h2⟩
  ·split at h
   ·rename_i hx;split at h
    ·rename_i hl;split at h
     ·rename_i hh;obtain⟨v,h1,h2⟩:=WQ (dst:=dst) (ty:=ty) (pos:=pos) (after:=after) (guard:=guard) hx hl hh h;exact⟨v,none,h1,trivial,h2⟩
     ·cases h
    ·cases h
   ·cases h
 ·obtain⟨v,h1,h2⟩:=WS (dst:=dst) (ty:=ty) (pos:=pos) (after:=after) (guard:=guard) h;exact⟨v,none,h1,trivial,h2⟩
 ·split at h
  ·rename_i hf;have:=HB hf;subst this;split at h
   ·rename_i vs hv;split at h
    ·rename_i hb;exact⟨_,none,PY.makeFunc hb (nw hv).1,trivial,h⟩
    ·cases h
   ·cases h
  ·rename_i x hf;have:=HA hf;subst this;split at h
   ·rename_i hc;have:=HB hc;subst this;split at h
    ·rename_i v hv;split at h
     ·rename_i hb;exact⟨_,none,PY.Su hb (bh hv),trivial,h⟩
     ·cases h
    ·cases h
   ·cases h
  ·cases h
 ·split at h
  ·rename_i v hx;split at h
   ·exact⟨_,none,PY.nilCheck (bh hx) rfl,trivial,h⟩
   ·exact⟨_,none,PY.nilCheck (bh hx) rfl,trivial,h⟩
   ·rename_i f τ a;exact⟨_,none,PY.nilCheck (bh hx) (by cases f <;> rfl),trivial,h⟩
   ·exact⟨_,none,PY.nilCheck (bh hx) rfl,trivial,h⟩
   ·exact⟨_,none,PY.Ju (bh hx),trivial,h⟩
   ·rename_i b hh τ i j;obtain⟨u,hc,h⟩:=bind_some h;obtain rfl:=cD hc;exact⟨_,none,PY.Ju (bh hx),trivial,h⟩
   ·rename_i f n o;obtain⟨a,ha,h⟩:=bind_some h;obtain rfl:o=some a:=ha;refine⟨.ptr f (.st n) a,none,PY.nilCheck (g:=(TV.ptr f (.st n) a:TV S).er s.ln) ?_ (by cases f <;> rfl),trivial,h⟩;rw[bh hx];cases f <;> rfl
   ·cases h
  ·cases h
 ·rename_i c;obtain⟨cal,args,ats⟩:=c;dsimp only at h;split at h
  ·split at h
   ·rename_i h1 h2;have h1:=HA h1;have h2:=HA h2;subst h1;subst h2;split at h
    ·rename_i hu;split at h
     ·rename_i hx;split at h
      ·rename_i hn;exact⟨_,none,PY.len (bh hx) (H2 hn) hu,trivial,h⟩
      ·cases h
     ·cases h
    ·rename_i hu;split at h
     ·rename_i hx;exact⟨_,none,PY.aak (GK hx) hu,trivial,h⟩
     ·cases h
    ·cases h
   ·cases h
  ·split at h
   ·rename_i h1;have h1:=CX h1;subst h1;split at h
    ·rename_i hx hy;exact⟨_,none,PY.min2 (jY hx) (jY hy),trivial,h⟩
    ·cases h
   ·cases h
  ·split at h
   ·rename_i h1;have h1:=CX h1;subst h1;split at h
    ·rename_i hx hy;exact⟨_,none,PY.max2 (jY hx) (jY hy),trivial,h⟩
    ·cases h
   ·cases h
  ·cases h
 ·split at h
  ·rename_i hu;split at h
   ·rename_i z hz;split at h
    ·rename_i places hp;split at h
     ·rename_i vs hv;split at h
      ·rename_i out ho;refine⟨.agg out,none,PY.build (z:=z) hu ?_ hp (N2 hv) ?_,trivial,h⟩
       ·cases hq:P.info? _ with
        | none=>rw[hq] at hz;cases hz
        | some iq=>rw[hq] at hz;exact congrArg some hz
       ·have:=K8 s.ln places ho;rw[cP] at this;rw[←this];congr 1;rw[iO];exact fh fun v _=>(K3 _ v).symm
      ·cases h
     ·cases h
    ·cases h
   ·cases h
  ·cases h
 ·cases h
end
end
end Go.DN
/-
 DN,part F:loads.
-/
namespace Go.DN
open Go.AM
section
variable {S:eI}
def Qm (x:Operand) (h:Nat):List (Nat×Nat×bn S.α)→Option (bn S.α)
 | []=>none
 | (d,h',y)::r=>match x with
  | .tmp t=>bif Nat.beq d t&&Nat.beq h' h then some y else Qm x h r
  | _=>none
theorem Md {x:Operand}{h:Nat}{y:bn S.α}:∀{l:List (Nat×Nat×bn S.α)},Qm x h l=some y→∃t,x=.tmp t∧(t,h,y)∈l
 | [],e=>by cases e
 | (d,h',y')::r,e=>by
  simp only[Qm] at e;split at e
  ·rename_i t;cases hb:(Nat.beq d t&&Nat.beq h' h) with
   | true=>
    rw[hb] at e;cases e;simp only[af] at hb;obtain⟨h1,h2⟩:=hb;have h1:=ab h1;have h2:=ab h2;subst h1;subst h2;exact⟨_,rfl,ar⟩
   | false=>
    rw[hb] at e;obtain⟨t',h1,h2⟩:=Md e;exact⟨t',h1,ap _ h2⟩
  ·cases e
def GV (s:ae S) (x:Operand) (h:Nat){τ:Ty}(l:List (S.D τ)) (i:Nat){A:Type}(k:bn S.α→Option A):Option A:=
 match Qm x h s.last with
 | some y=>k y
 | none=>(l[i]?).bind fun a=>k ⟨τ,a⟩
def Ie {A:Type}:(τ:Ty)→S.D τ→Ty→Nat→(Ty→Nat→Option A)→Option A
 | .list (.list t),ll,τ,i,k=>match decEq τ (.list t) with
  | isTrue _=>(ll[i]?).bind fun r=>k t (List.length r)
  | isFalse _=>none
 | _,_,_,_,_=>none
theorem QJ {A:Type}{r0:A}:∀{τ':Ty}{a:S.D τ'}{τ:Ty}{i:Nat}{k:Ty→Nat→Option A},Ie τ' a τ i k=some r0→
  ∃t n gs,τ=.list t∧(kA τ' a).1=S.sz t∧(kA τ' a).2[i]?=some (n,gs)∧k t n=some r0
 | .list (.list t),ll,τ,i,k,h=>by
  simp only[Ie] at h;split at h
  ·rename_i e _;obtain⟨r,h1,h2⟩:=bind_some h;exact⟨t,List.length r,_,e,rfl,by show(List.map _ ll)[i]?=_;rw[ak,h1];rfl,h2⟩
  ·cases h
 | .list (.int _),_,_,_,_,h=>by cases h
 | .list .bool,_,_,_,_,h=>by cases h
 | .list .dw,_,_,_,_,h=>by cases h
 | .list (.pt _),_,_,_,_,h=>by cases h
 | .list .str,_,_,_,_,h=>by cases h
 | .list (.st _),_,_,_,_,h=>by cases h
 | .int _,_,_,_,_,h=>by cases h
 | .bool,_,_,_,_,h=>by cases h
 | .dw,_,_,_,_,h=>by cases h
 | .pt _,_,_,_,_,h=>by cases h
 | .str,_,_,_,_,h=>by cases h
 | .st _,_,_,_,_,h=>by cases h
 | .map,_,_,_,_,h=>by cases h
 | .list .map,_,_,_,_,h=>by cases h
def EY {A:Type}:(τ:Ty)→S.D τ→Ty→Nat→Nat→(TV S→Option A)→Option A
 | .list (.list t),ll,τ,i,j,k=>match t.iR with
  | true=>match decEq τ t with
   | isTrue _=>(ll[i]?).bind fun r=>(r[j]?).bind fun x=>k (.aD true t x)
   | isFalse _=>none
  | false=>none
 | _,_,_,_,_,_=>none
theorem NT {A:Type}{r0:A}:∀{τ':Ty}{a:S.D τ'}{τ:Ty}{i j:Nat}{k:TV S→Option A},EY τ' a τ i j k=some r0→
  ∃(t:Ty) (x:S.D t) (n:Nat) (gs:List G),τ=t∧t.iR=true∧(kA τ' a).2[i]?=some (n,gs)∧gs[j*S.sz t]?=some (dI S t x)∧k (.aD true t x)=some r0
 | .list (.list t),ll,τ,i,j,k,h=>by
  simp only[EY] at h;split at h
  ·rename_i hs;split at h
   ·rename_i e _;obtain⟨r,h1,h⟩:=bind_some h;obtain⟨x,h2,h⟩:=bind_some h;have hst:t.gm=false:=by cases t <;> first | rfl | cases hs
    refine⟨t,x,List.length r,List.flatMap (aX S t) r,e,hs,by show(List.map _ ll)[i]?=_;rw[ak,h1];rfl,?_,h⟩;have:=@re _ (mY S t) r j x h2 0 (Lb S t);exact this.trans (by show(aX S t x)[0]?=_;rw[jV S hst];rfl)
   ·cases h
  ·cases h
 | .list (.int _),_,_,_,_,_,h=>by cases h
 | .list .bool,_,_,_,_,_,h=>by cases h
 | .list .dw,_,_,_,_,_,h=>by cases h
 | .list (.pt _),_,_,_,_,_,h=>by cases h
 | .list .str,_,_,_,_,_,h=>by cases h
 | .list (.st _),_,_,_,_,_,h=>by cases h
 | .int _,_,_,_,_,_,h=>by cases h
 | .bool,_,_,_,_,_,h=>by cases h
 | .dw,_,_,_,_,_,h=>by cases h
 | .pt _,_,_,_,_,_,h=>by cases h
 | .str,_,_,_,_,_,h=>by cases h
 | .st _,_,_,_,_,_,h=>by cases h
 | .map,_,_,_,_,_,h=>by cases h
 | .list .map,_,_,_,_,_,h=>by cases h
def k8 (ki:IntKind):List (TV S)→List Int
 | .aD _ (.int k) a::r=>match decEq k ki with
  | isTrue _=>a::k8 ki r
  | isFalse _=>[]
 | _=>[]
theorem xq {ki:IntKind}:∀{cs:List (TV S)}{i:Nat}{a:Int},(k8 ki cs)[i]?=some a→∃f,cs[i]?=some (.aD f (.int ki) a)
 | [],i,a,h=>by simp[k8] at h
 | v::r,i,a,h=>by
  unfold k8 at h;split at h
  ·rename_i f k b r' e;cases e;split at h
   ·rename_i e _;subst e;cases i with
    | zero=>cases h;exact⟨f,rfl⟩
    | succ i=>exact xq (cs:=r) (i:=i) (by simpa using h)
   ·simp at h
  ·simp at h
def Gk (q:IntKind) (h0:Nat):List (TV S)→List (Nat×Nat)
 | .ks h τ z n::r=>match decEq τ (.int q) with
  | isTrue _=>match decEq h h0 with
   | isTrue _=>(z,n)::Gk q h0 r
   | isFalse _=>[]
  | isFalse _=>[]
 | _=>[]
theorem OL {q:IntKind}{h0:Nat}:∀{cs:List (TV S)}{i:Nat}{a:Nat×Nat},(Gk q h0 cs)[i]?=some a→cs[i]?=some (.ks h0 (.int q) a.1 a.2)
 | [],i,a,h=>by simp[Gk] at h
 | v::r,i,a,h=>by
  unfold Gk at h;split at h
  ·rename_i h1 τ z n r' e;cases e;split at h
   ·rename_i e _;subst e;split at h
    ·rename_i e _;subst e;cases i with
     | zero=>cases h;rfl
     | succ i=>exact OL (cs:=r) (i:=i) (by simpa using h)
    ·simp at h
   ·simp at h
  ·simp at h
def aaC:List (TV S)→Option Nat
 | .ks h _ _ _::_=>some h
 | _=>none
def Dd (i:Nat):List (Nat×List Int)→Option (List Int)
 | []=>none
 | (x,l)::r=>match l with
  | []=>Dd i r
  | a::l'=>bif Nat.beq x i then some (a::l') else Dd i r
def Qc (i:Nat):List lR→Option (List Int)
 | []=>none
 | e::r=>match Dd i e.f with
  | some l=>some l
  | none=>Qc i r
def ZJ (es:List lR) (z j:Nat):Option Int:=(Qc z es).bind fun l=>l[j]?
theorem HI (q:IntKind) (i:Nat):∀f:List (Nat×List Int),BQ i (f.map fun p=>(p.1,pF q p.2))=(Dd i f).map (pF q)
 | []=>rfl
 | (x,l)::r=>by
  cases l with
  | nil=>exact HI q i r
  | cons a l'=>
   show(bif Nat.beq x i then some (pF q (a::l')) else BQ i (r.map _))=(bif Nat.beq x i then some (a::l') else Dd i r).map (pF q);cases Nat.beq x i with
   | true=>rfl
   | false=>exact HI q i r
theorem Oc (q:IntKind) (i:Nat):∀es:List lR,Em i (es.map (lR.me q))=(Qc i es).map (pF q)
 | []=>rfl
 | e::r=>by
  simp only[bc,Em,Qc];rw[show(lR.me q e).f=e.f.map fun p=>(p.1,pF q p.2) from rfl,HI];cases Dd i e.f with
  | some l=>rfl
  | none=>exact Oc q i r
def Qb:List lR→Nat→Option lR
 | [],_=>none
 | e::r,t=>bif Nat.beq e.t t then some e else Qb r t
def Yw (es:List lR) (t j:Nat):Option (Nat×List Int):=(Qb es t).bind fun e=>e.f[j]?
theorem Ry (q:IntKind) (t:Nat):∀es:List lR,N1 (es.map (lR.me q)) t=(Qb es t).map (lR.me q)
 | []=>rfl
 | e::r=>by
  simp only[bc,N1,List.find?_cons,Qb];cases h:Nat.beq e.t t with
  | true=>simp[lR.me,h]
  | false=>
   have:=Ry q t r;simp only[N1] at this;simp[lR.me,h] at this⊢;exact this
theorem I1 {P:Program}{t:TypeId}{z:Value}(h:(P.info? t).bind (·.zero)=some z):∀w,(zeroValue t).run P w=.ok z w:=by
 intro w;cases hi:P.info? t with
 | none=>rw[hi] at h;cases h
 | some i=>
  rw[hi] at h;have h:i.zero=some z:=h;simp[zeroValue,typeInfo,hi,h]
theorem Xg {es:List lR}{t j z:Nat}{l:List Int}(h:Yw es t j=some (z,l)) (q:IntKind):∃e,N1 (es.map (lR.me q)) t=some e∧e.f[j]?=some (z,pF q l):=by
 obtain⟨e,h1,h2⟩:=bind_some h;refine⟨lR.me q e,by rw[Ry,h1];rfl,?_⟩;show(e.f.map fun p=>(p.1,pF q p.2))[j]?=_;rw[ak,h2];rfl
theorem U0 (q:IntKind) (l:List Int):(pF q l).length=l.length:=by unfold pF;simp
def Ql {A:Type}(P:Program) (W:List Nat) (s:ae S) (t:TypeId) (x y:Operand) (k:TV S→Option A):Option A:=
 none
def Eh:(i:Bool)→KK i→List (bn S.α)→Bool
 | false,k,[⟨.str,x⟩,_]=>decide ((x:ByteArray)=k)
 | true,k,[⟨.int .i64,x⟩,_]=>decide ((x:Int)=k)
 | _,_,_=>false
def qy (i:Bool) (n:Nat) (l:List (S.α n)) (k:KK i):Option (S.α n):=List.find? (fun a=>Eh i k (S.cells n a)) l
def Jb (q:IntKind):List (bn S.α)→Int
 | [_,⟨.int q',v⟩]=>bif decide (q'=q) then v else 0
 | _=>0
def V7 (n:Nat) (q:IntKind):Option (S.α n)→Int
 | some a=>Jb q (S.cells n a)
 | none=>0
theorem Cw {n:Nat}{i:Bool}{q:IntKind}(ht:S.cX n=[OP i,.int q]) (a:S.α n):∃(x:KK i) (v:Int),rn i (S.cells n a)=(x,.val (.int q v))∧(∀k,Eh i k (S.cells n a)=decide (x=k))∧Jb q (S.cells n a)=v:=by
 have h:=S.nJ n a;rw[ht] at h
 match hc:S.cells n a,h with
 | [⟨τ1,x⟩,⟨τ2,v⟩],h=>
  simp only[bc,rN,List.cons.injEq,and_true] at h;obtain⟨h1,h2⟩:=h;have h1:τ1=OP i:=h1;have h2:τ2=.int q:=h2;subst h2;have e3:Jb q [(⟨τ1,x⟩:bn S.α),⟨.int q,v⟩]=v:=by show(bif decide (q=q) then v else 0)=v;rw[decide_eq_true rfl];rfl
  cases i with
  | true=>
   have h1:τ1=.int .i64:=h1;subst h1;exact⟨x,v,rfl,fun k=>rfl,e3⟩
  | false=>
   have h1:τ1=.str:=h1;subst h1;exact⟨x,v,rfl,fun k=>rfl,e3⟩
theorem Lk {n:Nat}{i:Bool}{q:IntKind}(ht:S.cX n=[OP i,.int q]) (k:KK i):∀l:List (S.α n),jo (List.map (fun a=>rn i (S.cells n a)) l) k=(qy i n l k).map fun a=>.val (.int q (Jb q (S.cells n a)))
 | []=>rfl
 | a::r=>by
  obtain⟨x,v,e1,e2,e3⟩:=Cw ht a;have ih:=Lk ht k r;unfold jo at ih⊢;unfold qy at ih⊢;show(List.find? _ (rn i (S.cells n a)::List.map (fun a=>rn i (S.cells n a)) r)).map _=_;rw[e1]
  by_cases hx:x=k
  ·rw[List.find?_cons_of_pos (by simpa using hx),List.find?_cons_of_pos (by rw[e2];simpa using hx)];show some (G.val (.int q v))=some (G.val (.int q (Jb q (S.cells n a))));rw[e3]
  ·rw[List.find?_cons_of_neg (by simpa using hx),List.find?_cons_of_neg (by rw[e2];simpa using hx)];exact ih
def Qt:(i:Bool)→TV S→Option (KK i)
 | false,.aD _ .str k=>some (k:ByteArray)
 | true,.aD _ (.int .i64) k=>some (k:Int)
 | _,_=>none
theorem OS {i:Bool}{v:TV S}{k:KK i}(h:Qt i v=some k) (ln:Nat→Nat):v.er ln=.val (xk i k):=by
 unfold Qt at h;split at h
 ·cases h;exact M2 _ _
 ·cases h;exact tB _ _ _
 ·cases h
def Wi (P:Program) (i:Bool) (kt:TypeId):Bool:=match P.underlying kt with
 | some .string=>!i
 | some (.int .i64)=>i
 | _=>false
theorem Mo {P:Program}{i:Bool}{kt:TypeId}(h:Wi P i kt=true):ND P kt (xk i):=by
 unfold Wi at h;split at h
 ·rename_i hk;cases i with
  | true=>cases h
  | false=>exact⟨⟨.string,hk,fun k=>by simp[MapKept.IsKey,xk]⟩,fun k k' e=>Value.string.inj e⟩
 ·rename_i hk;cases i with
  | false=>cases h
  | true=>exact⟨⟨.int .i64,hk,fun k=>by simp[MapKept.IsKey,xk]⟩,fun k k' e=>(Value.int.inj e).2⟩
 ·cases h
def GH (b c:Bool) (n:Nat) (q:IntKind) (o:Option (S.α n)):TV S:=
 bif c then .bB [.aD true (.int q) (bif b then(0:Int) else V7 n q o),.aD true .bool (bif b then false else o.isSome)] else .aD true (.int q) (bif b then(0:Int) else V7 n q o)
def KE {A:Type}(P:Program) (W:List Nat) (s:ae S) (t:TypeId) (b:Bool) (h:Nat) (y:Operand) (c:Bool) (k:TV S→Option A):Option A:=
 match W.contains h with
 | true=>none
 | false=>match aA s.bl h with
  | some (.deep _ _ _ (.sm i) (.st n0) a0)=>match S.cells n0 a0 with
   | [⟨.list (.st n),l⟩]=>match cu s y with
    | some vy=>match Qt i vy with
     | some ky=>match P.underlying t with
      | some (.map kt et)=>match Wi P i kt with
       | true=>match S.cX n with
        | [τk,.int q]=>match decEq τk (OP i) with
         | isTrue _=>match (P.info? et).bind (·.zero) with
          | some (.int q' z)=>match decide (q'=q),decide (z=0) with
           | true,true=>k (GH b c n q (qy i n l ky))
           | _,_=>none
          | _=>none
         | isFalse _=>none
        | _=>none
       | false=>none
      | _=>none
     | none=>none
    | none=>none
   | _=>none
  | _=>none
def nZ {A:Type}(P:Program) (W:List Nat) (s:ae S) (t:TypeId) (x y:Operand) (c:Bool) (k:TV S→Option A):Option A:=
 match cu s x with
 | some (.mp h)=>KE P W s t false h y c k
 | some (.dX b h)=>KE P W s t b h y c k
 | _=>none
def X5 (s:ae S) (x:Operand):Bool:=match cu s x with
 | some (.mp h)=>match aA s.bl h with
  | some (.deep _ _ _ (.sm _) _ _)=>true
  | _=>false
 | some (.dX _ h)=>match aA s.bl h with
  | some (.deep _ _ _ (.sm _) _ _)=>true
  | _=>false
 | _=>false
def N0 (P:Program) (W:List Nat) (s:ae S) (op:Op){A:Type}(k:TV S→Option A):Option A:=
 match op with
 | .convert t t' x=>match cu s x with
  | some (.aL h (.int .u8))=>match W.contains h with
   | true=>none
   | false=>match aA s.bl h with
    | some (.arr _ _ _ (.int .u8) l)=>match P.underlying t with
     | some (.slice e)=>match P.underlying e with
      | some (.int .u8)=>match P.underlying t' with
       | some .string=>k (.aD true .str (strOf l))
       | _=>none
      | _=>none
     | _=>none
    | _=>none
  | _=>none
 | .load t x=>match IW P t with
  | some false=>match cu s x with
   | some (.ptr f τ a)=>match τ.gm with
    | false=>k (.aD f τ a)
    | true=>none
   | some (.loc h off)=>match W.contains h with
    | true=>none
    | false=>match aA s.bl h with
     | some (.box _ _ cs)=>match cs[off]? with
      | some v=>k v
      | none=>none
     | _=>none
   | some (.iK h τ i j)=>match W.contains h with
    | true=>none
    | false=>match aA s.bl h with
     | some (.arr _ _ f τ' l)=>match decEq τ' τ with
      | isTrue _=>GV s x h l i fun y=>match y with
       | ⟨.st n,a⟩=>match (S.cells n a)[j]? with
        | some z=>k (.aD f z.τ z.a)
        | none=>none
       | y=>match j with
        | 0=>k (.aD f y.τ y.a)
        | _=>none
      | isFalse _=>none
     | some (.deep _ _ _ (.wq _) τ' a)=>match j with
      | 0=>Ie τ' a τ i fun t n=>k (.ks h t i n)
      | _=>none
     | some (.box _ _ cs)=>match τ with
      | .int ki=>(bj (i<(k8 ki (cs.drop j)).length)).bind fun _=>k (.aD true (.int ki) ((k8 ki (cs.drop j)).getD i 0))
      | .list (.int q)=>match aaC (cs.drop j) with
       | some h1=>(bj (i<(Gk q h1 (cs.drop j)).length)).bind fun _=>k (.ks h1 (.int q) ((Gk q h1 (cs.drop j)).getD i (0,0)).1 ((Gk q h1 (cs.drop j)).getD i (0,0)).2)
       | none=>none
      | _=>none
     | _=>none
   | some (.kp h τ i j)=>match W.contains h with
    | true=>none
    | false=>match aA s.bl h with
     | some (.deep _ _ _ (.wq _) τ' a)=>EY τ' a τ i j k
     | some (.deep _ _ _ (.map q _ _) .map d)=>match τ with
      | .list _=>(Yw d.es i j).bind fun p=>k (.ks h (.int q) p.1 (List.length p.2))
      | .int q'=>match decEq q' q with
       | isTrue _=>(ZJ d.es i j).bind fun x=>k (.aD true (.int q) x)
       | isFalse _=>none
      | _=>none
     | _=>none
   | _=>none
  | some true=>match ny P t with
   | some z=>match cu s x with
    | some (.ptr f (.st n) a)=>match Nat.beq z (S.cX n).length with
     | true=>k (.aD f (.st n) a)
     | false=>none
    | some (.loc h off)=>match W.contains h with
     | true=>none
     | false=>match aA s.bl h with
      | some (.box _ _ cs)=>match Nat.ble (off+z) cs.length with
       | true=>k (.agg ((cs.drop off).take z))
       | false=>none
      | _=>none
    | some (.iK h τ i j)=>match W.contains h with
     | true=>none
     | false=>match aA s.bl h with
      | some (.arr _ _ f τ' l)=>match decEq τ' τ with
       | isTrue _=>match j with
        | 0=>match Nat.beq z (S.sz τ) with
         | true=>match τ with
          | .st _=>GV s x h l i fun y=>k (.aD f y.τ y.a)
          | _=>none
         | false=>none
        | j+1=>none
       | isFalse _=>none
      | _=>none
    | _=>none
   | none=>none
  | none=>none
 | .lookup t x y c=>bif X5 s x then nZ P W s t x y c k else bif c then Ql P W s t x y k else none
 | _=>none
section
variable {P:Program}{W:List Nat}{s:ae S}{dst:Option Tmp}{ty:TypeId}{pos:String}{after:Array Edge}{guard:Option (Nat×Bool)}
theorem E0 {x:Operand}{h i:Nat}{bI:TypeId}{m f:Bool}{τ:Ty}{l:List (S.D τ)}{A:Type}{k:bn S.α→Option A}{r:A}(hl:aO s) (hx:∃j,cu s x=some (.iK h τ i j)) (ho:aA s.bl h=some (.arr bI m f τ l))
  (hk:GV s x h l i k=some r):∃a,l[i]?=some a∧k ⟨τ,a⟩=some r:=by
 unfold GV at hk;split at hk
 ·rename_i y hla;obtain⟨t,e0,hm⟩:=Md hla;subst e0;obtain⟨i',ety',m',f',τ',l',a,e1,e2,e3,e4⟩:=hl t h y hm;rw[ho] at e2;cases e2;obtain⟨j,hx⟩:=hx;simp only[cu] at hx;rw[e1] at hx;cases hx;subst e3;exact⟨a,e4,hk⟩
 ·exact bind_some hk
theorem eB {h:Nat}{o:TO S}(ho:aA s.bl h=some o):ay s.er.st h=some (o.er s.ln):=ga ho
theorem On (bI:TypeId) (m f:Bool) (τ:Ty) (l:List (S.D τ)) (ln:Nat→Nat){g:G}(hg:g.one=true) (hf:∀g',g≠.fr g'):((TO.arr bI m f τ l:TO S).er ln).out g=dY f g:=by
 cases g <;> first | rfl | (cases f <;> rfl)
theorem JV (τ:Ty) (a:S.D τ):∀g∈aX S τ a,∀g',g≠.fr g':=by
 intro g hg g' e;subst e;cases τ with
 | st n=>
  rw[ib] at hg;obtain⟨x,hx,e⟩:=fc.1 hg;have h2:=lu n a _ hx;obtain⟨τx,ax⟩:=x;cases τx with
  | st _=>cases h2
  | pt _=>cases ax <;> cases e
  | _=>cases e
 | pt n=>cases a <;> simp[aX,Co] at hg
 | _=>simp[aX,Co] at hg
theorem UI {t:TypeId}{x y:Operand}{A:Type}{k:TV S→Option A}{r:A}(h:Ql P W s t x y k=some r):
  ∃v,fI P W s.er ⟨dst,.lookup t x y true,ty,pos,after,guard⟩ (v.er s.ln)∧k v=some r:=by
 unfold Ql at h;cases h
theorem Mb {t:TypeId}{b:Bool}{hh:Nat}{x y:Operand}{c:Bool}{A:Type}{k:TV S→Option A}{r:A}(hx:cu s x=some (.dX b hh)∨(b=false∧cu s x=some (.mp hh))) (h:KE P W s t b hh y c k=some r):
  ∃v,fI P W s.er ⟨dst,.lookup t x y c,ty,pos,after,guard⟩ (v.er s.ln)∧k v=some r:=by
 unfold KE at h;split at h
 ·cases h
 ·rename_i hW;split at h
  ·rename_i e m f i n0 a0 ho;split at h
   ·rename_i n l hcell;split at h
    ·rename_i vy hy;split at h
     ·rename_i ky hky;split at h
      ·rename_i kt et hu;split at h
       ·rename_i hkd;split at h
        ·rename_i τk q hty;split at h
         ·rename_i hτ _;subst hτ;split at h
          ·rename_i q' z hz;split at h
           ·rename_i h1 h2;have h1:=of_decide_eq_true h1;have h2:=of_decide_eq_true h2;subst h1;subst h2;refine⟨_,?_,h⟩;have hyv:ev s.er y=some (.val (xk i ky)):=by rw[bh hy,OS hky]
            have hE:qK (S:=S) i (.st n0) a0=List.map (fun a=>rn i (S.cells n a)) l:=by
             show(match S.cells n0 a0 with | [⟨.list (.st n),l⟩]=>List.map (fun a=>rn i (S.cells n a)) l | _=>[])=_;rw[hcell]
            have nil:ev s.er x=some (.val (.map none))→b=true→fI P W s.er ⟨dst,.lookup t x y c,ty,pos,after,guard⟩ ((GH b c n q' (qy i n l ky)).er s.ln):=fun hx' hb=>by
             subst hb;have:=YL.Zz (P:=P) (W:=W) (dst:=dst) (ty:=ty) (pos:=pos) (after:=after) (guard:=guard) (c:=c) hx' hyv hu (Mo hkd) (I1 hz);cases c <;> exact this
            have some_:ev s.er x=some (.eN hh)→b=false→fI P W s.er ⟨dst,.lookup t x y c,ty,pos,after,guard⟩ ((GH b c n q' (qy i n l ky)).er s.ln):=fun hx' hb=>by
             subst hb;have:=YL.jo (P:=P) (W:=W) (dst:=dst) (ty:=ty) (pos:=pos) (after:=after) (guard:=guard) (c:=c) hx' hyv (eB ho) rfl (fun _ e he=>by
              rw[hE] at he;obtain⟨a,_,rfl⟩:=fc.1 he;obtain⟨x,v,e1,_⟩:=Cw hty a;exact⟨_,by rw[e1]⟩) hu (Mo hkd) (I1 hz) hW
             rw[hE,Lk hty] at this;have e5:((bif c then .bB [((qy i n l ky).map fun a=>G.val (.int q' (Jb q' (S.cells n a)))).getD (.val (.int q' 0)),.val (.bool ((qy i n l ky).map fun a=>G.val (.int q' (Jb q' (S.cells n a)))).isSome)] else((qy i n l ky).map fun a=>G.val (.int q' (Jb q' (S.cells n a)))).getD (.val (.int q' 0))):G)=(GH false c n q' (qy i n l ky)).er s.ln:=by
              cases c <;> cases qy i n l ky <;> rfl
             rw[e5] at this;exact this
            rcases hx with hx | ⟨hb,hx⟩
            ·cases b with
             | true=>exact nil (bh hx) rfl
             | false=>exact some_ (bh hx) rfl
            ·exact some_ (bh hx) hb
           ·cases h
          ·cases h
         ·cases h
        ·cases h
       ·cases h
      ·cases h
     ·cases h
    ·cases h
   ·cases h
  ·cases h
theorem UH {t:TypeId}{x y:Operand}{c:Bool}{A:Type}{k:TV S→Option A}{r:A}(h:nZ P W s t x y c k=some r):
  ∃v,fI P W s.er ⟨dst,.lookup t x y c,ty,pos,after,guard⟩ (v.er s.ln)∧k v=some r:=by
 unfold nZ at h;split at h
 ·rename_i hx;exact Mb (.inr ⟨rfl,hx⟩) h
 ·rename_i hx;exact Mb (.inl hx) h
 ·cases h
theorem FE {op:Op}{A:Type}{k:TV S→Option A}{r:A}(hl:aO s) (h:N0 P W s op k=some r):
  ∃v,fI P W s.er ⟨dst,op,ty,pos,after,guard⟩ (v.er s.ln)∧k v=some r:=by
 unfold N0 at h;split at h
 ·rename_i t t' x;split at h
  ·rename_i hh hx;split at h
   ·cases h
   ·rename_i hW;split at h
    ·rename_i e m f l ho;split at h
     ·rename_i e0 hu;split at h
      ·rename_i he;split at h
       ·rename_i hu';refine⟨_,?_,h⟩;have hx':ev s.er x=some (.aL hh 1 0 (List.length l)):=by rw[bh hx];show some (G.aL _ _ _ (s.ln hh))=_;rw[pA ho];rfl
        refine YL.VL hx' (eB ho) rfl ?_ rfl hu he hu' hW;show List.flatMap (aX S (.int .u8)) l=_;clear hx';generalize (show List Int from l)=l'
        induction l' with
        | nil=>rfl
        | cons x r ih=>rw[b6,ih];rfl
       ·cases h
      ·cases h
     ·cases h
    ·cases h
  ·cases h
 ·rename_i t x;split at h
  ·rename_i ha;split at h
   ·rename_i f τ a hx;split at h
    ·rename_i hs;refine⟨_,?_,h⟩;rw[qb hs];have e0:=bh hx;rw[GO] at e0;have e1:(aX S τ a)[0]?=some (dI S τ a):=by rw[jV S hs];rfl
     cases f with
     | true=>exact YL.aab e0 e1 (gC ha) rfl
     | false=>exact YL.ptr e0 e1 (gC ha)
    ·cases h
   ·rename_i hh off hx;split at h
    ·cases h
    ·rename_i hW;split at h
     ·rename_i e m cs ho;split at h
      ·rename_i v hv;refine⟨v,?_,h⟩;refine YL.Df (bh hx) (eB ho) ?_ (gC ha) hW rfl;show(TV.er.go s.ln cs)[off]?=_;rw[cP,ak,hv];rfl
      ·cases h
     ·cases h
   ·rename_i hh τ i j hx;split at h
    ·cases h
    ·rename_i hW;split at h
     ·rename_i e m f τ' l ho;split at h
      ·rename_i e1 _;subst e1;obtain⟨a,ha',h2⟩:=E0 hl ⟨j,hx⟩ ho h;replace h:=h2;clear h2;have key:∀(g:G),(aX S τ' a)[j]?=some g→fI P W s.er ⟨dst,.load t x,ty,pos,after,guard⟩ (dY f g):=by
        intro g hg;have hm:=aj hg;refine YL.load (k:=(TO.arr e m f τ' l:TO S).er s.ln) (g:=g) (bh hx) (eB ho) ?_ (gC ha) hW (On e m f τ' l _ (Cp S τ' a g hm) (JV τ' a g hm));have hj:j<S.sz τ':=by have:=(ai.1 hg).1;rw[tz] at this;exact this
        have:=@re _ (mY S τ') l i a ha' j hj;show(List.flatMap (aX S τ') l)[i*S.sz τ'+j]?=_;exact this.trans hg
       split at h
       ·rename_i n a' he;cases he;split at h
        ·rename_i z hz;refine⟨_,?_,h⟩;rw[qb (lu n _ z (aj hz))];exact key _ (by rw[ib,ak,hz];rfl)
        ·cases h
       ·rename_i hns;split at h
        ·refine⟨_,?_,h⟩;have hs:τ'.gm=false:=by
          cases τ' with
          | st n=>exact absurd rfl (hns n a)
          | _=>rfl
         rw[qb hs];exact key _ (by rw[jV S hs];rfl)
        ·cases h
      ·cases h
     ·rename_i e m f kty τ' a ho;split at h
      ·obtain⟨t',n,gs,e1,e2,e3,h2⟩:=QJ h;subst e1;refine⟨_,?_,h2⟩;have:=YL.YW (P:=P) (W:=W) (dst:=dst) (ty:=ty) (pos:=pos) (after:=after) (guard:=guard) (t:=t) (x:=x) (h:=hh) (i:=i) (by rw[bh hx];simp[TV.er,eI.sz]) (eB ho) rfl e3 (gC ha) hW;rw[e2] at this;exact this
      ·cases h
     ·rename_i e m cs ho;split at h
      ·rename_i ki;obtain⟨_,hc,h⟩:=bind_some h;have hc:=cD hc;refine⟨_,?_,h⟩;obtain⟨f,hv⟩:=xq (ag hc);rw[bE] at hv;have:=YL.Df (P:=P) (W:=W) (dst:=dst) (ty:=ty) (pos:=pos) (after:=after) (guard:=guard) (t:=t) (g:=.val (.int ki (k8 ki (cs.drop j))[i])) (bh hx) (eB ho) (by
        show(TV.er.go s.ln cs)[i*1+j]?=_;rw[cP,ak,show i*1+j=j+i by omega,hv];exact congrArg some (tB f ki _)) (gC ha) hW rfl
       rw[bZ,ag hc];exact this
      ·rename_i q;split at h
       ·rename_i h1 _;obtain⟨_,hc,h⟩:=bind_some h;have hc:=cD hc;refine⟨_,?_,h⟩;have hv:=OL (ag hc);rw[bE] at hv;have:=YL.Df (P:=P) (W:=W) (dst:=dst) (ty:=ty) (pos:=pos) (after:=after) (guard:=guard) (t:=t) (g:=.ks h1 (Gk q h1 (cs.drop j))[i].1 1 (Gk q h1 (cs.drop j))[i].2) (bh hx) (eB ho) (by
         show(TV.er.go s.ln cs)[i*1+j]?=_;rw[cP,ak,show i*1+j=j+i by omega,hv];rfl) (gC ha) hW rfl
        rw[bZ,ag hc];exact this
       ·cases h
      ·cases h
     ·cases h
   ·rename_i hh τ i j hx;split at h
    ·cases h
    ·rename_i hW;split at h
     ·rename_i e m f kty τ' a ho;obtain⟨t',x',n,gs,e1,e2,e3,e4,h2⟩:=NT h;subst e1;refine⟨_,?_,h2⟩;have:=YL.Ig (P:=P) (W:=W) (dst:=dst) (ty:=ty) (pos:=pos) (after:=after) (guard:=guard) (t:=t) (x:=x) (bh hx) (eB ho) rfl e3 e4 (gC ha) hW;have e5:∀b,SV b (dI S τ x')=(TV.aD true τ x':TV S).er s.ln:=by
       intro b;cases τ with
       | list _=>cases e2
       | st _=>cases e2
       | dw=>cases e2
       | pt _=>cases e2
       | _=>rfl
      rw[e5] at this;exact this
     ·rename_i e m f q kty tty d ho;split at h
      ·rename_i τ;obtain⟨⟨z,l⟩,h1,h⟩:=bind_some h;refine⟨_,?_,h⟩;obtain⟨e',h2,h3⟩:=Xg h1 q;have:=YL.Yx (P:=P) (W:=W) (dst:=dst) (ty:=ty) (pos:=pos) (after:=after) (guard:=guard) (t:=t) (x:=x) (h:=hh) (tt:=i) (off:=j) (q:=q) (kty:=kty) (tty:=tty) (n:=d.n) (pd:=R7 q d.pd) (by rw[bh hx];simp[TV.er,eI.sz]) (eB ho) rfl h2 h3 (gC ha) hW;rw[U0] at this;exact this
      ·rename_i q';split at h
       ·rename_i e' _;subst e';obtain⟨x',hc,h⟩:=bind_some h;obtain⟨l,h1,h2⟩:=bind_some hc;refine⟨_,?_,h⟩;have:=YL.Xh (P:=P) (W:=W) (dst:=dst) (ty:=ty) (pos:=pos) (after:=after) (guard:=guard) (t:=t) (x:=x) (h:=hh) (z:=i) (off:=j) (q:=q') (kty:=kty) (tty:=tty) (n:=d.n) (pd:=R7 q' d.pd) (es:=d.es.map (lR.me q')) (gs:=pF q' l) (u:=.int q' x')
         (by rw[bh hx];simp[TV.er,eI.sz]) (eB ho) rfl (by rw[Oc,h1];rfl) (by unfold pF;rw[ak,h2];rfl) (gC ha) hW
        rw[qb rfl];exact this
       ·cases h
      ·cases h
     ·cases h
   ·cases h
  ·rename_i ha;split at h
   ·rename_i z hz;split at h
    ·rename_i f n a hx;split at h
     ·rename_i hc;have hc:=ab hc;refine⟨_,?_,h⟩;have e0:=bh hx;rw[GO] at e0;have hlen:(aX S (.st n) a).length=z:=by rw[tz,hc];rfl
      show fI P W s.er _ (.agg ((aX S (.st n) a).map (dY f)));cases f with
      | true=>
       have:=YL.WZ (P:=P) (W:=W) (dst:=dst) (ty:=ty) (pos:=pos) (after:=after) (guard:=guard) (sz:=z) e0 (by omega) (gC ha) (dC hz);rw[dj (by omega)] at this;exact this
      | false=>
       have:=YL.Yg (P:=P) (W:=W) (dst:=dst) (ty:=ty) (pos:=pos) (after:=after) (guard:=guard) (sz:=z) e0 (by omega) (gC ha) (dC hz);rw[dj (by omega)] at this;have e2:(aX S (.st n) a).map (dY false)=aX S (.st n) a:=by
        have:(dY false)=(id:G→G):=rfl;rw[this,List.map_id]
       rw[e2];exact this
     ·cases h
    ·rename_i hh off hx;split at h
     ·cases h
     ·rename_i hW;split at h
      ·rename_i e m cs ho;split at h
       ·rename_i hc;refine⟨_,?_,h⟩;have:=YL.OD (P:=P) (W:=W) (dst:=dst) (ty:=ty) (pos:=pos) (after:=after) (guard:=guard) (sz:=z) (bh hx) (eB ho) rfl (gC ha) (dC hz)
         (by show off+z≤(TV.er.go s.ln cs).length;rw[cP,aN];exact fK hc) hW
        show fI P W s.er _ (.agg (TV.er.go s.ln ((cs.drop off).take z)));rw[cP,List.map_take,List.map_drop,←cP];exact this
       ·cases h
      ·cases h
    ·rename_i hh τ i j hx;split at h
     ·cases h
     ·rename_i hW;split at h
      ·rename_i e m f τ' l ho;split at h
       ·rename_i e1 _;subst e1;split at h
        ·split at h
         ·rename_i hc;have hc:=ab hc;split at h
          ·rename_i n _ _ _ _ _;obtain⟨a,ha',h⟩:=E0 hl ⟨_,hx⟩ ho h;refine⟨_,?_,h⟩;have hil:=(ai.1 ha').1;have:=YL.UJ (P:=P) (W:=W) (dst:=dst) (ty:=ty) (pos:=pos) (after:=after) (guard:=guard) (sz:=z) (bh hx) (eB ho) (gC ha) (dC hz)
            (by
             show i*S.sz _+0+z≤(List.flatMap (aX S _) l).length;have:=@fG _ (mY S (.st n)) l;rw[show(List.flatMap (aX S (.st n)) l).length=_ from this,hc];show i*S.sz _+0+S.sz _≤l.length*S.sz _;have:(i+1)*S.sz (.st n)≤l.length*S.sz (.st n):=bW _ hil;rw[ff,Nat.one_mul] at this;omega) hW
           show fI P W s.er _ (.agg ((aX S (.st n) a).map (dY f)));have e3:((List.flatMap (aX S (.st n)) l).drop (i*S.sz (.st n)+0)).take z=aX S (.st n) a:=by
            rw[hc,fZ];exact @MR _ (mY S (.st n)) l (i:Int) a (by unfold idx;rw[if_pos (by omega)];simpa using ha')
           have e4:((List.drop (i*S.sz (.st n)+0) (List.flatMap (aX S (.st n)) l)).take z).map (((TO.arr e m f (.st n) l:TO S).er s.ln).out)=(aX S (.st n) a).map (dY f):=by
            rw[e3];exact fh fun g hg=>On e m f (.st n) l _ (Cp S _ a g hg) (JV _ a g hg)
           rw[←e4];exact this
          ·cases h
         ·cases h
        ·cases h
       ·cases h
      ·cases h
    ·cases h
   ·cases h
  ·cases h
 ·rename_i t x y c;cases hs:X5 s x with
  | true=>rw[hs] at h;exact UH h
  | false=>
   rw[hs] at h;cases c with
   | true=>exact UI h
   | false=>cases h
 ·cases h
end
end
end Go.DN
/-
 DN,part G:which handles are named;new ones;objects that change.
-/
namespace Go.DN
open Go.AM
section
variable {S:eI}
def TV.has (k:Nat):TV S→Bool
 | .loc h _=>Nat.beq h k
 | .iK h _ _ _=>Nat.beq h k
 | .aL h _=>Nat.beq h k
 | .sub h _ _ _=>Nat.beq h k
 | .agg l=>go k l
 | .bB l=>go k l
 | .ba _ l=>go k l
 | .cW h=>Nat.beq h k
 | .mp h=>Nat.beq h k
 | .ks h _ _ _=>Nat.beq h k
 | .kp h _ _ _=>Nat.beq h k
 | .iF b h _ _ _=>Nat.beq h k&&!b
 | .gw b h _=>Nat.beq h k&&!b
 | .dX b h=>Nat.beq h k&&!b
 | _=>false
where go (k:Nat):List (TV S)→Bool
 | []=>false
 | x::r=>x.has k||go k r
theorem VG (k:Nat) (f:Bool) (τ:Ty) (a:S.D τ) (h:τ.gm=false):(dY f (dI S τ a)).cv k=false:=by
 cases τ with
 | st n=>cases h
 | pt n=>cases a <;> cases f <;> rfl
 | _=>cases f <;> rfl
theorem M3 (k:Nat) (f:Bool) (τ:Ty) (a:S.D τ):(oP f τ a).cv k=false:=by
 cases τ with
 | st n=>
  show G.cv.go k ((aX S (.st n) a).map (dY f))=false;rw[ib];have:=lu n a;generalize S.cells n a=l at this
  induction l with
  | nil=>rfl
  | cons x r ih=>
   simp only[bc,G.cv.go,VG k f x.τ x.a (this x ar),fW];exact ih fun y hy=>this y (ap _ hy)
 | pt n=>cases a <;> cases f <;> rfl
 | _=>cases f <;> rfl
mutual
theorem yR (ln:Nat→Nat) (k:Nat):∀v:TV S,(v.er ln).cv k=v.has k
 | .aD f τ a=>M3 k f τ a
 | .ptr f τ a=>by cases f <;> rfl
 | .agg l=>yQ ln k l
 | .bB l=>yQ ln k l
 | .ba _ l=>yQ ln k l
 | .loc _ _=>rfl
 | .iK _ _ _ _=>rfl
 | .aL _ _=>rfl
 | .sub _ _ _ _=>rfl
 | .cW _=>rfl
 | .mp _=>rfl
 | .ks _ _ _ _=>rfl
 | .kp _ _ _ _=>rfl
 | .iF b h _ _ _=>by
  cases b with
  | true=>show false=(Nat.beq h k&&false);rw[Bool.and_false]
  | false=>show Nat.beq h k=(Nat.beq h k&&true);rw[jZ]
 | .gw b h _=>by
  cases b with
  | true=>show false=(Nat.beq h k&&false);rw[Bool.and_false]
  | false=>show Nat.beq h k=(Nat.beq h k&&true);rw[jZ]
 | .dX b h=>by
  cases b with
  | true=>show false=(Nat.beq h k&&false);rw[Bool.and_false]
  | false=>show Nat.beq h k=(Nat.beq h k&&true);rw[jZ]
 | .val _=>rfl
 | .any=>rfl
theorem yQ (ln:Nat→Nat) (k:Nat):∀l:List (TV S),G.cv.go k (TV.er.go ln l)=TV.has.go k l
 | []=>rfl
 | x::r=>by simp only[TV.er.go,G.cv.go,TV.has.go,yR ln k x,yQ ln k r]
end
mutual
theorem tv {ln ln':Nat→Nat}:∀v:TV S,(∀k,v.has k=true→ln k=ln' k)→v.er ln=v.er ln'
 | .aD f τ a,_=>rfl
 | .ptr f τ a,_=>rfl
 | .agg l,h=>congrArg G.agg (rE l h)
 | .bB l,h=>congrArg G.bB (rE l h)
 | .ba f l,h=>congrArg (G.ba f) (rE l h)
 | .loc _ _,_=>rfl
 | .iK _ _ _ _,_=>rfl
 | .aL h τ,hh=>congrArg (G.aL h (S.sz τ) 0) (hh h (aW h))
 | .sub _ _ _ _,_=>rfl
 | .cW _,_=>rfl
 | .mp _,_=>rfl
 | .ks _ _ _ _,_=>rfl
 | .kp _ _ _ _,_=>rfl
 | .iF _ _ _ _ _,_=>rfl
 | .gw _ _ _,_=>rfl
 | .dX _ _,_=>rfl
 | .val _,_=>rfl
 | .any,_=>rfl
theorem rE {ln ln':Nat→Nat}:∀l:List (TV S),(∀k,TV.has.go k l=true→ln k=ln' k)→TV.er.go ln l=TV.er.go ln' l
 | [],_=>rfl
 | x::r,h=>by
  simp only[TV.er.go];rw[tv x fun k hk=>h k (by simp[TV.has.go,hk]),rE r fun k hk=>h k (by simp[TV.has.go,hk])]
end
def gL (k:Nat):List (Nat×TV S)→Bool
 | []=>false
 | (_,v)::r=>v.has k||gL k r
def TO.has (k:Nat):TO S→Bool
 | .box _ _ cs=>TV.has.go k cs
 | .arr ..=>false
 | .lp _ _ cs=>TV.has.go k cs
 | .deep ..=>false
def dE (k:Nat):List (Nat×TO S)→Bool
 | []=>false
 | (_,o)::r=>o.has k||dE k r
def ae.free (s:ae S) (k:Nat):Bool:=(match aA s.bl k with | none=>true | some _=>false)&&(!(gL k s.ca)&&(!(dE k s.bl)&&(!(TV.has.go k s.df)&&Nat.blt k 500)))
theorem OZ (ln:Nat→Nat) (k:Nat):∀fr:List (Nat×TV S),Cf k (il ln fr)=!(gL k fr)
 | []=>rfl
 | (_,v)::r=>by simp only[il,Cf,gL,yR,OZ ln k r,Bool.not_or]
theorem rW {ln:Nat→Nat}:∀{st:List (Nat×TO S)}{t:Nat},aA st t=none→ay (bT ln st) t=none
 | [],_,_=>rfl
 | (k,g)::r,t,h=>by
  simp only[aA] at h;simp only[bT,ay];cases hk:Nat.beq k t with
  | true=>rw[hk] at h;cases h
  | false=>rw[hk] at h;exact rW h
theorem N5 (ln:Nat→Nat) (k:Nat):∀st:List (Nat×TO S),dE k st=false→xP k (bT ln st)=true
 | [],_=>rfl
 | (_,o)::r,h=>by
  simp only[dE,bi] at h;simp only[bT,xP,af,N5 ln k r h.2,and_true];cases o with
  | box e m cs=>simp only[TO.er,yQ,fW];have:=h.1;simp only[TO.has] at this;simp[this]
  | arr e m f τ l=>rfl
  | lp l n cs=>simp only[TO.er,yQ,fW];have:=h.1;simp only[TO.has] at this;simp[this]
  | deep=>rfl
theorem Dq (ln:Nat→Nat) (k:Nat):∀l:List (TV S),qn k (TV.er.go ln l)=!(TV.has.go k l)
 | []=>rfl
 | x::r=>by simp only[TV.er.go,qn,TV.has.go,yR,Dq ln k r,Bool.not_or]
theorem free_spec {s:ae S}{k:Nat}(h:s.free k=true):aA s.bl k=none∧gL k s.ca=false∧dE k s.bl=false∧TV.has.go k s.df=false∧Nat.blt k 500=true:=by
 unfold ae.free at h;simp only[af,aS] at h;obtain⟨h1,h2,h3,h4,h5⟩:=h;refine⟨?_,h2,h3,h4,h5⟩;split at h1
 ·assumption
 ·cases h1
theorem gu {s:ae S}{k:Nat}(h:s.free k=true):fresh s.er k=true:=by
 obtain⟨h1,h2,h3,h4,h5⟩:=free_spec h;unfold fresh;have e1:=rW (ln:=s.ln) h1;have e2:=OZ s.ln k s.ca;rw[h2] at e2;have e3:=N5 s.ln k s.bl h3;have e4:=Dq s.ln k s.df;rw[h4] at e4;have e5:Nat.blt k 1000=true:=by simp only[gG] at h5⊢;omega
 simp only[af];exact⟨by show(ay (bT s.ln s.bl) k).isNone=true;rw[e1];rfl,e2,e3,e4,e5⟩
theorem xx {k:Nat}:∀{fr:List (Nat×TV S)}{t:Nat}{v:TV S},bp fr t=some v→gL k fr=false→v.has k=false
 | [],_,_,h,_=>by cases h
 | (t',v')::r,t,v,h,hf=>by
  simp only[gL,bi] at hf;simp only[bp] at h;cases hk:Nat.beq t' t with
  | true=>rw[hk] at h;cases h;exact hf.1
  | false=>rw[hk] at h;exact xx h hf.2
theorem WH {s:ae S}{x:Operand}{v:TV S}{k:Nat}(h:cu s x=some v) (hf:gL k s.ca=false):v.has k=false:=by
 cases x with
 | tmp t=>exact xx h hf
 | const u=>cases h;cases u <;> rfl
 | func f=>cases h;rfl
 | global _=>cases h
def kL (ln ln':Nat→Nat) (k:Nat):Prop:=∀j,j≠k→ln j=ln' j
theorem Cm {ln ln':Nat→Nat}{k:Nat}(h:kL ln ln' k):∀fr:List (Nat×TV S),gL k fr=false→il ln fr=il ln' fr
 | [],_=>rfl
 | (t,v)::r,hf=>by
  simp only[gL,bi] at hf;simp only[il,Cm h r hf.2];rw[tv v fun j hj=>h j fun e=>by subst e;rw[hf.1] at hj;cases hj]
theorem pJ {ln ln':Nat→Nat}{k:Nat}(h:kL ln ln' k) (l:List (TV S)) (hf:TV.has.go k l=false):TV.er.go ln l=TV.er.go ln' l:=
 rE l fun j hj=>h j fun e=>by subst e;rw[hf] at hj;cases hj
theorem tw {ln ln':Nat→Nat}{k:Nat}(h:kL ln ln' k) (v:TV S) (hf:v.has k=false):v.er ln=v.er ln':=
 tv v fun j hj=>h j fun e=>by subst e;rw[hf] at hj;cases hj
theorem TO.tw {ln ln':Nat→Nat}{k:Nat}(h:kL ln ln' k) (o:TO S) (hf:o.has k=false):o.er ln=o.er ln':=by
 cases o with
 | box e m cs=>simp only[TO.er,pJ h cs hf]
 | arr e m f τ l=>rfl
 | lp l n cs=>simp only[TO.er,pJ h cs hf]
 | deep=>rfl
theorem Ck {ln ln':Nat→Nat}{k:Nat}(h:kL ln ln' k):∀st:List (Nat×TO S),dE k st=false→bT ln st=bT ln' st
 | [],_=>rfl
 | (t,o)::r,hf=>by
  simp only[dE,bi] at hf;simp only[bT,Ck h r hf.2,TO.tw h o hf.1]
theorem Mc {st:List (Nat×TO S)}(k:Nat) (o:TO S):kL (cp st) (cp ((k,o)::st)) k:=by
 intro j hj;unfold cp;simp only[aA];have:Nat.beq k j=false:=by
  cases h:Nat.beq k j with
  | false=>rfl
  | true=>exact absurd (ab h).symm hj
 rw[this];rfl
theorem we {st:List (Nat×TO S)}(k:Nat) (o:TO S):cp ((k,o)::st) k=o.len:=by
 unfold cp;simp only[aA,aW,cond_true]
def ae.add (s:ae S) (k:Nat) (o:TO S):ae S:={s with st:=(k,o)::s.st,nx:=bif Nat.beq k s.nx then k+1 else s.nx}
def ae.di (s:ae S) (d:Nat):Nat:=bif s.free d then d else s.nx
theorem pV {s:ae S}{k:Nat}(h:s.free k=true) (o:TO S) (ho:o.has k=false):(s.add k o).er={fr:=s.er.fr,st:=(k,o.er s.ln)::s.er.st,df:=s.er.df}∧kL s.ln (s.add k o).ln k:=by
 obtain⟨h1,h2,h3,h4,h5⟩:=free_spec h;have hag:kL s.ln (s.add k o).ln k:=Mc k o;refine⟨?_,hag⟩;show St.mk (il (s.add k o).ln s.ca) (bT (s.add k o).ln ((k,o)::s.bl)) (TV.er.go (s.add k o).ln s.df)=St.mk _ _ _;rw[←Cm hag s.ca h2,←pJ hag s.df h4];simp only[bT];rw[←Ck hag s.bl h3,←TO.tw hag o ho];rfl
def sf:List (Nat×TO S)→Nat→TO S→List (Nat×TO S)
 | [],_,_=>[]
 | (k,g)::r,t,o=>bif Nat.beq k t then(k,o)::r else(k,g)::sf r t o
theorem HQ {st:List (Nat×TO S)}{h:Nat}{o o':TO S}(ho:aA st h=some o):aA (sf st h o') h=some o':=by
 induction st with
 | nil=>cases ho
 | cons x r ih=>
  obtain⟨y,g⟩:=x;simp only[aA,sf] at ho⊢;cases hy:Nat.beq y h with
  | true=>simp[aA,hy]
  | false=>simp only[hy,cond_false] at ho⊢;simp only[aA,hy,cond_false];exact ih ho
theorem xg {st:List (Nat×TO S)}{h h':Nat}{o:TO S}(hne:h'≠h):aA (sf st h o) h'=aA st h':=by
 induction st with
 | nil=>rfl
 | cons x r ih=>
  obtain⟨y,g⟩:=x;simp only[aA,sf];cases hy:Nat.beq y h with
  | true=>
   have:y=h:=ab hy;subst this;have h2:Nat.beq y h'=false:=by
    cases h3:Nat.beq y h' with
    | false=>rfl
    | true=>exact absurd (ab h3).symm hne
   simp[aA,h2]
  | false=>simp only[cond_false,aA,ih]
theorem UK {st:List (Nat×TO S)}{h:Nat}{o o':TO S}(ho:aA st h=some o) (hl:o'.len=o.len):cp (sf st h o')=cp st:=by
 funext j;unfold cp
 by_cases e:j=h
 ·subst e;rw[HQ ho,ho];exact hl
 ·rw[xg e]
theorem MO (ln:Nat→Nat):∀(st:List (Nat×TO S)) (h:Nat) (o:TO S),bT ln (sf st h o)=dF (bT ln st) h (o.er ln)
 | [],_,_=>rfl
 | (k,g)::r,h,o=>by
  simp only[sf,bT,dF];cases Nat.beq k h with
  | true=>rfl
  | false=>simp only[cond_false,bT,MO ln r h o]
def ae.set (s:ae S) (h:Nat) (o:TO S):ae S:={s with st:=sf s.st h o,last:=xd h s.last}
theorem LZ {st st':List (Nat×TO S)}{h:Nat}{o:TO S}(ho:aA st h=some o):aA (st++st') h=some o:=by
 induction st with
 | nil=>cases ho
 | cons x r ih=>
  obtain⟨k,g⟩:=x;simp only[bU,aA] at ho⊢;cases hb:Nat.beq k h with
  | true=>rw[hb] at ho;exact ho
  | false=>rw[hb] at ho;exact ih ho
theorem LQ {st st':List (Nat×TO S)}{h:Nat}{o o':TO S}(ho:aA st h=some o):sf (st++st') h o'=sf st h o'++st':=by
 induction st with
 | nil=>cases ho
 | cons x r ih=>
  obtain⟨k,g⟩:=x;simp only[bU,aA,sf] at ho⊢;cases hb:Nat.beq k h with
  | true=>rfl
  | false=>rw[hb] at ho;simp only[cond_false,bU];rw[ih ho]
theorem fR {s:ae S}{h:Nat}{o:TO S}(ho:aA s.st h=some o):aA s.bl h=some o:=LZ ho
theorem pu {s:ae S}{h:Nat}{o o':TO S}(ho:aA s.st h=some o) (hl:o'.len=o.len):(s.set h o').er={fr:=s.er.fr,st:=dF s.er.st h (o'.er s.ln),df:=s.er.df}∧(s.set h o').ln=s.ln:=by
 have e0:(s.set h o').bl=sf s.bl h o':=(LQ ho).symm;have e:(s.set h o').ln=s.ln:=by show cp (s.set h o').bl=cp s.bl;rw[e0];exact UK (fR ho) hl
 refine⟨?_,e⟩;show St.mk (il (s.set h o').ln s.ca) (bT (s.set h o').ln (s.set h o').bl) (TV.er.go (s.set h o').ln s.df)=_;rw[e,e0,MO];rfl
def TV.kill (k:Nat) (v:TV S):TV S:=match v.has k with | true=>.any | false=>v
def lX (k:Nat):List (Nat×TV S)→List (Nat×TV S)
 | []=>[]
 | (t,v)::r=>(t,v.kill k)::lX k r
def TO.kill (k:Nat):TO S→TO S
 | .box e m cs=>.box e m (cs.map (TV.kill k))
 | .lp l n cs=>.lp l n (cs.map (TV.kill k))
 | o=>o
def jJ (k:Nat):List (Nat×TO S)→List (Nat×TO S)
 | []=>[]
 | (t,o)::r=>(t,o.kill k)::jJ k r
theorem OR (ln:Nat→Nat) (k:Nat) (v:TV S):(v.kill k).er ln=tW k (v.er ln):=by
 unfold TV.kill tW;rw[yR];cases v.has k <;> rfl
theorem Mp (k:Nat) (v:TV S):(v.kill k).has k=false:=by
 unfold TV.kill;cases h:v.has k with
 | true=>rfl
 | false=>exact h
theorem Mr (ln:Nat→Nat) (k:Nat):∀fr:List (Nat×TV S),il ln (lX k fr)=nA k (il ln fr)
 | []=>rfl
 | (t,v)::r=>by simp only[lX,il,nA,OR,Mr ln k r]
theorem JB (k:Nat):∀fr:List (Nat×TV S),gL k (lX k fr)=false
 | []=>rfl
 | (t,v)::r=>by simp only[lX,gL,Mp,JB k r,Bool.or_self]
theorem zV (k:Nat):∀cs:List (TV S),TV.has.go k (cs.map (TV.kill k))=false
 | []=>rfl
 | v::r=>by simp only[bc,TV.has.go,Mp,zV k r,Bool.or_self]
theorem Jz (ln:Nat→Nat) (k:Nat) (cs:List (TV S)):TV.er.go ln (cs.map (TV.kill k))=(TV.er.go ln cs).map (tW k):=by
 rw[cP,cP,iO,iO];exact fh fun v _=>OR ln k v
theorem Mq (ln:Nat→Nat) (k:Nat):∀st:List (Nat×TO S),bT ln (jJ k st)=gA k (bT ln st)
 | []=>rfl
 | (t,o)::r=>by
  simp only[jJ,bT,gA,Mq ln k r];congr 2;cases o with
  | box e m cs=>simp only[TO.kill,TO.er,Jz];rfl
  | arr e m f τ l=>rfl
  | lp l n cs=>simp only[TO.kill,TO.er,Jz];rfl
  | deep=>rfl
theorem JA (k:Nat):∀st:List (Nat×TO S),dE k (jJ k st)=false
 | []=>rfl
 | (t,o)::r=>by
  simp only[jJ,dE,JA k r,cF];cases o with
  | box e m cs=>exact zV k cs
  | arr e m f τ l=>rfl
  | lp l n cs=>exact zV k cs
  | deep=>rfl
theorem zM {k h:Nat}:∀{st:List (Nat×TO S)},aA (jJ k st) h=(aA st h).map (TO.kill k)
 | []=>rfl
 | (t,o)::r=>by
  simp only[jJ,aA];cases Nat.beq t h with
  | true=>rfl
  | false=>exact zM
theorem UP (k:Nat) (o:TO S):(o.kill k).len=o.len:=by cases o <;> rfl
theorem Sx (k:Nat) (st:List (Nat×TO S)):cp (jJ k st)=cp st:=by
 funext j;unfold cp;rw[zM];cases aA st j with
 | none=>rfl
 | some o=>exact UP k o
def ae.renew (s:ae S) (k:Nat) (o:TO S):ae S:={s with fr:=lX k s.fr,st:=(k,o)::jJ k s.st,last:=xd k s.last}
theorem OQ {k:Nat}{v:TV S}(h:v.has k=false):v.kill k=v:=by unfold TV.kill;rw[h]
theorem EL {k:Nat}:∀{fr:List (Nat×TV S)},gL k fr=false→lX k fr=fr
 | [],_=>rfl
 | (t,v)::r,h=>by
  simp only[gL,bi] at h;simp only[lX,OQ h.1,EL h.2]
theorem EK {k:Nat}:∀{l:List (TV S)},TV.has.go k l=false→l.map (TV.kill k)=l
 | [],_=>rfl
 | v::r,h=>by
  simp only[TV.has.go,bi] at h;simp only[bc,OQ h.1,EK h.2]
theorem zW {k:Nat}:∀{st:List (Nat×TO S)},dE k st=false→jJ k st=st
 | [],_=>rfl
 | (t,o)::r,h=>by
  simp only[dE,bi] at h;simp only[jJ,zW h.2];have:o.kill k=o:=by
   cases o with
   | box e m cs=>simp only[TO.kill];rw[EK h.1]
   | arr e m f τ l=>rfl
   | lp l n cs=>simp only[TO.kill];rw[EK h.1]
   | deep=>rfl
  rw[this]
theorem B8 (k:Nat):∀(fr fr':List (Nat×TV S)),lX k (fr++fr')=lX k fr++lX k fr'
 | [],_=>rfl
 | (t,v)::r,fr'=>by simp only[bU,lX,B8 k r fr']
theorem xm (k:Nat):∀(st st':List (Nat×TO S)),jJ k (st++st')=jJ k st++jJ k st'
 | [],_=>rfl
 | (t,v)::r,st'=>by simp only[bU,jJ,xm k r st']
theorem Eo {s:ae S}{k:Nat}(o:TO S) (ho:o.has k=false) (hd:TV.has.go k s.df=false) (hlo:gL k s.lo=false) (hls:dE k s.bN=false):(s.renew k o).er={fr:=nA k s.er.fr,st:=(k,o.er s.ln)::gA k s.er.st,df:=s.er.df}∧kL s.ln (s.renew k o).ln k∧(s.renew k o).ln k=o.len:=by
 have hag:kL s.ln (s.renew k o).ln k:=by
  have:=Mc (st:=jJ k s.bl) k o;rw[Sx] at this;have e:(s.renew k o).bl=(k,o)::jJ k s.bl:=by
   show(k,o)::(jJ k s.st++s.bN)=_;unfold ae.bl;rw[xm,zW hls]
  show kL (cp s.bl) (cp (s.renew k o).bl) k;rw[e];exact this
 have e1:(s.renew k o).bl=(k,o)::jJ k s.bl:=by
  show(k,o)::(jJ k s.st++s.bN)=_;unfold ae.bl;rw[xm,zW hls]
 have e2:(s.renew k o).ca=lX k s.ca:=by
  show lX k s.fr++s.lo=_;unfold ae.ca;rw[B8,EL hlo]
 refine⟨?_,hag,we k o⟩;show St.mk (il (s.renew k o).ln (s.renew k o).ca) (bT (s.renew k o).ln (s.renew k o).bl) (TV.er.go (s.renew k o).ln s.df)=St.mk _ _ _;rw[e1,e2,←Cm hag _ (JB k s.ca),←pJ hag s.df hd,Mr];simp only[bT];rw[←Ck hag _ (JA k s.bl),←TO.tw hag o ho,Mq];rfl
theorem kx {k t:Nat}(o:TO S) (st:List (Nat×TO S)) (h:t≠k):aA ((k,o)::st) t=aA st t:=by
 simp only[aA];cases hb:Nat.beq k t with
 | true=>exact absurd (ab hb).symm h
 | false=>rfl
theorem aO.add {s:ae S}(h:aO s){k:Nat}(o:TO S) (hf:s.free k=true):aO (s.add k o):=by
 intro d hh x hm;obtain⟨i,bI,m,f,τ,l,a,e1,e2,e3⟩:=h d hh x hm;refine⟨i,bI,m,f,τ,l,a,e1,?_,e3⟩;refine(kx o s.bl ?_).trans e2;intro e;subst e;rw[(free_spec hf).1] at e2;cases e2
theorem aO.set {s:ae S}(h:aO s){k:Nat}{o0:TO S}(hk:aA s.st k=some o0) (o:TO S):aO (s.set k o):=by
 have e0:(s.set k o).bl=sf s.bl k o:=(LQ hk).symm;intro d hh x hm;obtain⟨h1,h2⟩:=vH hm;obtain⟨i,bI,m,f,τ,l,a,e1,e2,e3⟩:=h d hh x h1;exact⟨i,bI,m,f,τ,l,a,e1,by rw[e0];exact(xg h2).trans e2,e3⟩
theorem FJ {k t:Nat}{v:TV S}:∀{fr:List (Nat×TV S)},bp fr t=some v→bp (lX k fr) t=some (v.kill k)
 | [],h=>by cases h
 | (t',v')::r,h=>by
  simp only[bp,lX] at h⊢;cases hb:Nat.beq t' t with
  | true=>rw[hb] at h;cases h;rfl
  | false=>rw[hb] at h;exact FJ h
theorem aO.renew {s:ae S}(h:aO s) (k:Nat) (o:TO S) (hlo:gL k s.lo=false) (hls:dE k s.bN=false):aO (s.renew k o):=by
 have q1:(s.renew k o).bl=(k,o)::jJ k s.bl:=by
  show(k,o)::(jJ k s.st++s.bN)=_;unfold ae.bl;rw[xm,zW hls]
 have q2:(s.renew k o).ca=lX k s.ca:=by
  show lX k s.fr++s.lo=_;unfold ae.ca;rw[B8,EL hlo]
 intro d hh x hm;obtain⟨h1,h2⟩:=vH hm;obtain⟨i,bI,m,f,τ,l,a,e1,e2,e3⟩:=h d hh x h1;refine⟨i,bI,m,f,τ,l,a,?_,?_,e3⟩
 ·have:=FJ (k:=k) e1;rw[q2];refine this.trans ?_;unfold TV.kill TV.has;have:Nat.beq hh k=false:=by
   cases hb:Nat.beq hh k with
   | true=>exact absurd (ab hb) h2
   | false=>rfl
  rw[this]
 ·rw[q1];refine(kx o _ h2).trans ?_;rw[zM,e2];rfl
end
end Go.DN
/-
 DN,part H:steps of the proof alone;boxes,blocks,stores.
-/
namespace Go.DN
open Go.AM
def Gh (s t:St):Prop:=∀(N:Nat) (cx:Cx) (μ:Mu) (a:Act) (w:World),Rel N cx μ s a w→
 ∃μ',Rel N cx μ' t a w∧∀h k c m y,ay t.st h=some k→μ' h=some (c,m)→In y c m→∃k0 c0 m0,ay s.st h=some k0∧μ h=some (c0,m0)∧In y c0 m0
theorem Gh.same {s t:St}{μ μ':Mu}(h:∀h k b m,ay t.st h=some k→μ' h=some (b,m)→∃k0,ay s.st h=some k0∧μ h=some (b,m)):
  ∀h k c m y,ay t.st h=some k→μ' h=some (c,m)→In y c m→∃k0 c0 m0,ay s.st h=some k0∧μ h=some (c0,m0)∧In y c0 m0:=
 fun x k c m y h1 h2 h3=>let ⟨k0,h4,h5⟩:=h x k c m h1 h2;⟨k0,c,m,h4,h5,h3⟩
theorem Gh.refl (s:St):Gh s s:=fun _ _ μ _ _ hr=>⟨μ,hr,Gh.same fun h k b m h1 h2=>⟨k,h1,h2⟩⟩
theorem Gh.trans {a b c:St}(h:Gh a b) (h':Gh b c):Gh a c:=fun N cx μ ac w hr=>by
 obtain⟨μ1,h1,h2⟩:=h N cx μ ac w hr;obtain⟨μ2,h3,h4⟩:=h' N cx μ1 ac w h1;refine⟨μ2,h3,fun x k c m y h5 h6 h7=>?_⟩;obtain⟨k0,c0,m0,h8,h9,h10⟩:=h4 x k c m y h5 h6 h7;exact h2 x k0 c0 m0 y h8 h9 h10
theorem Gh.of {s t:St}(h:∀(N:Nat) (cx:Cx) (μ:Mu) (a:Act) (w:World),Rel N cx μ s a w→Rel N cx μ t a w) (hd:∀x k,ay t.st x=some k→∃k0,ay s.st x=some k0):Gh s t:=fun N cx μ a w hr=>
 ⟨μ,h N cx μ a w hr,Gh.same fun x k b m h1 h2=>let ⟨k0,h3⟩:=hd x k h1;⟨k0,h3,h2⟩⟩
section
variable {P:Program}{N:Nat}{cx:Cx}{ops:Array Oper}{Q:Exit→St→Prop}{s t:St}
theorem GW.gh {c:Code}(h:Gh s t) (k:GW P N cx c Q t):GW P N cx c Q s:=fun μ a w hr=>by
 obtain⟨μ',h1,_⟩:=h N cx μ a w hr;exact k μ' a w h1
theorem GL.gh {rest:List Oper}(h:Gh s t) (k:GL P N cx ops Q rest t):GL P N cx ops Q rest s:=fun μ a w hr=>by
 obtain⟨μ',h1,_⟩:=h N cx μ a w hr;exact k μ' a w h1
theorem fY.gh {W:List Nat}{bG:Nat}{listed:Array Bool}(h:Gh s t) (k:fY P N cx ops Q W bG listed t):fY P N cx ops Q W bG listed s:=fun ws Wb μ a w hr hS hW=>by
 obtain⟨μ',h1,h2⟩:=h N cx μ a w hr;refine k ws Wb μ' a w h1 hS fun x k c m y h3 h4 h5 h6=>?_;obtain⟨k0,c0,m0,h7,h8,h9⟩:=h2 x k c m y h4 h5 h6;exact hW x k0 c0 m0 y h3 h7 h8 h9
end
section
variable {S:eI}
def fE (P:Program) (W:List Nat) (s:ae S) (o:Oper){A:Type}(k:ae S→Option A) (r:A):Prop:=
 ∃T:St→Prop,cm P W s.er o T∧∀s',T s'→∃t:ae S,Gh s' t.er∧aO t∧bC s t∧k t=some r
theorem fE.one {P:Program}{W:List Nat}{s:ae S}{o:Oper}{A:Type}{k:ae S→Option A}{r:A}{s1:St}(t:ae S) (he:cm P W s.er o (·=s1)) (hg:Gh s1 t.er) (hl:aO t) (hkp:bC s t) (hk:k t=some r):fE P W s o k r:=
 ⟨_,he,fun s' e=>by subst e;exact⟨t,hg,hl,hkp,hk⟩⟩
theorem SR {k:Nat}(v:TV S) (h:v.has k=false):TV.has.go k (eH v)=false:=by
 cases v with
 | aD f τ a=>
  cases τ with
  | st n=>
   show TV.has.go k (split f n a)=false;unfold split;generalize S.cells n a=l
   induction l with
   | nil=>rfl
   | cons x r ih=>simp only[bc,TV.has.go,TV.has,fW];exact ih
  | _=>rfl
 | agg l=>exact h
 | _=>simpa[eH,TV.has.go] using h
def Yi:TV S→Bool
 | .aD _ τ _=>!τ.gm
 | .val u=>u.oneCell'
 | .agg _=>false
 | .bB _=>false
 | .any=>false
 | _=>true
theorem Ur {v:TV S}(h:Yi v=true) (ln:Nat→Nat):(v.er ln).one=true:=by
 cases v with
 | aD f τ a=>cases τ with
  | st n=>cases h
  | pt n=>cases a <;> cases f <;> rfl
  | _=>cases f <;> rfl
 | ptr f τ a=>cases f <;> rfl
 | iF b h τ i j=>cases b <;> rfl
 | gw b h off=>cases b <;> rfl
 | dX b h=>cases b <;> rfl
 | val u=>exact h
 | agg l=>cases h
 | bB l=>cases h
 | any=>cases h
 | _=>rfl
def F2:List (TV S)→Bool
 | []=>true
 | v::r=>Yi v&&F2 r
theorem p6 (ln:Nat→Nat):∀{l:List (TV S)},F2 l=true→(TV.er.go ln l).all G.one=true
 | [],_=>rfl
 | v::r,h=>by
  simp only[F2,af] at h;simp only[TV.er.go,List.all_cons,Ur h.1 ln,p6 ln h.2,ij]
section
variable {P:Program}{W:List Nat}{s:ae S}{ty:TypeId}{pos:String}{after:Array Edge}{guard:Option (Nat×Bool)}{A:Type}{k:ae S→Option A}{r:A}
def VQ (s:ae S) (d:Nat) (t:TypeId) (x:Operand){A:Type}(k:ae S→Option A):Option A:=
 match s.free (s.di d) with
 | true=>match cu s x with
  | some v=>match okV v with
   | true=>k ((s.add (s.di d) (.box t true (eH v))).put d (.loc (s.di d) 0))
   | false=>none
  | none=>none
 | false=>none
theorem XO {d:Nat}{t:TypeId}{x:Operand}(hl:aO s) (h:VQ s d t x k=some r):fE P W s ⟨some d,.box t x,ty,pos,after,guard⟩ k r:=by
 unfold VQ at h;split at h
 ·rename_i hf;split at h
  ·rename_i v hv;split at h
   ·rename_i ho;have hn:TV.has.go (s.di d) (eH v)=false:=SR v (WH hv (free_spec hf).2.1);obtain⟨e1,_⟩:=pV hf (.box t true (eH v)) hn;refine .one _ (EF.box (s.di d) (bh hv) (tc ho s.ln) (gu hf)) ?_ ((hl.add _ hf).put _ _) ⟨rfl,rfl,rfl⟩ h;rw[iJ,e1];rw[xe ho s.ln];exact Gh.refl _
   ·cases h
  ·cases h
 ·cases h
def Ny (P:Program) (s:ae S) (d:Nat) (t:TypeId){A:Type}(k:ae S→Option A):Option A:=
 match s.free (s.di d) with
 | true=>match (P.info? t).bind (·.zero) with
  | some z=>k ((s.add (s.di d) (.box t true (z.cells.toList.map vP))).put d (.loc (s.di d) 0))
  | none=>none
 | false=>none
theorem Rw (k:Nat) (l:List Value):TV.has.go k (l.map (vP (S:=S)))=false:=by
 induction l with
 | nil=>rfl
 | cons v r ih=>simp only[bc,TV.has.go,ih,cF];cases v <;> rfl
theorem TT (ln:Nat→Nat) (l:List Value):TV.er.go ln (l.map (vP (S:=S)))=l.map .val:=by
 rw[cP,iO];exact fh fun v _=>K3 ln v
theorem TK {t:TypeId}{z:Value}(h:(P.info? t).bind (·.zero)=some z):∀w,(zeroValue t).run P w=.ok z w:=by
 intro w;cases hi:P.info? t with
 | none=>rw[hi] at h;cases h
 | some i=>
  rw[hi] at h;have h:i.zero=some z:=h;simp[zeroValue,typeInfo,hi,h]
theorem TD {d:Nat}{t:TypeId}(hl:aO s) (h:Ny P s d t k=some r):fE P W s ⟨some d,.alloc t,ty,pos,after,guard⟩ k r:=by
 unfold Ny at h;split at h
 ·rename_i hf;split at h
  ·rename_i z hz;obtain⟨e1,_⟩:=pV hf (.box t true (z.cells.toList.map vP)) (Rw _ _);refine .one _ (EF.alloc (s.di d) (TK hz) (gu hf)) ?_ ((hl.add _ hf).put _ _) ⟨rfl,rfl,rfl⟩ h;rw[iJ,e1];simp only[TO.er,TT];exact Gh.refl _
  ·cases h
 ·cases h
def Pj (τ:Ty) (z:Value):Option (S.D τ):=
 match τ with
 | .st n=>match FL (.st n) (.agg (z.cells.toList.map vP)) with
  | some x=>some x.2
  | none=>none
 | τ=>match pk τ (vP z) with
  | some x=>match z.cells.toList with
   | [_]=>some x.2
   | _=>none
  | none=>none
theorem K9 {τ:Ty}{u:Value}{f:Bool}{a:S.D τ}(h:pk τ (vP u)=some (f,a)):nQ u=dI S τ a:=by
 unfold pk at h;split at h
 ·rename_i f' τ' a' e;split at h
  ·cases h
  ·split at h
   ·rename_i b hb;cases h;have:=eW hb;cases this;cases u <;> simp only[vP] at e <;> cases e <;> rfl
   ·cases h
 ·rename_i e;split at h
  ·cases h;cases u <;> simp only[vP] at e <;> cases e;rfl
  ·cases h
 ·rename_i e;split at h
  ·cases h;cases u <;> simp only[vP] at e <;> cases e;rfl
  ·cases h
 ·cases h
theorem RA:∀{ts:List Ty}{us:List Value}{f:Bool}{l:List (bn S.α)},Ec ts (us.map vP)=some (f,l)→us.map nQ=l.map fun x=>dI S x.τ x.a
 | [],[],_,_,h=>by cases h;rfl
 | τ::ts,u::us,f,l,h=>by
  simp only[bc,Ec] at h;split at h
  ·rename_i f1 a h1;split at h
   ·rename_i g l' h2;cases h;simp only[bc,K9 h1,RA h2]
   ·cases h
  ·cases h
 | [],_::_,_,_,h=>by cases h
 | _::_,[],_,_,h=>by cases h
theorem TL {τ:Ty}{z:Value}{a:S.D τ}(h:Pj τ z=some a):z.cells.toList.map nQ=aX S τ a∧z.cells.size=S.sz τ:=by
 have key:z.cells.toList.map nQ=aX S τ a:=by
  unfold Pj at h;split at h
  ·rename_i n;split at h
   ·rename_i x hx;cases h;unfold FL at hx;dsimp only at hx;split at hx
    ·rename_i f l h1;split at hx
     ·rename_i a h2;cases hx;rw[ib,S.gZ _ _ _ h2];exact RA h1
     ·cases hx
    ·cases hx
   ·cases h
  ·rename_i hns;split at h
   ·rename_i x hx;obtain⟨f,x⟩:=x;split at h
    ·rename_i u hu;cases h;have hs:τ.gm=false:=by
      cases τ with
      | st n=>exact absurd rfl (hns n)
      | _=>rfl
     have hzu:z=u:=by
      have h3:=(K9 hx);cases z with
      | agg cs=>simp[vP,pk] at hx
      | _=>simpa[Value.cells] using hu
     rw[hu,bc,rN,jV S hs,←hzu,K9 hx]
    ·cases h
   ·cases h
 refine⟨key,?_⟩;have:=congrArg List.length key;rw[aN,tz,b9] at this;exact this
def Gd (P:Program) (s:ae S) (d:Nat) (t:TypeId) (x y:Operand){A:Type}(k:ae S→Option A):Option A:=
 match s.free (s.di d) with
 | true=>match P.underlying t with
  | some (.slice e)=>match S.V5 e with
   | some τ=>match P.info? e with
    | some i=>match i.zero with
     | some z=>match Pj τ z with
      | some a=>match cu s x with
       | some (.aD _ (.int _) n)=>match cu s y with
        | some (.aD _ (.int _) c)=>match decEq i.size (S.sz τ) with
         | isTrue _=>(bj (0≤n∧n≤c∧(i.bytes:Int)*c≤281474976710656∧c≤9223372036854775807)).bind fun _=>
          k ((s.add (s.di d) (.arr e true true τ (List.replicate (Int.toNat n) a))).put d (.aL (s.di d) τ))
         | isFalse _=>none
        | _=>none
       | _=>none
      | none=>none
     | none=>none
    | none=>none
   | none=>none
  | _=>none
 | false=>none
theorem UD {d:Nat}{t:TypeId}{x y:Operand}(hl:aO s) (h:Gd P s d t x y k=some r):fE P W s ⟨some d,.makeSlice t x y,ty,pos,after,guard⟩ k r:=by
 unfold Gd at h;split at h
 ·rename_i hf;split at h
  ·rename_i e hu;split at h
   ·rename_i τ _;split at h
    ·rename_i i hi;split at h
     ·rename_i z hz;split at h
      ·rename_i a ha;split at h
       ·rename_i n hx;split at h
        ·rename_i c hy;split at h
         ·rename_i hs _;obtain⟨u,hc,h⟩:=bind_some h;obtain⟨c1,c2,c3,c4⟩:=cD hc;obtain⟨z1,z2⟩:=TL ha;obtain⟨e1,hag⟩:=pV hf (.arr e true true τ (List.replicate (Int.toNat n) a)) rfl
          letI:=mY S τ
          refine .one _ (ET.Gd (α:=S.D τ) (x:=a) (sz:=S.sz τ) (bt:=i.bytes) (s.di d) (jY hx) (jY hy) hu (by rw[hi,cd,hz,hs]) z2 rfl z1 c1 c2 c3 c4 (gu hf)) ?_ ((hl.add _ hf).put _ _) ⟨rfl,rfl,rfl⟩ h;rw[iJ,e1];have e2:(TV.aL (s.di d) τ:TV S).er (s.add (s.di d) (.arr e true true τ (List.replicate (Int.toNat n) a))).ln=.aL (s.di d) (S.sz τ) 0 (List.replicate (Int.toNat n) a).length:=by
           show G.aL _ _ _ ((s.add (s.di d) _).ln (s.di d))=_;rw[show(s.add (s.di d) (.arr e true true τ (List.replicate (Int.toNat n) a))).ln (s.di d)=_ from we _ _];rfl
          rw[e2];exact Gh.refl _
         ·cases h
        ·cases h
       ·cases h
      ·cases h
     ·cases h
    ·cases h
   ·cases h
  ·cases h
 ·cases h
end
end
end Go.DN
/-
 DN,part I:values as plain data,cell by cell;slices built;stores.
-/
namespace Go.DN
open Go.AM
def Pl (m:G):Prop:=(∃u,m=.val u)∨(∃n cs,m=.sl n cs)∨(∃b,m=.dw b)∨∃cs,m=.ptr cs
theorem O0 {O:Nat→Prop}{base:Nat}{w:World}{μ:Mu}{f:Bool}{m:G}{v:Value}(hm:Pl m) (h:aU O base w μ (dY f m) v):bH (bif f then ir O base else O) w m v:=by
 rcases hm with ⟨u,rfl⟩ | ⟨n,cs,rfl⟩ | ⟨b,rfl⟩ | ⟨cs,rfl⟩
 ·have:dY f (.val u)=.val u:=by cases f <;> rfl
  rw[this] at h;cases h with
  | aF h=>cases h;exact .val _
 ·cases f with
  | true=>cases h with
   | aF h=>cases h
   | fr h=>exact h
  | false=>cases h with
   | aF h=>exact h
 ·cases f with
  | true=>cases h with
   | aF h=>cases h
   | fr h=>exact h
  | false=>cases h with
   | aF h=>exact h
 ·cases f with
  | true=>cases h with
   | aF h=>cases h
   | fr h=>exact h
  | false=>cases h with
   | aF h=>exact h
section
variable {S:eI}
theorem yW {τ:Ty}(h:τ.gm=false) (a:S.D τ):Pl (dI S τ a):=by
 cases τ with
 | st n=>cases h
 | list t=>exact .inr (.inl ⟨_,_,rfl⟩)
 | dw=>exact .inr (.inr (.inl ⟨_,rfl⟩))
 | pt n=>cases a with
  | none=>exact .inl ⟨_,rfl⟩
  | some a=>exact .inr (.inr (.inr ⟨_,rfl⟩))
 | _=>exact .inl ⟨_,rfl⟩
theorem uA (τ:Ty) (a:S.D τ):∀m∈aX S τ a,Pl m:=by
 intro m hm;cases τ with
 | st n=>
  rw[ib] at hm;obtain⟨x,hx,rfl⟩:=fc.1 hm;exact yW (lu n a x hx) x.a
 | _=>rw[jV S rfl] at hm;simp at hm;subst hm;exact yW rfl a
theorem XC (τ:Ty) (l:List (S.D τ)):∀m∈List.flatMap (aX S τ) l,Pl m:=by
 intro m hm;obtain⟨a,_,h⟩:=pW.1 hm;exact uA τ a m h
def xL (gs:List G) (f:Bool) (ms:List G):Prop:=gs.length=ms.length∧∀(j:Nat) (m:G),ms[j]?=some m→∃g,gs[j]?=some g∧RW g (dY f m)
theorem xL.flag {gs ms:List G}{f f':Bool}(h:xL gs f ms) (hf:f'=true→f=true):xL gs f' ms:=⟨h.1,fun j m hm=>let ⟨g,h1,h2⟩:=h.2 j m hm;⟨g,h1,h2.trans (RW.dY _ _ _ hf)⟩⟩
theorem xL.append {gs ms gs' ms':List G}{f:Bool}(h:xL gs f ms) (h':xL gs' f ms'):xL (gs++gs') f (ms++ms'):=by
 refine⟨by simp[h.1,h'.1],fun j m hm=>?_⟩;rw[bS] at hm⊢;rw[h.1];split at hm
 ·rename_i hj;rw[if_pos hj];exact h.2 j m hm
 ·rename_i hj;rw[if_neg hj];exact h'.2 _ m hm
theorem I8 {τ:Ty}{v:TV S}{f:Bool}{a:S.D τ}(h:FL τ v=some (f,a)) (ln:Nat→Nat):xL (cT (v.er ln)) f (aX S τ a):=by
 unfold FL at h;split at h
 ·rename_i f' τ' a';split at h
  ·rename_i b hb;cases h;have:=eW hb;cases this;cases τ with
   | st n=>
    have e:(f'||(Ty.st n).iR)=f':=by cases f' <;> rfl
    rw[e];refine⟨by show((aX S (.st n) a).map (dY f')).length=_;rw[aN],fun j m hm=>⟨dY f' m,?_,RW.refl _⟩⟩;show((aX S (.st n) a).map (dY f'))[j]?=_;rw[ak,hm];rfl
   | list t=>
    have e:(f'||(Ty.list t).iR)=f':=by cases f' <;> rfl
    rw[e,jV S rfl];refine⟨by cases f' <;> rfl,fun j m hm=>⟨dY f' m,?_,RW.refl _⟩⟩;cases j with
    | zero=>cases hm;cases f' <;> rfl
    | succ j=>cases hm
   | dw=>
    have e:(f'||Ty.dw.iR)=f':=by cases f' <;> rfl
    rw[e,jV S rfl];refine⟨by cases f' <;> rfl,fun j m hm=>⟨dY f' m,?_,RW.refl _⟩⟩;cases j with
    | zero=>cases hm;cases f' <;> rfl
    | succ j=>cases hm
   | pt n=>
    have e:(f'||(Ty.pt n).iR)=f':=by cases f' <;> rfl
    rw[e,jV S rfl];refine⟨by cases a <;> cases f' <;> rfl,fun j m hm=>⟨dY f' m,?_,RW.refl _⟩⟩;cases j with
    | zero=>cases hm;cases a <;> cases f' <;> rfl
    | succ j=>cases hm
   | _=>
    rw[jV S rfl];refine⟨by cases f' <;> rfl,fun j m hm=>⟨dY f' m,?_,?_⟩⟩
    ·cases j with
     | zero=>cases hm;cases f' <;> rfl
     | succ j=>cases hm
    ·cases j with
     | zero=>cases hm;cases f' <;> exact RW.refl _
     | succ j=>cases hm
  ·cases h
 ·split at h
  ·cases h;refine⟨rfl,fun j m hm=>⟨.val (.slice none 0 0),?_,?_⟩⟩
   ·cases j with
    | zero=>rfl
    | succ j=>cases hm
   ·cases j with
    | zero=>cases hm;exact RW.nil
    | succ j=>cases hm
  ·cases h
 ·split at h
  ·rename_i n;cases h;refine⟨rfl,fun j m hm=>⟨.val (.pointer none),?_,?_⟩⟩
   ·cases j with
    | zero=>rfl
    | succ j=>cases hm
   ·cases j with
    | zero=>cases hm;exact RW.refl _
    | succ j=>cases hm
  ·cases h
 ·split at h
  ·rename_i _ vs _ n;split at h
   ·rename_i f1 l h1;split at h
    ·rename_i a1 h2;cases h;obtain⟨i1,i2⟩:=CZ ln h1;have h3:=S.gZ n l a h2;rw[ib,h3];show xL (TV.er.go ln vs) _ _;rw[cP];refine⟨by simp[i1],fun j m hm=>?_⟩;rw[ak] at hm;obtain⟨x,hx,rfl⟩:=az.1 hm;obtain⟨v,h4,h5⟩:=i2 j x hx;exact⟨v.er ln,by rw[ak,h4];rfl,h5⟩
    ·cases h
   ·cases h
  ·cases h
 ·cases h
theorem Gh.pure {s:St}{h:Nat}{k:av}{cs:List G}{f:Bool}(hk:ay s.st h=some k) (hp:k.pure=false) (hlp:k.lp=none) (hpl:∀m∈cs,Pl m) (hc:xL k.cells f cs):
  Gh s {fr:=s.fr,st:=dF s.st h {k with pure:=true,fresh:=f,cells:=cs},df:=s.df}:=by
 refine Gh.of (fun N cx μ a w hr=>hr.C4 hk rfl rfl rfl (by dsimp only;rw[hc.1];exact aG _) hlp hlp fun j g' hg'=>?_) fun x k1 hx=>?_
 ·obtain⟨g,h1,h2⟩:=hc.2 j g' hg';refine⟨g,h1,fun v hv=>?_⟩;unfold cZ at hv⊢;rw[hp] at hv;exact O0 (hpl g' (aj hg')) (h2 _ _ _ _ _ hv)
 ·rcases dm hk hx with ⟨e,_⟩ | ⟨_,h1⟩
  ·subst e;exact⟨k,hk⟩
  ·exact⟨k1,h1⟩
def Px (τ:Ty):List (TV S)→Option (Bool×List (S.D τ))
 | []=>some (true,[])
 | v::r=>match okV v with
  | true=>match FL τ v with
   | some (f,a)=>match Px τ r with
    | some (g,l)=>some (f&&g,a::l)
    | none=>none
   | none=>none
  | false=>none
theorem N3 {τ:Ty}(ln:Nat→Nat):∀{vs:List (TV S)}{f:Bool}{l:List (S.D τ)},Px τ vs=some (f,l)→
  rz (S.sz τ) (TV.er.go ln vs)=true∧l.length=vs.length∧xL ((TV.er.go ln vs).flatMap cT) f (List.flatMap (aX S τ) l)
 | [],_,_,h=>by cases h;exact⟨rfl,rfl,rfl,fun j m h=>by simp at h⟩
 | v::r,f,l,h=>by
  simp only[Px] at h;split at h
  ·rename_i ho;split at h
   ·rename_i f1 a h1;split at h
    ·rename_i g l' h2;cases h;obtain⟨i1,i2,i3⟩:=N3 ln h2;have h3:=I8 h1 ln;refine⟨?_,by simp[i2],?_⟩
     ·simp only[TV.er.go,rz,af];refine⟨⟨tc ho ln,?_⟩,i1⟩;rw[h3.1,tz];exact aW _
     ·simp only[TV.er.go,b6];exact(h3.flag fun h=>by simp at h;exact h.1).append (i3.flag fun h=>by simp at h;exact h.2)
    ·cases h
   ·cases h
  ·cases h
def yF (s:ae S):List (Nat×Operand)→Nat→Option (List (TV S))
 | [],_=>some []
 | (i,x)::r,j=>match Nat.beq i j with
  | true=>match cu s x with
   | some v=>match yF s r (j+1) with
    | some vs=>some (v::vs)
    | none=>none
   | none=>none
  | false=>none
theorem BV {s:ae S}:∀{l:List (Nat×Operand)}{j:Nat}{vs:List (TV S)},yF s l j=some vs→MK s.er l j=some (TV.er.go s.ln vs)
 | [],_,_,h=>by cases h;rfl
 | (i,x)::r,j,vs,h=>by
  simp only[yF] at h;split at h
  ·rename_i hb;split at h
   ·rename_i v hv;split at h
    ·rename_i vs' hr;cases h;simp only[MK,hb,bh hv,BV hr,TV.er.go]
    ·cases h
   ·cases h
  ·cases h
section
variable {P:Program}{W:List Nat}{s:ae S}{ty:TypeId}{pos:String}{after:Array Edge}{guard:Option (Nat×Bool)}{A:Type}{k:ae S→Option A}{r:A}
def VP (P:Program) (s:ae S) (d:Nat) (t:TypeId) (n:Nat) (parts:Array (Nat×Operand)){A:Type}(k:ae S→Option A):Option A:=
 match s.free (s.di d) with
 | true=>match P.underlying t with
  | some (.slice e)=>match S.V5 e with
   | some τ=>match P.info? e with
    | some i=>match i.zero with
     | some _=>match decEq i.size (S.sz τ) with
      | isTrue _=>match parts.toList with
       | []=>match n with
        | 0=>k ((s.add (s.di d) (.arr e true true τ [])).put d (.aL (s.di d) τ))
        | _=>none
       | p::ps=>match yF s (p::ps) 0 with
        | some vs=>match Px τ vs with
         | some (f,l)=>match Nat.beq vs.length n&&(Nat.ble (n*S.sz τ) 16777216&&Nat.blt 0 n) with
          | true=>k ((s.add (s.di d) (.arr e true f τ l)).put d (.aL (s.di d) τ))
          | false=>none
         | none=>none
        | none=>none
      | isFalse _=>none
     | none=>none
    | none=>none
   | none=>none
  | _=>none
 | false=>none
theorem LP {s:ae S}{h:Nat}{e:TypeId}{m f:Bool}{τ:Ty}{l:List (S.D τ)}:(TV.aL h τ:TV S).er (s.add h (.arr e m f τ l)).ln=.aL h (S.sz τ) 0 l.length:=by
 show G.aL _ _ _ ((s.add h _).ln h)=_;rw[show(s.add h (.arr e m f τ l)).ln h=_ from we _ _];rfl
theorem RG {h:Nat}{k k':av}{r:List (Nat×av)}:dF ((h,k)::r) h k'=(h,k')::r:=by
 simp only[dF,aW,cond_true]
theorem XN {d:Nat}{t:TypeId}{n:Nat}{parts:Array (Nat×Operand)}(hl:aO s) (h:VP P s d t n parts k=some r):fE P W s ⟨some d,.buildSlice t n parts,ty,pos,after,guard⟩ k r:=by
 unfold VP at h;split at h
 ·rename_i hf;split at h
  ·rename_i e hu;split at h
   ·rename_i τ _;split at h
    ·rename_i i hi;split at h
     ·rename_i z hz;split at h
      ·rename_i hs _;have hinfo:(P.info? e).map (fun i=>(i.zero,i.size,i.bytes))=some (some z,S.sz τ,i.bytes):=by rw[hi,cd,hz,hs]
       split at h
       ·rename_i hp;have:=HB hp;subst this;split at h
        ·obtain⟨e1,_⟩:=pV hf (.arr e true true τ ([]:List (S.D τ))) rfl;refine .one _ (EF.NZ (s.di d) hu hinfo (gu hf)) ?_ ((hl.add _ hf).put _ _) ⟨rfl,rfl,rfl⟩ h;rw[iJ,e1,LP];exact Gh.refl _
        ·cases h
       ·rename_i p ps hp;split at h
        ·rename_i vs hv;split at h
         ·rename_i f l ht;split at h
          ·rename_i hc;simp only[af] at hc;obtain⟨c1,c2,c3⟩:=hc;have c1:=ab c1;have c2:=fK c2;have c3:0<n:=by simpa[gG] using c3
           obtain⟨i1,i2,i3⟩:=N3 s.ln ht;obtain⟨e1,_⟩:=pV hf (.arr e true f τ l) rfl;refine .one _ (EF.buildSlice (sz:=S.sz τ) (z:=z) (bt:=i.bytes) (s.di d) (gs:=TV.er.go s.ln vs) (by rw[hp];exact BV hv) (by rw[cP,aN,c1]) hu hinfo (Nat.mul_pos c3 (Lb S τ)) c2 i1 (gu hf)) ?_ ((hl.add _ hf).put _ _) ⟨rfl,rfl,rfl⟩ h;rw[iJ,e1,LP,i2,c1];have:=Gh.pure (s:={fr:=(d,.aL (s.di d) (S.sz τ) 0 n)::s.er.fr,st:=(s.di d,⟨e,false,true,false,S.sz τ,(TV.er.go s.ln vs).flatMap cT,none⟩)::s.er.st,df:=s.er.df}) (h:=s.di d)
            (dU _ _ _) rfl rfl (XC τ l) i3
           rw[RG] at this;exact this
          ·cases h
         ·cases h
        ·cases h
      ·cases h
     ·cases h
    ·cases h
   ·cases h
  ·cases h
 ·cases h
end
end
end Go.DN
/-
 DN,part J:stores.
-/
namespace Go.DN
open Go.AM
section
variable {P:Program}{W:List Nat}{s:St}{ty:TypeId}{pos:String}{after:Array Edge}{guard:Option (Nat×Bool)}
theorem EF.N4 {t:TypeId}{x y:Operand}{h off sz:Nat}{k:av}{g:G}{gs ms cells':List G}{f:Bool}(hx:ev s x=some (.loc h off)) (hy:ev s y=some g) (hk:ay s.st h=some k) (hp:k.pure=true)
  (hok:Gv g=true) (hgs:cT g=gs) (hone:gs.all G.one=true) (hl:gs.length=sz) (hsz:∀w,(sizeOf t).run P w=.ok sz w) (hoff:off+sz≤k.cells.length) (hW:W.contains h=true)
  (hms:xL gs f ms) (hpl:∀m∈ms,Pl m)
  (hc':k.cells.take off++ms++k.cells.drop (off+sz)=cells') (hlp:k.lp=none):
  cm P W s ⟨none,.store t x y,ty,pos,after,guard⟩ (·={fr:=s.fr,st:=dF s.st h {k with fresh:=k.fresh&&f,cells:=cells'},df:=s.df}):=by
 refine cm.skip rfl (fun _ h=>by cases h) ?_;intro N cx μ a w hr;obtain⟨b,m,e1,hm⟩:=hr.loc hx;obtain⟨cs,h1,h2,h3,h4,hbt,h5⟩:=hr.own hk hm hlp;obtain⟨hvl,hvc⟩:=(hr.ev hy).cells hok;rw[hgs] at hvl hvc;have hml:ms.length=sz:=hms.1▸hl;have hlen:(a.eval y).cells.toList.length=sz:=by rw[b9,hvl,hl]
 have hrun:=run_storeCells_at P b off k.bI (a.eval y).cells.toList 0 cs w h1 (by rw[hlen];omega) (fun v hv=>by
  obtain⟨j,hj⟩:=cA hv;have hjl:j<gs.length:=by
   have:=(ai.1 hj).1;omega
  obtain⟨u,hu,hru⟩:=hvc j gs[j] (ag hjl);rw[bq] at hj;rw[hj] at hu;cases hu;exact hru.one (dB.1 hone _ (fQ hjl)))
 rw[fZ,hlen] at hrun;refine⟨μ,w.setRow b (cs.toList.take off++(a.eval y).cells.toList++cs.toList.drop (off+sz)).toArray,?_,?_⟩
 ·simp only[execOp,Instr.storeAt,Instr.sureAddr,e1,storeVar,hsz,Sem.run_bind,Sem.run_pure,Result.andThen_ok];rw[if_neg (by rw[hvl,hl];simp)];rw[hrun];rfl
 ·subst hc';refine hr.write (k':={k with fresh:=k.fresh&&f,cells:=k.cells.take off++ms++k.cells.drop (off+sz)}) hk hm (qX h1) ?_ (setRow_size _ _ _) (fun b' hb'=>setRow_other w b b' _ hb') rfl rfl rfl id ?_ hbt ?_ W hW hlp
  ·simp only[List.size_toArray,aI,br,cf,b9,hvl,hl];omega
  ·simp only[aI,br,cf,hml];omega
  ·intro j g' hg';have kO:∀(j:Nat),(cs.toList.take off++(a.eval y).cells.toList++cs.toList.drop (off+sz)).toArray[j]?=if j<off then cs[j]? else if j<off+sz then(a.eval y).cells[j-off]? else cs[j]?:=by
    intro j;rw[List.getElem?_toArray,aR,bS,br,b9,iN (by omega:off≤cs.size)];split
    ·rename_i hj;rw[bo,if_pos hj,bq]
    ·rw[bS,hlen];split
     ·rename_i hj1 hj2;rw[if_pos (by omega),bq]
     ·rename_i hj1 hj2;rw[if_neg (by omega),bE,bq];congr 1;omega
   dsimp only at hg';rw[aR,bS,br,iN (by omega:off≤k.cells.length)] at hg';rw[kO];split at hg'
   ·rename_i hj;rw[if_pos hj];rw[bo,if_pos hj] at hg';obtain⟨v,hv,hrv⟩:=h5 j g' hg';refine⟨v,hv,?_⟩;unfold cZ at hrv⊢;dsimp only;rw[hp] at hrv⊢;exact hrv.flag fun h=>by simp at h;exact h.1
   ·rename_i hj;rw[if_neg hj];rw[bS,hml] at hg';split at hg'
    ·rename_i hj2;rw[if_pos (by omega)];obtain⟨g0,hg0,hw0⟩:=hms.2 _ g' hg';obtain⟨v,hv,hrv⟩:=hvc _ g0 hg0;refine⟨v,hv,?_⟩;unfold cZ;dsimp only;rw[hp];exact(O0 (hpl g' (aj hg')) (hw0 _ _ _ _ _ hrv)).flag fun h=>by simp at h;exact h.2
    ·rename_i hj2;rw[if_neg (by omega)];rw[bE] at hg';have:off+sz+(j-off-sz)=j:=by omega
     rw[this] at hg';obtain⟨v,hv,hrv⟩:=h5 j g' hg';refine⟨v,hv,?_⟩;unfold cZ at hrv⊢;dsimp only;rw[hp] at hrv⊢;exact hrv.flag fun h=>by simp at h;exact h.1
end
section
variable {S:eI}
theorem kh (τ:Ty) (l:List (S.D τ)):(List.flatMap (aX S τ) l).length=l.length*S.sz τ:=@fG _ (mY S τ) l
theorem GS (τ:Ty) (l:List (S.D τ)) (n:Nat):(List.flatMap (aX S τ) l).take (n*S.sz τ)=List.flatMap (aX S τ) (l.take n):=@uz _ (mY S τ) l n
theorem GU (τ:Ty) (l:List (S.D τ)) (n:Nat):(List.flatMap (aX S τ) l).drop (n*S.sz τ)=List.flatMap (aX S τ) (l.drop n):=@Cn _ (mY S τ) l n
theorem wv (τ:Ty) (l m:List (S.D τ)):List.flatMap (aX S τ) (l++m)=List.flatMap (aX S τ) l++List.flatMap (aX S τ) m:=qj
theorem Tf (τ:Ty){l:List (S.D τ)}{i:Nat}{a b:S.D τ}(hi:l[i]?=some b):List.flatMap (aX S τ) (l.set i a)=(List.flatMap (aX S τ) l).take (i*S.sz τ)++aX S τ a++(List.flatMap (aX S τ) l).drop (i*S.sz τ+S.sz τ):=by
 have hlt:=(ai.1 hi).1;rw[fk,if_pos hlt,wv,b6,GS];have:i*S.sz τ+S.sz τ=(i+1)*S.sz τ:=by rw[ff,Nat.one_mul]
 rw[this,GU,aR]
theorem JN (n:Nat){l:List (S.α n)}{i j:Nat}{a b:S.α n}{x:bn S.α}(hi:l[i]?=some b) (hj:j<(S.cells n b).length) (ha:S.cells n a=(S.cells n b).set j x):
  List.flatMap (aX S (.st n)) (l.set i a)=(List.flatMap (aX S (.st n)) l).take (i*S.sz (.st n)+j)++[dI S x.τ x.a]++(List.flatMap (aX S (.st n)) l).drop (i*S.sz (.st n)+j+1):=by
 have hlt:=(ai.1 hi).1;have hlen:(S.cells n b).length=S.sz (.st n):=by
  have:=congrArg List.length (S.nJ n b);rw[aN] at this;exact this
 have hsplit:List.flatMap (aX S (.st n)) l=List.flatMap (aX S (.st n)) (l.take i)++((S.cells n b).map (fun x=>dI S x.τ x.a)++List.flatMap (aX S (.st n)) (l.drop (i+1))):=by
  have e:l=l.take i++b::l.drop (i+1):=by
   have:=(ai.1 hi).2;rw[←this,List.getElem_cons_drop,oL]
  conv=>lhs;rw[e]
  rw[wv,b6];show _++(aX S (.st n) b++_)=_;rw[ib]
 have hset:List.flatMap (aX S (.st n)) (l.set i a)=List.flatMap (aX S (.st n)) (l.take i)++((S.cells n a).map (fun x=>dI S x.τ x.a)++List.flatMap (aX S (.st n)) (l.drop (i+1))):=by
  rw[fk,if_pos hlt,wv,b6];show _++(aX S (.st n) a++_)=_;rw[ib]
 have hpre:(List.flatMap (aX S (.st n)) (l.take i)).length=i*S.sz (.st n):=by
  rw[kh,br,iN (Nat.le_of_lt hlt)]
 rw[hset,hsplit,ha];generalize List.flatMap (aX S (.st n)) (l.take i)=pre at hpre;generalize List.flatMap (aX S (.st n)) (l.drop (i+1))=post;generalize S.cells n b=cb at hj;have e1:(pre++(cb.map (fun x=>dI S x.τ x.a)++post)).take (i*S.sz (.st n)+j)=pre++(cb.map (fun x=>dI S x.τ x.a)).take j:=by
  rw[List.take_append,hpre,dj (by omega),List.take_append];have:i*S.sz (.st n)+j-i*S.sz (.st n)=j:=by omega
  rw[this];have:j-(cb.map (fun x=>dI S x.τ x.a)).length=0:=by rw[aN];omega
  rw[this,dA,bM]
 have e2:(pre++(cb.map (fun x=>dI S x.τ x.a)++post)).drop (i*S.sz (.st n)+j+1)=(cb.map (fun x=>dI S x.τ x.a)).drop (j+1)++post:=by
  rw[List.drop_append,hpre,List.drop_of_length_le (by omega),jD,List.drop_append];have:i*S.sz (.st n)+j+1-i*S.sz (.st n)=j+1:=by omega
  rw[this];have:j+1-(cb.map (fun x=>dI S x.τ x.a)).length=0:=by rw[aN];omega
  rw[this,gW]
 rw[e1,e2,nP,fk,if_pos (by rw[aN];exact hj)];simp only[aR,bU,jD]
theorem Tr {τ:Ty}(hs:τ.iR=true) (x:S.D τ):∃u,dI S τ x=.val u:=by
 cases τ with
 | list _=>cases hs
 | st _=>cases hs
 | dw=>cases hs
 | pt _=>cases hs
 | _=>exact⟨_,rfl⟩
theorem VB {f:Bool}{τ:Ty}(hs:τ.iR=true){x:S.D τ}{u:Value}(hu:dI S τ x=.val u):oP f τ x=.val u:=by
 rw[←hu];cases τ with
 | list _=>cases hs
 | st _=>cases hs
 | dw=>cases hs
 | pt _=>cases hs
 | _=>cases f <;> rfl
theorem Tl {f:Bool}{τ:Ty}(hs:τ.iR=true){x:S.D τ}:eH (TV.aD f τ x:TV S)=[.aD f τ x]:=by
 cases τ with
 | list _=>cases hs
 | st _=>cases hs
 | dw=>cases hs
 | pt _=>cases hs
 | _=>rfl
def Ic {A:Type}:(τ':Ty)→S.D τ'→Ty→Nat→Nat→TV S→(S.D τ'→Option A)→Option A
 | .list (.list t),ll,τ,i,j,vy,k=>match t.iR with
  | true=>match decEq τ t with
   | isTrue _=>match pk t vy with
    | some x=>(ll[i]?).bind fun r=>(bj (j<List.length r)).bind fun _=>k (List.set ll i (List.set r j x.2))
    | none=>none
   | isFalse _=>none
  | false=>none
 | _,_,_,_,_,_,_=>none
theorem QI {A:Type}{r0:A}:∀{τ':Ty}{a:S.D τ'}{τ:Ty}{i j:Nat}{vy:TV S}{k:S.D τ'→Option A},Ic τ' a τ i j vy k=some r0→
  ∃(u:Value) (n:Nat) (gs:List G) (a':S.D τ'),S.sz τ=1∧(∀ln,vy.er ln=.val u)∧eH vy=[vy]∧(kA τ' a).2[i]?=some (n,gs)∧j<gs.length∧k a'=some r0∧xN τ' a'=xN τ' a∧
   (kA τ' a').1=(kA τ' a).1∧(kA τ' a').2=(kA τ' a).2.set i (n,gs.set j (.val u))
 | .list (.list t),ll,τ,i,j,vy,k,h=>by
  simp only[Ic] at h;split at h
  ·rename_i hs;split at h
   ·rename_i e _;subst e;split at h
    ·rename_i x hx;obtain⟨r,h1,h⟩:=bind_some h;obtain⟨_,h2,h⟩:=bind_some h;have h2:=cD h2;obtain⟨f,x⟩:=x;have hst:τ.gm=false:=by cases τ <;> first | rfl | cases hs
     have hv:∃u,dI S τ x=.val u∧(∀ln,vy.er ln=.val u)∧eH vy=[vy]:=by
      unfold pk at hx;split at hx
      ·split at hx
       ·cases hx
       ·rename_i hns;split at hx
        ·rename_i b hb;cases hx;have:=eW hb;cases this;obtain⟨u,hu⟩:=Tr hs x;exact⟨u,hu,fun _=>VB hs hu,Tl hs⟩
        ·cases hx
      ·split at hx
       ·cases hs
       ·cases hx
      ·split at hx
       ·cases hs
       ·cases hx
      ·cases hx
     obtain⟨u,hu,hv1,hv2⟩:=hv;have hsz:S.sz τ=1:=by cases τ <;> first | rfl | cases hs
     have hone:∀l:List (S.D τ),List.flatMap (aX S τ) l=l.map (dI S τ):=by
      intro l
      induction l with
      | nil=>rfl
      | cons y r ih=>rw[b6,ih,jV S hst];rfl
     refine⟨u,List.length r,List.flatMap (aX S τ) r,_,hsz,hv1,hv2,by show(List.map _ ll)[i]?=_;rw[ak,h1];rfl,?_,h,?_,rfl,?_⟩
     ·rw[hone,aN];exact h2
     ·show(List.set ll i _).length=ll.length;exact fP
     ·show List.map _ (List.set ll i _)=List.set (List.map _ ll) i _;rw[nP];congr 1;show(List.length (List.set r j x),List.flatMap (aX S τ) (List.set r j x))=_;rw[fP,hone,hone,nP,hu]
    ·cases h
   ·cases h
  ·cases h
 | .list (.int _),_,_,_,_,_,_,h=>by cases h
 | .list .bool,_,_,_,_,_,_,h=>by cases h
 | .list .dw,_,_,_,_,_,_,h=>by cases h
 | .list (.pt _),_,_,_,_,_,_,h=>by cases h
 | .list .str,_,_,_,_,_,_,h=>by cases h
 | .list (.st _),_,_,_,_,_,_,h=>by cases h
 | .int _,_,_,_,_,_,_,h=>by cases h
 | .bool,_,_,_,_,_,_,h=>by cases h
 | .dw,_,_,_,_,_,_,h=>by cases h
 | .pt _,_,_,_,_,_,_,h=>by cases h
 | .str,_,_,_,_,_,_,h=>by cases h
 | .st _,_,_,_,_,_,_,h=>by cases h
def gb (ki:IntKind) (l:List Int) (i:Nat) (v:Int):List (TV S):=(List.range l.length).map fun m=>.aD true (.int ki) ((l.set i v).getD m 0)
theorem WX (ki:IntKind) (cs:List (TV S)) (j i:Nat) (v:Int) (hi:i<(k8 ki (cs.drop j)).length) (ln:Nat→Nat):
  (cs.take j++gb ki (k8 ki (cs.drop j)) i v++cs.drop (j+(k8 ki (cs.drop j)).length)).map (TV.er ln)=(cs.map (TV.er ln)).set (j+i) (.val (.int ki v)):=by
 generalize hl:k8 ki (cs.drop j)=l at hi;have hg:∀m,m<l.length→∃f,cs[j+m]?=some (.aD f (.int ki) (l.getD m 0)):=fun m hm=>by
  have h1:(k8 ki (cs.drop j))[m]?=some (l.getD m 0):=by rw[hl,bZ,ag hm];rfl
  obtain⟨f,h2⟩:=xq h1;exact⟨f,by rwa[bE] at h2⟩
 have hjl:j+l.length≤cs.length:=by
  obtain⟨f,h⟩:=hg (l.length-1) (by omega);have:=(ai.1 h).1;omega
 have htl:(cs.take j).length=j:=by rw[br];omega
 have hpl:(gb (S:=S) ki l i v).length=l.length:=by unfold gb;simp
 apply du;intro q;rw[ak,dN,aN]
 by_cases h1:q<j
 ·rw[eL (by rw[aI,htl];omega),eL (by omega),bo,if_pos h1,if_neg (by omega),ak]
 ·by_cases h2:q<j+l.length
  ·obtain⟨m,rfl⟩:∃m,q=j+m:=⟨q-j,by omega⟩;have hm:m<l.length:=by omega
   rw[eL (by rw[aI,htl,hpl];omega),gV (by omega),htl,show j+m-j=m by omega];unfold gb;rw[ak,dr hm,cd,cd];show some (oP true (.int ki) _)=_;rw[tB]
   by_cases h3:m=i
   ·subst h3;rw[if_pos rfl,if_pos (by omega),bZ,List.getElem?_set_self hm];rfl
   ·rw[if_neg (by omega),bZ,List.getElem?_set_ne (fun e=>h3 e.symm),←bZ];obtain⟨f,h4⟩:=hg m hm;rw[ak,h4];exact congrArg some (tB f ki _).symm
  ·rw[gV (by rw[aI,htl,hpl];omega),aI,htl,hpl,bE,show j+l.length+(q-(j+l.length))=q by omega,if_neg (by omega),ak]
def UZ (ki:IntKind):TV S→Option Int
 | .aD _ (.int k) a=>match decEq k ki with
  | isTrue _=>some a
  | isFalse _=>none
 | _=>none
theorem Xo {ki:IntKind}{v:TV S}{a:Int}(h:UZ ki v=some a):∃f,v=.aD f (.int ki) a:=by
 unfold UZ at h;split at h
 ·rename_i f k b;split at h
  ·rename_i e _;subst e;cases h;exact⟨f,rfl⟩
  ·cases h
 ·cases h
def BK (P:Program) (ok:Nat→Bool) (s:ae S) (t:TypeId) (x y:Operand){A:Type}(k:ae S→Option A):Option A:=
 match cu s y with
 | some vy=>match okV vy&&F2 (eH vy) with
  | true=>match decEq (ny P t) (some (eH vy).length) with
   | isTrue _=>match cu s x with
    | some (.loc h off)=>match ok h with
     | true=>match aA s.st h with
      | some (.box e m cs)=>match Nat.ble (off+(eH vy).length) cs.length with
       | true=>k (s.set h (.box e m (cs.take off++eH vy++cs.drop (off+(eH vy).length))))
       | false=>none
      | _=>none
     | false=>none
    | some (.iK h τ i j)=>match ok h with
     | true=>match aA s.st h with
      | some (.arr e m f τ' l)=>match decEq τ' τ with
       | isTrue _=>GV s x h l i fun y=>match Nat.beq (eH vy).length (S.sz τ') with
        | true=>match j with
         | 0=>match FL τ' vy with
          | some (fy,a)=>k (s.set h (.arr e m (f&&fy) τ' (l.set i a)))
          | none=>none
         | _=>none
        | false=>match τ',l,y with
         | .st n,l,⟨.st n',b⟩=>match decEq n' n with
          | isTrue hn=>match (S.cX n)[j]? with
           | some τj=>match pk τj vy with
            | some (fy,a)=>match S.put n ((S.cells n' b).set j ⟨τj,a⟩) with
             | some b'=>k (s.set h (.arr e m (f&&fy) (.st n) (l.set i b')))
             | none=>none
            | none=>none
           | none=>none
          | isFalse _=>none
         | _,_,_=>none
       | isFalse _=>none
      | some (.box e m cs)=>match τ with
       | .int ki=>match UZ ki vy with
        | some v=>(bj (i<(k8 ki (cs.drop j)).length)).bind fun _=>k (s.set h (.box e m (cs.take j++gb ki (k8 ki (cs.drop j)) i v++cs.drop (j+(k8 ki (cs.drop j)).length))))
        | none=>none
       | _=>none
      | _=>none
     | false=>none
    | some (.kp h τ i j)=>match ok h with
     | true=>match aA s.st h with
      | some (.deep e m f (.wq kty) τ' a)=>Ic τ' a τ i j vy fun a'=>k (s.set h (.deep e m f (.wq kty) τ' a'))
      | _=>none
     | false=>none
    | _=>none
   | isFalse _=>none
  | false=>none
 | none=>none
theorem Py {τ:Ty}{v:TV S}{f:Bool}{a:S.D τ}(h:pk τ v=some (f,a)) (ln:Nat→Nat):xL (cT (v.er ln)) f [dI S τ a]∧eH v=[v]:=by
 have ⟨h1,h2⟩:=HC h ln;have hc:eH v=[v]:=by
  cases v with
  | aD f' τ' a'=>
   cases τ' with
   | st n=>simp[pk,Ty.gm] at h
   | _=>rfl
  | agg l=>simp[pk] at h
  | _=>rfl
 refine⟨?_,hc⟩;have hg:cT (v.er ln)=[v.er ln]:=by
  cases v with
  | aD f' τ' a'=>
   cases τ' with
   | st n=>simp[pk,Ty.gm] at h
   | pt n=>cases a' <;> cases f' <;> rfl
   | _=>cases f' <;> rfl
  | val u=>
   unfold pk at h;split at h
   ·rename_i e;cases e
   ·rename_i e;cases e;rfl
   ·rename_i e;cases e;rfl
   ·cases h
  | _=>simp[pk] at h
 rw[hg];refine⟨rfl,fun j m hm=>?_⟩;cases j with
 | zero=>cases hm;exact⟨_,rfl,h2⟩
 | succ j=>cases hm
section
variable {P:Program}{W:List Nat}{s:ae S}{ty:TypeId}{pos:String}{after:Array Edge}{guard:Option (Nat×Bool)}{A:Type}{k:ae S→Option A}{r:A}
theorem RE {t:TypeId}{x y:Operand}{hh n i j:Nat}{e:TypeId}{m f fy:Bool}{l:List (S.D (.st n))}{b b2:S.D (.st n)}{vy:TV S}{τj:Ty}{a:S.D τj}(hl:aO s) (hx:cu s x=some (.iK hh (.st n) i j)) (hy:cu s y=some vy) (hok:okV vy=true) (hones:F2 (eH vy)=true)
  (hsz:ny P t=some (eH vy).length) (hW:W.contains hh=true) (ho:aA s.st hh=some (.arr e m f (.st n) l)) (hb:l[i]?=some b) (hj:(S.cX n)[j]?=some τj) (ha:pk τj vy=some (fy,a)) (hp:S.put n ((S.cells n b).set j ⟨τj,a⟩)=some b2)
  (h:k (s.set hh (.arr e m (f&&fy) (.st n) (l.set i b2)))=some r):fE P W s ⟨none,.store t x y,ty,pos,after,guard⟩ k r:=by
 have hg:=xe hok s.ln;have hil:=(ai.1 hb).1;have htot:(i+1)*S.sz (.st n)≤l.length*S.sz (.st n):=bW _ hil;rw[ff,Nat.one_mul] at htot;obtain⟨hcs,ht1⟩:=Py ha s.ln;have hlen:(S.cells n b).length=S.sz (.st n):=by
  have:=congrArg List.length (S.nJ n b);rw[aN] at this;exact this
 have hjl:j<S.sz (.st n):=(ai.1 hj).1;rw[ht1] at hsz hones hg;have hcell:=S.gZ _ _ _ hp;have hset:=JN n hb (by rw[hlen];exact hjl) hcell;obtain⟨e2,_⟩:=pu (o':=.arr e m (f&&fy) (.st n) (l.set i b2)) ho (by show(l.set i b2).length=l.length;exact fP);refine .one _ (EF.N4 (f:=fy) (ms:=[dI S τj a]) (bh hx) (bh hy) (eB (fR ho)) rfl (tc hok s.ln) hg (p6 s.ln hones) (by rw[cP,aN]) (dC hsz)
  (by show i*S.sz (.st n)+j+1≤(List.flatMap (aX S (.st n)) l).length;rw[kh];omega) hW (hg▸hcs) (fun m hm=>by simp at hm;subst hm;exact yW (HC ha s.ln).1 a) rfl rfl) ?_ (hl.set ho _) ⟨rfl,rfl,rfl⟩ h
 rw[e2];have:(TO.arr e m (f&&fy) (.st n) (l.set i b2):TO S).er s.ln=⟨e,true,m,f&&fy,S.sz (.st n),(List.flatMap (aX S (.st n)) l).take (i*S.sz (.st n)+j)++[dI S τj a]++(List.flatMap (aX S (.st n)) l).drop (i*S.sz (.st n)+j+1),none⟩:=by
  simp only[TO.er];rw[hset]
 rw[this];exact Gh.refl _
theorem Bz {ok:Nat→Bool}(hokW:∀h,ok h=true→W.contains h=true){t:TypeId}{x y:Operand}(hl:aO s) (h:BK P ok s t x y k=some r):fE P W s ⟨none,.store t x y,ty,pos,after,guard⟩ k r:=by
 unfold BK at h;split at h
 ·rename_i vy hy;split at h
  ·rename_i hov;simp only[af] at hov;obtain⟨hok,hones⟩:=hov;have hg:=xe hok s.ln;split at h
   ·rename_i hsz _;split at h
    ·rename_i hh off hx;split at h
     ·rename_i hW;split at h
      ·rename_i e m cs ho;split at h
       ·rename_i hb;have hb:=fK hb;obtain⟨e1,_⟩:=pu (o':=.box e m (cs.take off++eH vy++cs.drop (off+(eH vy).length))) ho rfl;refine .one _ (EF.Le (bh hx) (bh hy) (eB (fR ho)) rfl (tc hok s.ln) hg (p6 s.ln hones) (by rw[cP,aN]) (dC hsz) (by show _≤(TV.er.go s.ln cs).length;rw[cP,aN];exact hb) (hokW _ hW) rfl) ?_ (hl.set ho _) ⟨rfl,rfl,rfl⟩ h;rw[e1];have:(TO.box e m (cs.take off++eH vy++cs.drop (off+(eH vy).length)):TO S).er s.ln={(TO.box e m cs:TO S).er s.ln with cells:=((TO.box e m cs:TO S).er s.ln).cells.take off++TV.er.go s.ln (eH vy)++((TO.box e m cs:TO S).er s.ln).cells.drop (off+(eH vy).length)}:=by
         simp only[TO.er,cP,dW,List.map_take,List.map_drop]
        rw[this];exact Gh.refl _
       ·cases h
      ·cases h
     ·cases h
    ·rename_i hh τ i j hx;split at h
     ·rename_i hW;split at h
      ·rename_i e m f τ' l ho;split at h
       ·rename_i e1 _;subst e1;obtain⟨b,hb,h2⟩:=E0 hl ⟨j,hx⟩ (fR ho) h;replace h:=h2;clear h2;have hil:=(ai.1 hb).1;have htot:(i+1)*S.sz τ'≤l.length*S.sz τ':=bW _ hil;rw[ff,Nat.one_mul] at htot;split at h
        ·rename_i hc;have hc:=ab hc;split at h
         ·split at h
          ·rename_i fy a ha;have hcs:=I8 ha s.ln;obtain⟨e2,_⟩:=pu (o':=.arr e m (f&&fy) τ' (l.set i a)) ho (by show(l.set i a).length=l.length;simp);refine .one _ (EF.N4 (f:=fy) (ms:=aX S τ' a) (bh hx) (bh hy) (eB (fR ho)) rfl (tc hok s.ln) hg (p6 s.ln hones) (by rw[cP,aN]) (dC hsz) (by show _≤(List.flatMap (aX S τ') l).length;rw[kh,hc];omega) (hokW _ hW) (hg▸hcs) (uA τ' a) rfl rfl) ?_ (hl.set ho _) ⟨rfl,rfl,rfl⟩ h;rw[e2];have:(TO.arr e m (f&&fy) τ' (l.set i a):TO S).er s.ln=⟨e,true,m,f&&fy,S.sz τ',(List.flatMap (aX S τ') l).take (i*S.sz τ'+0)++aX S τ' a++(List.flatMap (aX S τ') l).drop (i*S.sz τ'+0+(eH vy).length),none⟩:=by
            simp only[TO.er];rw[Tf τ' hb,hc,fZ]
           rw[this];exact Gh.refl _
          ·cases h
         ·cases h
        ·rename_i hc;split at h
         ·rename_i n l' n' b' _ _ _;split at h
          ·rename_i hn _;subst hn;split at h
           ·rename_i τj hj;split at h
            ·rename_i fy a ha;split at h
             ·rename_i b2 hp;have he:=‹({τ:=Ty.st n,a:=b}:bn S.α)={τ:=Ty.st n,a:=l'}›;cases he;exact RE hl hx hy hok hones hsz (hokW _ hW) ho hb hj ha hp h
             ·cases h
            ·cases h
           ·cases h
          ·cases h
         ·cases h
       ·cases h
      ·rename_i e m cs ho;split at h
       ·rename_i ki;split at h
        ·rename_i v hiv;obtain⟨fv,rfl⟩:=Xo hiv
         ·obtain⟨_,hc,h⟩:=bind_some h;have hc:=cD hc;obtain⟨f0,hv0⟩:=xq (ag hc);rw[bE] at hv0;have hjl:=(ai.1 hv0).1;obtain⟨e1,_⟩:=pu (o':=.box e m (cs.take j++gb ki (k8 ki (cs.drop j)) i v++cs.drop (j+(k8 ki (cs.drop j)).length))) ho rfl;refine .one _ (EF.Le (bh hx) (bh hy) (eB (fR ho)) rfl (tc hok s.ln) hg (p6 s.ln hones) (by rw[cP,aN]) (dC hsz) (by
           show i*1+j+1≤(TV.er.go s.ln cs).length;rw[cP,aN];omega) (hokW _ hW) rfl) ?_ (hl.set ho _) ⟨rfl,rfl,rfl⟩ h
          rw[e1];have:(TO.box e m (cs.take j++gb ki (k8 ki (cs.drop j)) i v++cs.drop (j+(k8 ki (cs.drop j)).length)):TO S).er s.ln={(TO.box e m cs:TO S).er s.ln with cells:=((TO.box e m cs:TO S).er s.ln).cells.take (i*1+j)++TV.er.go s.ln (eH (.aD fv (.int ki) v:TV S))++((TO.box e m cs:TO S).er s.ln).cells.drop (i*1+j+1)}:=by
           simp only[TO.er,cP];rw[WX ki cs j i v hc s.ln,fk,if_pos (by rw[aN];omega),show i*1+j=j+i by omega];have:(eH (.aD fv (.int ki) v:TV S)).map (TV.er s.ln)=[.val (.int ki v)]:=congrArg (fun g=>[g]) (tB fv ki v);rw[this];simp
          rw[this];exact Gh.refl _
        ·cases h
       ·cases h
      ·cases h
     ·cases h
    ·rename_i hh τ i j hx;split at h
     ·rename_i hW;split at h
      ·rename_i e m f kty τ' a ho;obtain⟨u,n,gs,a',hsz1,hv1,hv2,h1,h2,h0,h3,h4,h5⟩:=QI h;rw[hv2] at hsz;obtain⟨e1,_⟩:=pu (o':=.deep e m f (.wq kty) τ' a') ho h3;refine .one _ (EF.Ig (f:=true) (g:=.val u) (g':=.val u) (by rw[bh hx];rfl) (by rw[bh hy,hv1]) (eB (fR ho)) rfl h1 (by rw[hsz1,pg];exact h2) rfl (by
        have:=p6 s.ln hones;rw[hv2] at this;simpa[TV.er.go,hv1] using this) (dC hsz) (hokW _ hW)) ?_ (hl.set ho _) ⟨rfl,rfl,rfl⟩ h0
       rw[e1,hsz1,pg];have:(TO.deep e m f (.wq kty) τ' a':TO S).er s.ln=⟨e,true,m,f&&true,1,[],some (.deep (tY e kty (kA τ' a).1 ((kA τ' a).2.set i (n,gs.set j (.val u)))))⟩:=by
        show av.mk _ _ _ _ _ _ (some (.deep (tY e kty (kA τ' a').1 (kA τ' a').2)))=_;rw[h4,h5,jZ]
       rw[this];exact Gh.refl _
      ·cases h
     ·cases h
    ·cases h
   ·cases h
  ·cases h
 ·cases h
end
end
end Go.DN
/-
 DN,part K:append.
-/
namespace Go.DN
open Go.AM
theorem cm.gh {P:Program}{W:List Nat}{s t:St}{o:Oper}{T:St→Prop}(h:Gh s t) (he:cm P W t o T):cm P W s o T:=by
 refine⟨he.1,fun N cx μ a w hr hd K Q hK=>?_⟩;obtain⟨μ',h1,h2⟩:=h N cx μ a w hr;refine he.2 N cx μ' a w h1 hd K Q fun μ2 s' a' w' hr' ht hst=>hK μ2 s' a' w' hr' ht ⟨hst.size,fun b hb hn=>hst.block b hb fun x k c m hx hk hm hi=>?_,fun x k' c m' b hx hk hm hi=>?_⟩
 ·obtain⟨k0,c0,m0,h3,h4,h5⟩:=h2 x k c m b hk hm hi;exact hn x k0 c0 m0 hx h3 h4 h5
 ·rcases hst.hand x k' c m' b hx hk hm hi with ⟨h0,k,c1,m,h3,h4,h5,h5i⟩ | h3
  ·obtain⟨k0,c0,m0,h6,h7,h8⟩:=h2 h0 k c1 m b h4 h5 h5i;exact .inl ⟨h0,k0,c0,m0,h3,h6,h7,h8⟩
  ·exact .inr h3
theorem Gh.pb {s:St}{t:Nat}(hd:Nat) (k:av) (hg:get s.fr t=some (.val (.slice none 0 0))) (hf:fresh s hd=true) (hk:k.cells=[]) (hlp:k.lp=none):
  Gh s {fr:=(t,.aL hd k.sz 0 0)::s.fr,st:=(hd,k)::s.st,df:=s.df}:=fun N cx μ a w h=>by
 obtain⟨h1,h2,h3,h5,h6⟩:=gr hf;obtain⟨h4,hO⟩:=h.st.F7 h1 h3 (j5 h6) hk hlp;refine⟨lk μ hd none,{st:=h4,nd:=(h.nd.mono (Kept.refl _ _) (fun b _=>hO b)).gS (fun g hg y hy=>aZ fun e=>by subst e;rw[pP h5 hg] at hy;cases hy),sz:=h.sz,fr:=fun t' g hg'=>?_},Gh.same fun x k1 b m hx hm=>?_⟩
 ·rw[iS] at hg';cases hb:Nat.beq t t' with
  | true=>
   rw[hb] at hg';cases hg';have:=ab hb;subst this;obtain⟨v,hv,hr⟩:=h.fr t _ hg;cases hr with
   | aF hr=>cases hr;exact⟨_,hv,.gk hd k.sz (b7 _ _ _)⟩
  | false=>
   rw[hb] at hg';obtain⟨v,hv,hr⟩:=h.fr t' g hg';refine⟨v,hv,(hr.mono (Kept.refl _ _) (fun b _=>hO b) (aG _)).gS fun y hy=>aZ ?_⟩;intro e;subst e;rw[mX h2 hg'] at hy;cases hy
 ·by_cases e:x=hd
  ·subst e;rw[b7] at hm;cases hm
  ·rw[aZ e] at hm;exact⟨k1,by rw[←aB k _ e];exact hx,hm⟩
section
variable {S:eI}
def T5 (s:ae S) (h:Nat) (τ:Ty):TV S→Option (Bool×List (S.D τ))
 | .aD f (.list τ') m=>match jv (.list τ') (.list τ) m with
  | some m=>some (f,m)
  | none=>none
 | .aL h2 τ2=>match Nat.beq h2 h with
  | true=>none
  | false=>match aA s.bl h2 with
   | some (.arr _ _ f τ' m)=>match decEq τ' τ2 with
    | isTrue _=>match jv (.list τ') (.list τ) m with
     | some m=>some (f,m)
     | none=>none
    | isFalse _=>none
   | _=>none
 | .sub h2 τ2 o n=>match Nat.beq h2 h with
  | true=>none
  | false=>match aA s.bl h2 with
   | some (.arr _ _ f τ' m)=>match decEq τ' τ2 with
    | isTrue _=>match jv (.list τ') (.list τ) m with
     | some m=>some (f,(m.drop o).take n)
     | none=>none
    | isFalse _=>none
   | _=>none
 | .val (.slice none 0 0)=>some (true,[])
 | _=>none
def T6 (s:ae S) (v:TV S){A:Type}(k:Option A):Option A:=
 match v with
 | .sub h2 τ2 o n=>match aA s.bl h2 with
  | some (.arr _ _ _ _ m)=>(bj (o+n≤m.length)).bind fun _=>k
  | _=>none
 | _=>k
theorem VM (b:ByteArray):List.flatMap (aX S (.int .u8)) (jy b)=vQ b:=by
 unfold jy vQ;generalize b.data.toList=l
 induction l with
 | nil=>rfl
 | cons x r ih=>rw[bc,b6,ih,bc];rfl
def VY (P:Program) (ok:Nat→Bool) (s:ae S) (d:Nat) (t t' h:Nat) (b:ByteArray){A:Type}(k:ae S→Option A):Option A:=
 match ok h&&(Nat.blt h 1000&&(!(TV.has.go h s.df)&&(!(gL h s.lo)&&!(dE h s.bN)))) with
 | true=>match aA s.st h with
  | some (.arr e m f (.int .u8) l)=>match P.underlying t with
   | some (.slice e')=>match decEq e e' with
    | isTrue _=>match P.underlying t' with
     | some .string=>match (P.info? e).map (fun i=>(i.zero,i.size,i.bytes)) with
      | some (some (Value.int IntKind.u8 0),1,1)=>(bj (List.length l+b.size≤140737488355328)).bind fun _=>k ((s.renew h (.arr e m f (.int .u8) (List.append l (jy b)))).put d (.aL h (.int .u8)))
      | _=>none
     | _=>none
    | isFalse _=>none
   | _=>none
  | _=>none
 | false=>none
def Rf (P:Program) (ok:Nat→Bool) (s:ae S) (d:Nat) (t h:Nat) (τ:Ty) (vy:TV S){A:Type}(k:ae S→Option A):Option A:=
 match ok h&&(Nat.blt h 1000&&(!(TV.has.go h s.df)&&(!(gL h s.lo)&&!(dE h s.bN)))) with
 | true=>match aA s.st h with
  | some (.arr e m f τ' l)=>match decEq τ' τ with
   | isTrue _=>match P.underlying t with
    | some (.slice e')=>match decEq e e' with
     | isTrue _=>match P.info? e with
      | some i=>match i.zero with
       | some z=>match decEq i.size (S.sz τ),decEq z.cells.size (S.sz τ) with
        | isTrue _,isTrue _=>match T5 s h τ' vy with
         | some (fy,ml)=>T6 s vy ((bj (List.length l+List.length ml≤maxLen∧(List.length l+List.length ml)*i.bytes≤140737488355328)).bind fun _=>
          k ((s.renew h (.arr e m (f&&(fy||τ'.iR)) τ' (l++ml))).put d (.aL h τ')))
         | none=>none
        | _,_=>none
       | none=>none
      | none=>none
     | isFalse _=>none
    | _=>none
   | isFalse _=>none
  | _=>none
 | false=>none
theorem Gh.iR {s:St}{h:Nat}{k:av}{τ:Ty}{l:List (S.D τ)}(hs:τ.iR=true) (hk:ay s.st h=some k) (hc:k.cells=List.flatMap (aX S τ) l) (hp:k.pure=true) (hlp:k.lp=none):
  Gh s {fr:=s.fr,st:=dF s.st h {k with fresh:=true},df:=s.df}:=by
 letI:=mY S τ
 haveI:Flat (S.D τ):=⟨fun a g hg=>by
  have hg:g∈aX S τ a:=hg;cases τ with
  | int _=>exact⟨_,c8.1 hg⟩
  | bool=>exact⟨_,c8.1 hg⟩
  | str=>exact⟨_,c8.1 hg⟩
  | list _=>cases hs
  | st _=>cases hs
  | map=>cases hs
  | dw=>cases hs
  | pt _=>cases hs⟩
 refine Gh.of (fun N cx μ a w hr=>hr.C6 (l:=l) hk hc hp hlp) fun x k' hx=>?_;rcases dm hk hx with ⟨rfl,_⟩ | ⟨_,h2⟩
 ·exact⟨k,hk⟩
 ·exact⟨k',h2⟩
theorem PB {h:Nat}{k k':av}{r:List (Nat×av)}:dF ((h,k)::r) h k'=(h,k')::r:=by
 simp[dF]
theorem Gh.ZA {fr:List (Nat×G)}{r:List (Nat×av)}{df:List G}{h:Nat}{e:TypeId}{m f fy:Bool}{n:Nat}{τ:Ty}{l:List (S.D τ)}:
  Gh ⟨fr,(h,⟨e,true,m,f&&fy,n,List.flatMap (aX S τ) l,none⟩)::r,df⟩ ⟨fr,(h,⟨e,true,m,f&&(fy||τ.iR),n,List.flatMap (aX S τ) l,none⟩)::r,df⟩:=by
 cases hs:τ.iR with
 | false=>rw[cF];exact Gh.refl _
 | true=>
  cases f with
  | false=>exact Gh.refl _
  | true=>
   rw[Bool.or_true,qu];have hk:ay ((h,(⟨e,true,m,fy,n,List.flatMap (aX S τ) l,none⟩:av))::r) h=some ⟨e,true,m,fy,n,List.flatMap (aX S τ) l,none⟩:=by simp[ay]
   have:=Gh.iR (s:=⟨fr,(h,⟨e,true,m,fy,n,List.flatMap (aX S τ) l,none⟩)::r,df⟩) hs hk rfl rfl rfl;rw[PB] at this;exact this
theorem sF {τ' τ:Ty}{m:List (S.D τ')}{m':List (S.D τ)}(h:jv (α:=S.α) (.list τ') (.list τ) m=some m'):∃e:τ'=τ,e▸m=m':=by
 have:=eW h;cases this;exact⟨rfl,rfl⟩
theorem WM {s:ae S}{h:Nat}{τ:Ty}{v:TV S}{f:Bool}{m:List (S.D τ)}{A:Type}{k:Option A}{r:A}(ht:T5 s h τ v=some (f,m)) (hc:T6 s v k=some r):
  z8 s.er.st (S.sz τ) (v.er s.ln)=some (List.flatMap (aX S τ) m,m.length,f)∧v.has h=false∧k=some r:=by
 unfold T5 at ht;split at ht
 ·rename_i f' τ' m';split at ht
  ·rename_i m2 hm;cases ht;obtain⟨e,hm⟩:=sF hm;subst e;cases hm;refine⟨?_,rfl,hc⟩;rw[vL];cases f <;> rfl
  ·cases ht
 ·rename_i h2 τ2;split at ht
  ·cases ht
  ·rename_i hb;split at ht
   ·rename_i e mm f' τ' m' ho;split at ht
    ·rename_i e' _;subst e';split at ht
     ·rename_i m2 hm;cases ht;obtain⟨e,hm⟩:=sF hm;subst e;cases hm;refine⟨?_,hb,hc⟩;show z8 s.er.st (S.sz τ') (.aL h2 (S.sz τ') 0 (s.ln h2))=_;simp only[z8,eB ho,TO.er];rw[pA ho,gW,dj (by rw[kh];exact aG _)]
     ·cases ht
    ·cases ht
   ·cases ht
 ·rename_i h2 τ2 o n;split at ht
  ·cases ht
  ·rename_i hb;split at ht
   ·rename_i e mm f' τ' m' ho;split at ht
    ·rename_i e' _;subst e';split at ht
     ·rename_i m2 hm;cases ht;obtain⟨e,hm⟩:=sF hm;subst e;cases hm;unfold T6 at hc;dsimp only at hc;rw[ho] at hc;obtain⟨u,h1,h2'⟩:=bind_some hc;have h1:=cD h1;refine⟨?_,hb,h2'⟩;show z8 s.er.st (S.sz τ') (.aL h2 (S.sz τ') (o*S.sz τ') n)=_;simp only[z8,eB ho,TO.er];rw[GU,GS,br,cf,iN (by omega)]
     ·cases ht
    ·cases ht
   ·cases ht
 ·cases ht;exact⟨rfl,rfl,hc⟩
 ·cases ht
section
variable {P:Program}{W:List Nat}{s:ae S}{ty:TypeId}{pos:String}{after:Array Edge}{guard:Option (Nat×Bool)}{A:Type}{k:ae S→Option A}{r:A}
theorem Oo {s:ae S}{h:Nat}{e:TypeId}{m f:Bool}{τ:Ty}{l:List (S.D τ)}:(TV.aL h τ:TV S).er (s.renew h (.arr e m f τ l)).ln=.aL h (S.sz τ) 0 l.length:=by
 show G.aL _ _ _ ((s.renew h _).ln h)=_;rw[show(s.renew h (.arr e m f τ l)).ln h=_ from we _ _];rfl
theorem Pf {ok:Nat→Bool}(hokW:∀h,ok h=true→W.contains h=true){d t h:Nat}{τ:Ty}{x y:Operand}{vy:TV S}(hl:aO s) (hx:cu s x=some (.aL h τ)) (hy:cu s y=some vy) (hk:Rf P ok s d t h τ vy k=some r):
  fE P W s ⟨some d,.call ⟨.builtin .append,#[x,y],#[t,t]⟩,ty,pos,after,guard⟩ k r:=by
 unfold Rf at hk;split at hk
 ·rename_i hc;simp only[af,aS] at hc;obtain⟨hW,hpn,hdf,hlo,hls⟩:=hc;split at hk
  ·rename_i e m f τ' l ho;split at hk
   ·rename_i e1 _;subst e1;split at hk
    ·rename_i e' hu;split at hk
     ·rename_i e2 _;subst e2;split at hk
      ·rename_i i hi;split at hk
       ·rename_i z hz;split at hk
        ·rename_i hs hzs _ _;split at hk
         ·rename_i fy ml hsr;obtain⟨g1,g2,hk⟩:=WM hsr hk;obtain⟨u,hck,hk⟩:=bind_some hk;obtain⟨c1,c2⟩:=cD hck
          letI:=mY S τ'
          have ho':=eB (fR ho);have hpin:pinned h=false:=j5 hpn;have hdf':qn h s.er.df=true:=by
           show qn h (TV.er.go s.ln s.df)=true;rw[Dq,hdf];rfl
          have hinfo:(P.info? e).map (fun i=>(i.zero,i.size,i.bytes))=some (some z,S.sz τ',i.bytes):=by rw[hi,cd,hz,hs]
          have hx':ev s.er x=some (.aL h (S.sz τ') 0 l.length):=by rw[bh hx];show some (G.aL _ _ _ (s.ln h))=_;rw[pA (fR ho)]
          obtain⟨e1,_,_⟩:=Eo (.arr e m (f&&(fy||τ'.iR)) τ' (l++ml)) rfl hdf hlo hls;refine .one _ (ET.append (α:=S.D τ') (m:=ml) hx' (bh hy) ho' rfl rfl rfl rfl g1 (by rw[yR];exact g2) hu hinfo hzs c1 c2 (hokW h hW) rfl hpin hdf') ?_ ((hl.renew h _ hlo hls).put _ _) ⟨rfl,rfl,rfl⟩ hk;rw[iJ,e1,Oo];exact Gh.ZA (h:=h) (e:=e) (m:=m) (f:=f) (fy:=fy) (τ:=τ') (l:=l++ml) (n:=S.sz τ')
         ·cases hk
        ·cases hk
       ·cases hk
      ·cases hk
     ·cases hk
    ·cases hk
   ·cases hk
  ·cases hk
 ·cases hk
theorem XX {ok:Nat→Bool}(hokW:∀h,ok h=true→W.contains h=true){d t t' h:Nat}{x y:Operand}{b:ByteArray}{f:Bool}(hl:aO s) (hx:cu s x=some (.aL h (.int .u8))) (hy:cu s y=some (.aD f .str b)) (hk:VY P ok s d t t' h b k=some r):
  fE P W s ⟨some d,.call ⟨.builtin .append,#[x,y],#[t,t']⟩,ty,pos,after,guard⟩ k r:=by
 unfold VY at hk;split at hk
 ·rename_i hc;simp only[af,aS] at hc;obtain⟨hW,hpn,hdf,hlo,hls⟩:=hc;split at hk
  ·rename_i e m f2 l ho;split at hk
   ·rename_i e' hu;split at hk
    ·rename_i e2 _;subst e2;split at hk
     ·rename_i hu';split at hk
      ·rename_i hi;obtain⟨u,hck,hk⟩:=bind_some hk;have c1:=cD hck;have ho':=eB (fR ho);have hpin:pinned h=false:=j5 hpn;have hdf':qn h s.er.df=true:=by
        show qn h (TV.er.go s.ln s.df)=true;rw[Dq,hdf];rfl
       have hx':ev s.er x=some (.aL h 1 0 (List.length l)):=by rw[bh hx];show some (G.aL _ _ _ (s.ln h))=_;rw[pA (fR ho)];rfl
       obtain⟨e1,_,_⟩:=Eo (.arr e m f2 (.int .u8) (List.append l (jy b))) rfl hdf hlo hls;refine .one _ (EF.TB hx' (GK hy) ho' rfl rfl rfl (by show(List.flatMap (aX S (.int .u8)) l).length=_;rw[kh];exact pg _) hu hu' hi c1 (hokW h hW) rfl hpin hdf') ?_ ((hl.renew h _ hlo hls).put _ _) ⟨rfl,rfl,rfl⟩ hk;rw[iJ,e1,Oo];have e3:List.flatMap (aX S (.int .u8)) (List.append l (jy b))=List.flatMap (aX S (.int .u8)) l++vQ b:=by rw[←VM (S:=S) b];exact qj
       have e4:List.length (List.append l (jy b))=List.length l+b.size:=by rw[←A6 b];exact aI
       show Gh _ {fr:=(d,.aL h 1 0 (List.length (List.append l (jy b))))::nA h s.er.fr,st:=(h,⟨e,true,m,f2,1,List.flatMap (aX S (.int .u8)) (List.append l (jy b)),none⟩)::gA h s.er.st,df:=s.er.df};rw[e3,e4];exact Gh.refl _
      ·cases hk
     ·cases hk
    ·cases hk
   ·cases hk
  ·cases hk
 ·cases hk
def ae.pb (s:ae S) (hd t:Nat) (e:TypeId) (τ:Ty):ae S:={s.add hd (.arr e true true τ []) with fr:=(t,.aL hd τ)::s.fr,last:=Lt t s.last}
theorem FB {hd t:Nat}{e:TypeId}{τ:Ty}(hl:aO s) (hx:bp s.ca t=some (.val (.slice none 0 0))) (hf:s.free hd=true):Gh s.er (s.pb hd t e τ).er∧aO (s.pb hd t e τ):=by
 obtain⟨e1,_⟩:=pV hf (.arr e true true τ ([]:List (S.D τ))) rfl;have h1:=Gh.pb (s:=s.er) (t:=t) hd ⟨e,true,true,true,S.sz τ,[],none⟩ (fU hx) (gu hf) rfl rfl;have e2:(s.pb hd t e τ).er=((s.add hd (.arr e true true τ [])).put t (.aL hd τ)).er:=rfl;refine⟨?_,(hl.add (.arr e true true τ []) hf).put t (.aL hd τ)⟩;rw[e2,iJ,e1,LP];exact h1
def VZ (P:Program) (ok:Nat→Bool) (s:ae S) (d:Nat) (c:Call){A:Type}(k:ae S→Option A):Option A:=
 match c.args.toList,c.argTypes.toList with
 | [x,y],[t,t']=>match decEq t t' with
  | isTrue _=>match cu s x with
   | some (.aL h τ)=>match cu s y with
    | some vy=>Rf P ok s d t h τ vy k
    | none=>none
   | some (.val (.slice none 0 0))=>match x with
    | .tmp tx=>match s.free (s.di d) with
     | true=>match P.underlying t with
      | some (.slice e)=>match S.V5 e with
       | some τ=>match cu (s.pb (s.di d) tx e τ) y with
        | some vy=>match cu (s.pb (s.di d) tx e τ) x with
         | some (.aL h τ2)=>Rf P ok (s.pb (s.di d) tx e τ) d t h τ2 vy k
         | _=>none
        | none=>none
       | none=>none
      | _=>none
     | false=>none
    | _=>none
   | _=>none
  | isFalse _=>match cu s x with
   | some (.aL h (.int .u8))=>match cu s y with
    | some (.aD _ .str b)=>VY P ok s d t t' h b k
    | _=>none
   | _=>none
 | _,_=>none
theorem fE.gh {s t:ae S}{o:Oper}(hg:Gh s.er t.er) (hkp:bC s t) (h:fE P W t o k r):fE P W s o k r:=by
 obtain⟨T,h1,h2⟩:=h;exact⟨T,cm.gh hg h1,fun s' ht=>let ⟨u,a1,a2,a3,a4⟩:=h2 s' ht;⟨u,a1,a2,hkp.trans a3,a4⟩⟩
theorem XY {ok:Nat→Bool}(hokW:∀h,ok h=true→W.contains h=true){d:Nat}{args:Array Operand}{ts:Array TypeId}(hl:aO s) (h:VZ P ok s d ⟨.builtin .append,args,ts⟩ k=some r):
  fE P W s ⟨some d,.call ⟨.builtin .append,args,ts⟩,ty,pos,after,guard⟩ k r:=by
 unfold VZ at h;dsimp only at h;split at h
 ·rename_i h1 h2;have h1:=CX h1;have h2:=CX h2;subst h1;subst h2;split at h
  ·rename_i e _;subst e;split at h
   ·rename_i hx;split at h
    ·rename_i hy;exact Pf hokW hl hx hy h
    ·cases h
   ·rename_i hx;split at h
    ·rename_i tx;split at h
     ·rename_i hf;split at h
      ·split at h
       ·split at h
        ·rename_i hy;split at h
         ·rename_i hx';exact fE.gh (FB hl hx hf).1 ⟨rfl,rfl,rfl⟩ (Pf hokW (FB hl hx hf).2 hx' hy h)
         ·cases h
        ·cases h
       ·cases h
      ·cases h
     ·cases h
    ·cases h
   ·cases h
  ·split at h
   ·rename_i hx;split at h
    ·rename_i hy;exact XX hokW hl hx hy h
    ·cases h
   ·cases h
 ·cases h
theorem EF.Wk {s:St}{d:Nat}{op:BinOp}{t t' e:TypeId}{x:Operand}{g:G}{n:Int}(hx:ev s x=some g) (hn:Qr g=some n) (ht:P.underlying t=some (.slice e)) (hop:op=.eql∨op=.neq):
  cm P W s ⟨some d,.binOp op t x (.const (.slice none 0 0)) t',ty,pos,after,guard⟩ (fun s'=>∃b:Bool,(b=true→n=0)∧s'=s.put d (.val (.bool (match op with | .eql=>b | _=>!b)))):=by
 refine⟨fun _ h=>(by cases h),?_⟩;intro N cx μ a w hr hd K Q hK;obtain⟨b,m,c,e1,e2,e3⟩:=aU.T9 (hr.ev hx) hn;have hst:Step W s.st μ s.st μ w w:=⟨aG _,fun _ _ _=>rfl,fun h k' c m' b hw h1 h2 hi=>.inl ⟨h,k',c,m',hw,h1,h2,hi⟩⟩;have hb:b.isNone=true→n=0:=fun h=>e3 (Option.isNone_iff_eq_none.1 h);unfold Oper.wp;rcases hop with rfl | rfl
 ·have hrun:(execOp a.eval ⟨some d,.binOp .eql t x (.const (.slice none 0 0)) t',ty,pos,after,guard⟩).run P w=.ok (.value (.bool b.isNone)) w:=by
   have:=RM (P:=P) ht x (.const (.slice none 0 0)) b m c w;simp only[execOp,e1,show a.eval (.const (.slice none 0 0))=.slice none 0 0 from rfl,Sem.run_bind,this,Result.andThen_ok,Sem.run_pure]
  rw[hrun];exact hK μ _ _ w (hr.put (d:=d) (hd d rfl) (.aF (.val _))) ⟨b.isNone,hb,rfl⟩ hst
 ·have hrun:(execOp a.eval ⟨some d,.binOp .neq t x (.const (.slice none 0 0)) t',ty,pos,after,guard⟩).run P w=.ok (.value (.bool (!b.isNone))) w:=by
   have:=RL (P:=P) ht x (.const (.slice none 0 0)) b m c w;simp only[execOp,e1,show a.eval (.const (.slice none 0 0))=.slice none 0 0 from rfl,Sem.run_bind,this,Result.andThen_ok,Sem.run_pure]
  rw[hrun];exact hK μ _ _ w (hr.put (d:=d) (hd d rfl) (.aF (.val _))) ⟨b.isNone,hb,rfl⟩ hst
noncomputable def Ux (P:Program) (s:ae S) (d:Nat) (op:BinOp) (t:TypeId) (x y:Operand){A:Type}(k:ae S→Option A):Option A:=
 match y with
 | .const (.slice none 0 0)=>match P.underlying t with
  | some (.slice _)=>match cu s x with
   | some v=>match Qq s v with
    | some n=>match op with
     | .eql=>EC n (k (s.put d (.aD true .bool true))) (k (s.put d (.aD true .bool false)))
     | .neq=>EC n (k (s.put d (.aD true .bool false))) (k (s.put d (.aD true .bool true)))
     | _=>none
    | none=>none
   | none=>none
  | _=>none
 | _=>none
theorem Xe {d:Nat}{op:BinOp}{t t':TypeId}{x y:Operand}(hl:aO s) (h:Ux P s d op t x y k=some r):fE P W s ⟨some d,.binOp op t x y t',ty,pos,after,guard⟩ k r:=by
 unfold Ux at h;split at h
 ·split at h
  ·rename_i hu;split at h
   ·rename_i hx;split at h
    ·rename_i hn;have hb:∀b:Bool,(s.put d (.aD true .bool b)).er=s.er.put d (.val (.bool b)):=fun b=>by rw[iJ];exact congrArg _ (ic true b)
     split at h
     ·obtain⟨h1,h2⟩:=Jt h;refine⟨_,EF.Wk (bh hx) (H2 hn) hu (.inl rfl),fun s' ⟨b,hb0,e⟩=>?_⟩;subst e;refine⟨s.put d (.aD true .bool b),by rw[hb];exact Gh.refl _,hl.put _ _,⟨rfl,rfl,rfl⟩,?_⟩;cases b with
      | true=>exact h1 (hb0 rfl)
      | false=>exact h2
     ·obtain⟨h1,h2⟩:=Jt h;refine⟨_,EF.Wk (bh hx) (H2 hn) hu (.inr rfl),fun s' ⟨b,hb0,e⟩=>?_⟩;subst e;refine⟨s.put d (.aD true .bool (!b)),by rw[hb];exact Gh.refl _,hl.put _ _,⟨rfl,rfl,rfl⟩,?_⟩;cases b with
      | true=>exact h1 (hb0 rfl)
      | false=>exact h2
     ·cases h
    ·cases h
   ·cases h
  ·cases h
 ·cases h
end
end
end Go.DN
/-
 DN,part Kb:a state told in another way:less of it,aw as plain data,blocks that are written no more.
-/
namespace Go.DN
open Go.AM
def CV (st st':List (Nat×av)) (g g':G):Prop:=∀(cx:Cx) (μ:Mu) (w:World) (v:Value),cI cx μ st w→(∀b,b<w.heap.size→¬cx.O st μ b→¬cx.O st' μ b)→
 aU (cx.O st μ) cx.base w μ g v→aU (cx.O st' μ) cx.base w μ g' v
theorem CV.rw {st st':List (Nat×av)}{g g':G}(h:RW g g'):CV st st' g g':=fun cx μ w v _ hO hv=>h _ _ _ _ _ (hv.mono (Kept.refl _ _) hO (aG _))
theorem CV.refl (st st':List (Nat×av)) (g:G):CV st st' g g:=CV.rw (RW.refl g)
theorem CV.any (st st':List (Nat×av)) (g:G):CV st st' g .any:=fun _ _ _ v _ _ _=>.aF (.any v)
theorem CV.fz {st st':List (Nat×av)}{g g':G}(hd:∀x k,ay st' x=some k→∃k0,ay st x=some k0) (h:ja st st' g=some g'):CV st st' g g':=fun cx μ w v hst _ hv=>MD hst hd hv h
def TJ (st st':List (Nat×av)) (gs gs':List G):Prop:=gs'.length=gs.length∧∀(j:Nat) (g':G),gs'[j]?=some g'→∃g,gs[j]?=some g∧CV st st' g g'
theorem CV.agg {st st':List (Nat×av)}{gs gs':List G}(h:TJ st st' gs gs'):CV st st' (.agg gs) (.agg gs'):=fun cx μ w v hst hO hv=>by
 cases hv with
 | aF hv=>cases hv with
  | agg _ us h1 h2=>exact .agg _ us (h1.trans h.1.symm) fun j g' v hg' hv=>(by
    obtain⟨g,hg,hw⟩:=h.2 j g' hg';exact hw cx μ w _ hst hO (.aF (h2 j g v hg hv)))
 | agg _ us h1 h2=>exact .agg _ us (h1.trans h.1.symm) fun j g' v hg' hv=>(by
   obtain⟨g,hg,hw⟩:=h.2 j g' hg';exact hw cx μ w _ hst hO (h2 j g v hg hv))
theorem CV.bB {st st':List (Nat×av)}{gs gs':List G}(h:TJ st st' gs gs'):CV st st' (.bB gs) (.bB gs'):=fun cx μ w v hst hO hv=>by
 cases hv with
 | aF hv=>cases hv
 | bB _ us h1 h2=>exact .bB _ us (h1.trans h.1.symm) fun j g' v hg' hv=>(by
   obtain⟨g,hg,hw⟩:=h.2 j g' hg';exact hw cx μ w _ hst hO (h2 j g v hg hv))
theorem CV.ba {st st':List (Nat×av)}{f:FuncId}{gs gs':List G}(h:TJ st st' gs gs'):CV st st' (.ba f gs) (.ba f gs'):=fun cx μ w v hst hO hv=>by
 cases hv with
 | aF hv=>cases hv
 | ba _ _ us h1 h2=>exact .ba f _ us (h1.trans h.1.symm) fun j g' v hg' hv=>(by
   obtain⟨g,hg,hw⟩:=h.2 j g' hg';exact hw cx μ w _ hst hO (h2 j g v hg hv))
structure wQ (st st':List (Nat×av)) (k k':av):Prop where
 bI:k'.bI=k.bI
 ew:k'.ew=true→k.ew=true
 sz:k'.sz=k.sz
 lp:k'.lp=k.lp
 pure:k'.pure=k.pure
 len:k'.cells.length=k.cells.length
 cells:(k.pure=true∧k'.cells=k.cells∧(k'.fresh=true→k.fresh=true∨(k.lp=none∧∀g,g∈k.cells→∃v,g=.val v)∨∃d,k.lp=some (.deep d)∧∀(O O':Nat→Prop) (w:World) (b:Nat) (m:Mm),d.φ O w b m→d.φ O' w b m))∨(k.pure=false∧∀(j:Nat) (g':G),k'.cells[j]?=some g'→∃g,k.cells[j]?=some g∧CV st st' g g')
theorem wQ.refl (st st':List (Nat×av)) (k:av):wQ st st' k k:=by
 refine⟨rfl,id,rfl,rfl,rfl,rfl,?_⟩;cases h:k.pure with
 | true=>exact .inl ⟨rfl,rfl,.inl⟩
 | false=>exact .inr ⟨rfl,fun j g hg=>⟨g,hg,CV.refl _ _ g⟩⟩
theorem Gh.gen {s t:St}(hfr:∀d g',get t.fr d=some g'→∃g,get s.fr d=some g∧CV s.st t.st g g') (hst:∀x k',ay t.st x=some k'→∃k,ay s.st x=some k∧wQ s.st t.st k k') (hdf:s.df=t.df):Gh s t:=by
 have hdom:∀x k,ay t.st x=some k→∃k0,ay s.st x=some k0:=fun x k hk=>let ⟨k0,h1,_⟩:=hst x k hk;⟨k0,h1⟩;refine Gh.of (fun N cx μ a w h=>?_) hdom;have hO:∀b,b<w.heap.size→¬cx.O s.st μ b→¬cx.O t.st μ b:=fun b _ hn ho=>hn (ho.imp id fun ⟨x,k,c,m,h1,h2,hi⟩=>let ⟨k0,h3⟩:=hdom x k h1;⟨x,k0,c,m,h3,h2,hi⟩);have hE:∀{g g':G}{v:Value},CV s.st t.st g g'→aU (cx.O s.st μ) cx.base w μ g v→aU (cx.O t.st μ) cx.base w μ g' v:=by
  intro g g' v hz hv;exact hz cx μ w v h.st hO hv
 refine {st:={en:=?_,de:=?_,cq:=?_,fD:=?_,fg:=h.st.fg,hb:=h.st.hb,os:=h.st.os,tape:=h.st.tape,output:=h.st.output,gl:=h.st.gl,dq:=h.st.dq},nd:=hdf▸h.nd.mono (Kept.refl _ _) hO,sz:=h.sz,fr:=fun d g' hg'=>?_}
 ·intro x k' hk';obtain⟨k,hk,c⟩:=hst x k' hk';have hb:=h.st.en x k hk;cases hm:μ x with
  | none=>
   rw[hm] at hb;exact hb.yL (by rw[hb.1];exact bu (by rw[c.len,hb.1];rfl)) c.lp c.pure
  | some bm=>
   obtain⟨b,m⟩:=bm;rw[hm] at hb;cases hlp:k.lp with
   | none=>
    obtain⟨cs,h1,h2,h3,h4,h5,h6⟩:=hb.cells hlp;refine .mk (c.lp.trans hlp) (hb.nf hlp) ⟨cs,by rw[c.bI];exact h1,h2,by rw[c.len];exact h3,fun hmn=>h4 (c.ew hmn),by rw[c.sz];exact h5,fun j g' hg'=>?_⟩;rcases c.cells with ⟨hp,e,hf⟩ | ⟨hp,e⟩
    ·rw[e] at hg';obtain⟨v,hv,hr⟩:=h6 j g' hg';refine⟨v,hv,?_⟩;have:=hr.mono (Kept.refl _ _) hO;unfold cZ at this⊢;rw[c.pure];rw[hp] at this⊢
     by_cases hk2:k'.fresh=true→k.fresh=true
     ·exact this.flag hk2
     ·rcases Classical.em (k'.fresh=true) with hq | hq
      ·rcases hf hq with hf | ⟨_,hf⟩ | ⟨d,hd,_⟩
       ·exact this.flag fun _=>hf
       rotate_left
       ·rw[hlp] at hd;cases hd
       ·obtain⟨u,rfl⟩:=hf g' (aj hg')
        revert this
        show bH _ w (.val u) v→bH _ w (.val u) v;intro this;cases this;exact .val _
      ·exact absurd (fun h=>absurd h hq) hk2
    ·obtain⟨g,hg,hz⟩:=e j g' hg';obtain⟨v,hv,hr⟩:=h6 j g hg;refine⟨v,hv,?_⟩;unfold cZ at hr⊢;rw[c.pure];simp only[hp] at hr⊢;exact hE hz hr
   | some kd=>
    cases kd with
    | loop lp=>
     obtain⟨D,vs,h1,h2,h3,h4,h5⟩:=(aV.loop hlp).1 hb;refine(aV.loop (c.lp.trans hlp)).2 ⟨D,vs,h1,h2,(by cases hq:k'.ew with | false=>rfl | true=>rw[c.ew hq] at h3;cases h3),c.pure.trans h4,fun j t g' ht hg'=>?_⟩;rcases c.cells with ⟨hp,_⟩ | ⟨_,e⟩
     ·rw[h4] at hp;cases hp
     ·obtain⟨g,hg,hz⟩:=e j g' hg';obtain⟨v,hv,hr⟩:=h5 j t g ht hg;exact⟨v,hv,hE hz hr⟩
    | deep d=>
     obtain⟨h1,h2,h3,h4⟩:=((aV.deep hlp).1 hb).mono (fun _ _=>rfl) (Kept.refl _ _) hO;refine(aV.deep (c.lp.trans hlp)).2 ⟨?_,c.pure.trans h2,bu (by rw[c.len,h3];rfl),fun hmn=>h4 (c.ew hmn)⟩;rcases c.cells with ⟨_,_,hf⟩ | ⟨hp,_⟩
     ·cases hkf:k.fresh with
      | true=>
       rw[hkf] at h1;cases k'.fresh with
       | true=>exact h1
       | false=>exact d.mono h1 (Kept.refl _ _) (fun x _ hn ho=>hn (.inr ho)) (fun _ _=>rfl)
      | false=>
       rw[hkf] at h1;cases hq:k'.fresh with
       | false=>exact h1
       | true=>
        rcases hf hq with hf | ⟨hf,_⟩ | ⟨d',hd,hany⟩
        ·rw[hkf] at hf;cases hf
        ·rw[hlp] at hf;cases hf
        ·rw[hlp] at hd;cases hd;exact hany _ _ _ _ _ h1
     ·rw[h2] at hp;cases hp
 ·intro x x' k1 k2 y b m b' m' h1 h2;obtain⟨k1',h1'⟩:=hdom x k1 h1;obtain⟨k2',h2'⟩:=hdom x' k2 h2;exact h.st.de x x' k1' k2' y b m b' m' h1' h2'
 ·intro x k1 b m y h1 h2 hi;obtain⟨k,hk,c⟩:=hst x k1 h1;obtain⟨a1,a2,a3,a4⟩:=h.st.cq x k b m y hk h2 hi;exact⟨a1,a2,a3,fun hm=>a4 (c.ew hm)⟩
 ·intro x k1 h1 h2;obtain⟨k1',h1'⟩:=hdom x k1 h1;exact h.st.fD x k1' h1' h2
 ·obtain⟨g,hg,hz⟩:=hfr d g' hg';obtain⟨v,hv,hr⟩:=h.fr d g hg;exact⟨v,hv,hE hz hr⟩
section
variable {S:eI}
inductive Fz (S:eI) where
 | sl (f:Bool) (τ:Ty) (l:List (S.D τ))
 | bx (f:Bool) (n:Nat) (a:S.α n)
def Fz.aL:Fz S→Ty→TV S
 | .sl f τ l,τ'=>match decEq τ' τ with
  | isTrue _=>.aD f (.list τ) l
  | isFalse _=>.any
 | .bx _ _ _,_=>.any
def Fz.loc:Fz S→Nat→TV S
 | .bx f n a,o=>match Nat.beq o 0 with
  | true=>.aD f (.pt n) (some a:Option (S.α n))
  | false=>.any
 | .sl _ _ _,_=>.any
def TV.fz (h:Nat) (z:Fz S):TV S→TV S
 | .aL h' τ'=>match Nat.beq h' h with
  | true=>z.aL τ'
  | false=>.aL h' τ'
 | .agg vs=>.agg (go h z vs)
 | .bB vs=>.bB (go h z vs)
 | .ba g vs=>.ba g (go h z vs)
 | .sub h' τ' o n=>match Nat.beq h' h with
  | true=>.any
  | false=>.sub h' τ' o n
 | .iK h' τ' i j=>match Nat.beq h' h with
  | true=>.any
  | false=>.iK h' τ' i j
 | .loc h' o=>match Nat.beq h' h with
  | true=>z.loc o
  | false=>.loc h' o
 | .cW h'=>match Nat.beq h' h with
  | true=>.any
  | false=>.cW h'
 | .mp h'=>match Nat.beq h' h with
  | true=>.any
  | false=>.mp h'
 | v=>v
where go (h:Nat) (z:Fz S):List (TV S)→List (TV S)
 | []=>[]
 | v::r=>v.fz h z::go h z r
def Gz (h:Nat) (z:Fz S):List (Nat×TV S)→List (Nat×TV S)
 | []=>[]
 | (t,v)::r=>(t,v.fz h z)::Gz h z r
def TO.fz (h:Nat) (z:Fz S):TO S→TO S
 | .box e m cs=>.box e m (TV.fz.go h z cs)
 | .lp p n cs=>.lp p n (TV.fz.go h z cs)
 | o=>o
def wi (h:Nat) (z:Fz S):List (Nat×TO S)→List (Nat×TO S)
 | []=>[]
 | (t,o)::r=>match Nat.beq t h with
  | true=>wi h z r
  | false=>(t,o.fz h z)::wi h z r
def Dl (s:ae S) (h:Nat):Option (ae S):=
 match aA s.st h with
 | some (.arr e true f τ l)=>match !(gL h s.lo)&&(!(dE h s.bN)&&(!(TV.has.go h s.df)&&(match aA s.bN h with | none=>true | some _=>false))) with
  | true=>some {s with fr:=Gz h (.sl f τ l) s.fr,st:=wi h (.sl f τ l) s.st,last:=xd h s.last}
  | false=>none
 | some (.box bI true cs)=>match S.ty bI with
  | some n=>match Ec (S.cX n) cs with
   | some (f,ls)=>match S.put n ls with
    | some a=>match !(gL h s.lo)&&(!(dE h s.bN)&&(!(TV.has.go h s.df)&&(match aA s.bN h with | none=>true | some _=>false))) with
     | true=>some {s with fr:=Gz h (.bx f n a) s.fr,st:=wi h (.bx f n a) s.st,last:=xd h s.last}
     | false=>none
    | none=>none
   | none=>none
  | none=>none
 | _=>none
theorem EB {h:Nat}{z:Fz S}:∀{st:List (Nat×TO S)}{x:Nat}{o:TO S},aA (wi h z st) x=some o→x≠h∧∃o0,aA st x=some o0∧o=o0.fz h z
 | [],_,_,e=>by cases e
 | (t,o0)::r,x,o,e=>by
  simp only[wi] at e;cases hb:Nat.beq t h with
  | true=>
   rw[hb] at e;obtain⟨h1,o1,h2,h3⟩:=EB e;refine⟨h1,o1,?_,h3⟩;have:=ab hb;subst this;rw[kx _ _ h1];exact h2
  | false=>
   rw[hb] at e;simp only[aA] at e⊢;cases hx:Nat.beq t x with
   | true=>
    rw[hx] at e;cases e;refine⟨?_,o0,rfl,rfl⟩;intro e;subst e;have:=ab hx;subst this;rw[aW] at hb;cases hb
   | false=>rw[hx] at e;exact EB e
theorem J7 {h:Nat}{z:Fz S}:∀(st:List (Nat×TO S)),aA (wi h z st) h=none:=by
 intro st;cases e:aA (wi h z st) h with
 | none=>rfl
 | some o=>exact absurd rfl (EB e).1
theorem YP (h:Nat) (z:Fz S) (o:TO S):(o.fz h z).len=o.len:=by cases o <;> rfl
theorem xT {h:Nat}{z:Fz S}{x:Nat}(hx:x≠h):∀{st:List (Nat×TO S)},aA (wi h z st) x=(aA st x).map (TO.fz h z)
 | []=>rfl
 | (t,o0)::r=>by
  simp only[wi,aA];cases hb:Nat.beq t h with
  | true=>
   have:=ab hb;subst this;have:Nat.beq t x=false:=by
    cases h2:Nat.beq t x with
    | true=>exact absurd (ab h2).symm hx
    | false=>rfl
   rw[this];exact xT hx
  | false=>
   simp only[aA];cases Nat.beq t x with
   | true=>rfl
   | false=>exact xT hx
theorem K7 {h:Nat}{z:Fz S}:∀{fr:List (Nat×TV S)}{t:Nat},bp (Gz h z fr) t=(bp fr t).map (TV.fz h z)
 | [],_=>rfl
 | (t',v)::r,t=>by
  simp only[Gz,bp];cases Nat.beq t' t with
  | true=>rfl
  | false=>exact K7
theorem qV {fr fr':List (Nat×TV S)}{t:Nat}:bp (fr++fr') t=match bp fr t with | some v=>some v | none=>bp fr' t:=by
 induction fr with
 | nil=>rfl
 | cons x r ih=>
  obtain⟨k,g⟩:=x;simp only[bU,bp];cases Nat.beq k t with
  | true=>rfl
  | false=>exact ih
theorem eC {st st':List (Nat×TO S)}{t:Nat}:aA (st++st') t=match aA st t with | some v=>some v | none=>aA st' t:=by
 induction st with
 | nil=>rfl
 | cons x r ih=>
  obtain⟨k,g⟩:=x;simp only[bU,aA];cases Nat.beq k t with
  | true=>rfl
  | false=>exact ih
mutual
theorem QA {h:Nat}{z:Fz S}:∀v:TV S,v.has h=false→v.fz h z=v
 | .aD _ _ _,_=>rfl
 | .ptr _ _ _,_=>rfl
 | .agg vs,e=>congrArg TV.agg (yT vs e)
 | .bB vs,e=>congrArg TV.bB (yT vs e)
 | .ba g vs,e=>congrArg (TV.ba g) (yT vs e)
 | .loc h' o,e=>by simp only[TV.has] at e;simp only[TV.fz,e]
 | .iK h' _ _ _,e=>by simp only[TV.has] at e;simp only[TV.fz,e]
 | .aL h' _,e=>by simp only[TV.has] at e;simp only[TV.fz,e]
 | .sub h' _ _ _,e=>by simp only[TV.has] at e;simp only[TV.fz,e]
 | .cW h',e=>by simp only[TV.has] at e;simp only[TV.fz,e]
 | .mp h',e=>by simp only[TV.has] at e;simp only[TV.fz,e]
 | .ks _ _ _ _,_=>rfl
 | .kp _ _ _ _,_=>rfl
 | .iF _ _ _ _ _,_=>rfl
 | .gw _ _ _,_=>rfl
 | .dX _ _,_=>rfl
 | .val _,_=>rfl
 | .any,_=>rfl
theorem yT {h:Nat}{z:Fz S}:∀vs:List (TV S),TV.has.go h vs=false→TV.fz.go h z vs=vs
 | [],_=>rfl
 | v::r,e=>by
  simp only[TV.has.go,bi] at e;simp only[TV.fz.go,QA v e.1,yT r e.2]
end
structure I0 (st st':List (Nat×av)) (ln ln':Nat→Nat) (h:Nat) (z:Fz S):Prop where
 get:match z with
  | .sl f τ l=>ln h=l.length∧∃bI,ay st h=some ⟨bI,true,true,f,S.sz τ,List.flatMap (aX S τ) l,none⟩
  | .bx f n a=>∃bI sz,ay st h=some ⟨bI,true,true,f,sz,aX S (.st n) a,none⟩
 gone:ay st' h=none
 MV:∀x k,ay st' x=some k→∃k0,ay st x=some k0
 agree:kL ln ln' h
theorem YN {st st':List (Nat×av)}{ln ln':Nat→Nat}{h:Nat}{f:Bool}{τ:Ty}{l:List (S.D τ)}(H:I0 (S:=S) st st' ln ln' h (.sl f τ l)):ja st st' (.aL h (S.sz τ) 0 (ln h))=some ((TV.aD f (.list τ) l:TV S).er ln'):=by
 obtain⟨h1,bI,h2⟩:=H.get;rw[vL];simp only[ja,H.gone,h2,h1,gW];rw[dj (by rw[kh];exact aG _)];cases f <;> rfl
theorem YO {st st':List (Nat×av)}{ln ln':Nat→Nat}{h:Nat}{f:Bool}{n:Nat}{a:S.α n}(H:I0 (S:=S) st st' ln ln' h (.bx f n a)):ja st st' (.loc h 0)=some ((TV.aD f (.pt n) (some a:Option (S.α n)):TV S).er ln'):=by
 obtain⟨bI,sz,h2⟩:=H.get;simp only[ja,H.gone,h2,Qx,cond_true,gW];cases f <;> rfl
mutual
theorem Wr {st st':List (Nat×av)}{ln ln':Nat→Nat}{h:Nat}{z:Fz S}(H:I0 (S:=S) st st' ln ln' h z):∀v:TV S,CV st st' (v.er ln) ((v.fz h z).er ln')
 | .aD _ _ _=>CV.refl _ _ _
 | .ptr _ _ _=>CV.refl _ _ _
 | .agg vs=>CV.agg (uv H vs)
 | .bB vs=>CV.bB (uv H vs)
 | .ba g vs=>CV.ba (uv H vs)
 | .loc h' o=>by
  simp only[TV.fz];cases hb:Nat.beq h' h with
  | true=>
   have:=ab hb;subst this;cases z with
   | sl f τ l=>exact CV.any _ _ _
   | bx f n a=>
    dsimp only[Fz.loc];cases ho:Nat.beq o 0 with
    | true=>
     have:=ab ho;subst this;exact CV.fz H.MV (YO H)
    | false=>exact CV.any _ _ _
  | false=>exact CV.refl _ _ _
 | .iK h' _ _ _=>by
  simp only[TV.fz];cases Nat.beq h' h with
  | true=>exact CV.any _ _ _
  | false=>exact CV.refl _ _ _
 | .aL h' τ'=>by
  simp only[TV.fz];cases hb:Nat.beq h' h with
  | true=>
   have:=ab hb;subst this;cases z with
   | bx f n a=>exact CV.any _ _ _
   | sl f τ l=>
    dsimp only[Fz.aL];split
    ·rename_i e _;subst e;exact CV.fz H.MV (YN H)
    ·exact CV.any _ _ _
  | false=>
   show CV st st' (.aL h' _ 0 (ln h')) (.aL h' _ 0 (ln' h'));rw[H.agree h' fun e=>by subst e;rw[aW] at hb;cases hb];exact CV.refl _ _ _
 | .sub h' _ _ _=>by
  simp only[TV.fz];cases Nat.beq h' h with
  | true=>exact CV.any _ _ _
  | false=>exact CV.refl _ _ _
 | .cW h'=>by
  simp only[TV.fz];cases Nat.beq h' h with
  | true=>exact CV.any _ _ _
  | false=>exact CV.refl _ _ _
 | .mp h'=>by
  simp only[TV.fz];cases Nat.beq h' h with
  | true=>exact CV.any _ _ _
  | false=>exact CV.refl _ _ _
 | .ks _ _ _ _=>CV.refl _ _ _
 | .kp _ _ _ _=>CV.refl _ _ _
 | .iF _ _ _ _ _=>CV.refl _ _ _
 | .gw _ _ _=>CV.refl _ _ _
 | .dX _ _=>CV.refl _ _ _
 | .val _=>CV.refl _ _ _
 | .any=>CV.refl _ _ _
theorem uv {st st':List (Nat×av)}{ln ln':Nat→Nat}{h:Nat}{z:Fz S}(H:I0 (S:=S) st st' ln ln' h z):∀vs:List (TV S),TJ st st' (TV.er.go ln vs) (TV.er.go ln' (TV.fz.go h z vs))
 | []=>⟨rfl,fun j g' hg'=>by simp[TV.fz.go,TV.er.go] at hg'⟩
 | v::r=>by
  obtain⟨h1,h2⟩:=uv H r;refine⟨by simp only[TV.fz.go,TV.er.go,bL,h1],fun j g' hg'=>?_⟩;simp only[TV.fz.go,TV.er.go] at hg'⊢;cases j with
  | zero=>cases hg';exact⟨_,rfl,Wr H v⟩
  | succ j=>exact h2 j g' hg'
end
theorem YS {st st':List (Nat×av)}{ln ln':Nat→Nat}{h:Nat}{z:Fz S}(H:I0 (S:=S) st st' ln ln' h z) (o:TO S):wQ st st' (o.er ln) ((o.fz h z).er ln'):=by
 cases o with
 | box e m cs=>exact⟨rfl,id,rfl,rfl,rfl,(uv H cs).1,.inr ⟨rfl,(uv H cs).2⟩⟩
 | arr e m f τ l=>exact wQ.refl _ _ _
 | lp p n cs=>exact⟨rfl,id,rfl,rfl,rfl,(uv H cs).1,.inr ⟨rfl,(uv H cs).2⟩⟩
 | deep=>exact wQ.refl _ _ _
theorem ud {k:Nat}:∀{st:List (Nat×TO S)}{x:Nat}{o:TO S},aA st x=some o→dE k st=false→o.has k=false
 | [],_,_,h,_=>by cases h
 | (t,o')::r,x,o,h,hf=>by
  simp only[dE,bi] at hf;simp only[aA] at h;cases hb:Nat.beq t x with
  | true=>rw[hb] at h;cases h;exact hf.1
  | false=>rw[hb] at h;exact ud h hf.2
theorem YQ {h:Nat}{z:Fz S}{o:TO S}(e:o.has h=false):o.fz h z=o:=by
 cases o with
 | box e' m cs=>simp only[TO.fz];rw[yT cs e]
 | arr e m f τ l=>rfl
 | lp p n cs=>simp only[TO.fz];rw[yT cs e]
 | deep=>rfl
theorem Ac {ln:Nat→Nat}:∀{fr:List (Nat×TV S)}{t:Nat}{g:G},AM.get (il ln fr) t=some g→∃v,bp fr t=some v∧g=v.er ln
 | [],_,_,h=>by cases h
 | (k,v)::r,t,g,h=>by
  simp only[il,AM.get] at h;simp only[bp];cases hk:Nat.beq k t with
  | true=>rw[hk] at h;cases h;exact⟨v,rfl,rfl⟩
  | false=>rw[hk] at h;exact Ac h
theorem ug {ln:Nat→Nat}:∀{st:List (Nat×TO S)}{t:Nat}{k:av},ay (bT ln st) t=some k→∃o,aA st t=some o∧k=o.er ln
 | [],_,_,h=>by cases h
 | (x,o)::r,t,k,h=>by
  simp only[bT,ay] at h;simp only[aA];cases hk:Nat.beq x t with
  | true=>rw[hk] at h;cases h;exact⟨o,rfl,rfl⟩
  | false=>rw[hk] at h;exact ug h
theorem Gh.typed {s t:ae S}(hfr:∀d v',bp t.ca d=some v'→∃v,bp s.ca d=some v∧CV s.er.st t.er.st (v.er s.ln) (v'.er t.ln)) (hst:∀x o',aA t.bl x=some o'→∃o,aA s.bl x=some o∧wQ s.er.st t.er.st (o.er s.ln) (o'.er t.ln))
  (hdf:TV.er.go s.ln s.df=TV.er.go t.ln t.df):Gh s.er t.er:=by
 refine Gh.gen (fun d g' hg'=>?_) (fun x k' hk'=>?_) hdf
 ·obtain⟨v',h1,rfl⟩:=Ac hg';obtain⟨v,h2,h3⟩:=hfr d v' h1;exact⟨_,fU h2,h3⟩
 ·obtain⟨o',h1,rfl⟩:=ug hk';obtain⟨o,h2,h3⟩:=hst x o' h1;exact⟨_,ga h2,h3⟩
theorem Wq {s:ae S}{s1:St}{h:Nat}{z:Fz S}(hl:aO s) (c1:gL h s.lo=false) (c2:dE h s.bN=false) (c3:TV.has.go h s.df=false) (hlst:aA s.bN h=none)
  (e1:s1.fr=s.er.fr) (e2:∀x,x≠h→ay s1.st x=ay s.er.st x) (e3:s1.df=s.er.df)
  (kO:match z with
   | .sl f τ l=>s.ln h=l.length∧∃bI,ay s1.st h=some ⟨bI,true,true,f,S.sz τ,List.flatMap (aX S τ) l,none⟩
   | .bx f n a=>∃bI sz,ay s1.st h=some ⟨bI,true,true,f,sz,aX S (.st n) a,none⟩):
  Gh s1 ({s with fr:=Gz h z s.fr,st:=wi h z s.st,last:=xd h s.last}:ae S).er∧aO ({s with fr:=Gz h z s.fr,st:=wi h z s.st,last:=xd h s.last}:ae S):=by
 generalize ht:({s with fr:=Gz h z s.fr,st:=wi h z s.st,last:=xd h s.last}:ae S)=t;have hgone:aA t.bl h=none:=by
  subst ht;show aA (wi h z s.st++s.bN) h=none;rw[eC,J7];exact hlst
 have hother:∀{x:Nat},x≠h→∃g:TO S→TO S,(∀o,(g o).len=o.len)∧aA t.bl x=(aA s.bl x).map g∧∀o,aA s.bl x=some o→g o=o.fz h z:=by
  intro x hx;subst ht;show ∃g:TO S→TO S,_∧aA (wi h z s.st++s.bN) x=(aA (s.st++s.bN) x).map g∧_;refine⟨TO.fz h z,YP h z,?_,fun o _=>rfl⟩;rw[eC,eC,xT hx];cases h1:aA s.st x with
  | some o=>rfl
  | none=>
   show aA s.bN x=(aA s.bN x).map _;cases h2:aA s.bN x with
   | none=>rfl
   | some o=>rw[cd,YQ (ud h2 c2)]
 have hag:kL s.ln t.ln h:=by
  intro x hx;show cp s.bl x=cp t.bl x;obtain⟨g,g1,g2,_⟩:=hother hx;unfold cp;rw[g2];cases aA s.bl x with
  | none=>rfl
  | some o=>exact(g1 o).symm
 have H:I0 (S:=S) s1.st t.er.st s.ln t.ln h z:={
  get:=kO
  gone:=rW hgone
  MV:=fun x k hk=>by
   obtain⟨o',h1,_⟩:=ug hk;have hx:x≠h:=fun e=>by subst e;rw[hgone] at h1;cases h1
   obtain⟨g,_,g2,_⟩:=hother hx;rw[g2] at h1;obtain⟨o,h2,_⟩:=az.1 h1;exact⟨_,by rw[e2 x hx];exact ga h2⟩
  agree:=hag}
 have hfrA:∀d,bp t.ca d=(bp s.ca d).map (TV.fz h z):=by
  intro d;subst ht;show bp (Gz h z s.fr++s.lo) d=(bp (s.fr++s.lo) d).map _;rw[qV,qV,K7];cases bp s.fr d with
  | some v=>rfl
  | none=>
   show bp s.lo d=(bp s.lo d).map _;cases h2:bp s.lo d with
   | none=>rfl
   | some v=>rw[cd,QA v (xx h2 c1)]
 refine⟨Gh.gen (fun d g' hg'=>?_) (fun x k' hk'=>?_) ?_,?_⟩
 ·obtain⟨v',hv',rfl⟩:=Ac hg';rw[hfrA] at hv';obtain⟨v,h1,rfl⟩:=az.1 hv';exact⟨_,by rw[e1];exact fU h1,Wr H v⟩
 ·obtain⟨o',ho',rfl⟩:=ug hk';have hx:x≠h:=fun e=>by subst e;rw[hgone] at ho';cases ho'
  obtain⟨g,_,g2,g3⟩:=hother hx;rw[g2] at ho';obtain⟨o,h1,h2⟩:=az.1 ho';refine⟨_,by rw[e2 x hx];exact ga h1,?_⟩;rw[←h2,g3 o h1];exact YS H o
 ·rw[e3];have:t.df=s.df:=by subst ht;rfl
  show TV.er.go s.ln s.df=TV.er.go t.ln t.df;rw[this];exact pJ hag s.df c3
 ·intro d hh x hm;have hm:(d,hh,x)∈xd h s.last:=by subst ht;exact hm
  obtain⟨h1,h2⟩:=vH hm;obtain⟨i,bI,m,f',τ',l',a,e1,e2,e3⟩:=hl d hh x h1;refine⟨i,bI,m,f',τ',l',a,?_,?_,e3⟩
  ·rw[hfrA,e1];show some ((TV.iK hh τ' i 0:TV S).fz h z)=_;rw[QA _ (by
    simp only[TV.has];cases hb:Nat.beq hh h with
    | false=>rfl
    | true=>exact absurd (ab hb) h2)]
  ·obtain⟨g,_,g2,g3⟩:=hother h2;rw[g2,e2,cd,g3 _ e2];rfl
theorem GD {s t:ae S}{h:Nat}(hl:aO s) (hf:Dl s h=some t):Gh s.er t.er∧aO t∧bC s t:=by
 have lst0:∀{o:Option (TO S)},(match o with | none=>true | some _=>false)=true→o=none:=by
  intro o h;cases o with
  | none=>rfl
  | some _=>cases h
 unfold Dl at hf;split at hf
 ·rename_i e f τ l ho;split at hf
  ·rename_i hc;simp only[af,aS] at hc;obtain⟨c1,c2,c3,c4⟩:=hc;cases hf;obtain⟨a1,a2⟩:=Wq (s1:=s.er) (z:=.sl f τ l) hl c1 c2 c3 (lst0 c4) rfl (fun _ _=>rfl) rfl ⟨pA (fR ho),e,eB (fR ho)⟩;exact⟨a1,a2,⟨rfl,rfl,rfl⟩⟩
  ·cases hf
 ·rename_i e cs ho;split at hf
  ·rename_i n hn;split at hf
   ·rename_i f ls hls;split at hf
    ·rename_i a ha;split at hf
     ·rename_i hc;simp only[af,aS] at hc;obtain⟨c1,c2,c3,c4⟩:=hc;cases hf;have hk:=ga (ln:=s.ln) (fR ho);have hrw:xL (TV.er.go s.ln cs) f (aX S (.st n) a):=by
       obtain⟨i1,i2⟩:=CZ s.ln hls;rw[ib,S.gZ n ls a ha,cP];refine⟨by simp[i1],fun j m hm=>?_⟩;rw[ak] at hm;obtain⟨x,hx,rfl⟩:=az.1 hm;obtain⟨v,h4,h5⟩:=i2 j x hx;exact⟨v.er s.ln,by rw[ak,h4];rfl,h5⟩
      have g0:=Gh.pure (s:=s.er) hk rfl rfl (uA (S:=S) (.st n) a) hrw;obtain⟨a1,a2⟩:=Wq (s1:=_) (z:=.bx f n a) hl c1 c2 c3 (lst0 c4) (show({fr:=s.er.fr,st:=dF s.er.st h {(TO.box e true cs:TO S).er s.ln with pure:=true,fresh:=f,cells:=aX S (.st n) a},df:=s.er.df}:St).fr=s.er.fr from rfl) (fun x hx=>oT hx) rfl ⟨e,0,(s4 hk).trans rfl⟩;exact⟨g0.trans a1,a2,⟨rfl,rfl,rfl⟩⟩
     ·cases hf
    ·cases hf
   ·cases hf
  ·cases hf
 ·cases hf
end
end Go.DN
