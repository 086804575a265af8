/-
  DN, first half: a qV interpreter dz AM.
-/
import Derived.Test.YtfkigaldejbeiaaMgI
import Derived.Test.YtfkigaldejbeiaaMgF
set_option linter.unusedSectionVars false
set_option linter.unusedSimpArgs false
set_option linter.unusedVariables false
/-
 DN,part A:kinds of plain data,their encodings;qV values and states,and what they say of a state.
-/
namespace Go.DN
open Go.AM
structure bP where
 a:Int
 b:Int
 t:Nat
 f:List (Nat×List Int)
structure bC where
 n:Nat
 es:List bP
 pd:Option (Option (Nat×Nat)×Nat×List Int)
inductive Ty where
 | int (k:IntKind)
 | bool
 | str
 | list (t:Ty)
 | st (n:Nat)
 | map
 deriving DecidableEq
@[reducible] def Ty.den (α:Nat→Type):Ty→Type
 | .int _=>Int
 | .bool=>Bool
 | .str=>ByteArray
 | .list t=>List (t.den α)
 | .st n=>α n
 | .map=>bC
def Ty.fL:Ty→Bool
 | .st _=>true
 | _=>false
def Ty.fV:Ty→Bool
 | .int _=>true
 | .bool=>true
 | .str=>true
 | _=>false
structure bo (α:Nat→Type) where
 τ:Ty
 a:τ.den α
def ik {α:Nat→Type}(τ' τ:Ty) (a:τ'.den α):Option (τ.den α):=if h:τ'=τ then some (h▸a) else none
theorem dW {α:Nat→Type}{τ' τ:Ty}{a:τ'.den α}{b:τ.den α}(h:ik τ' τ a=some b):(⟨τ',a⟩:bo α)=⟨τ,b⟩:=by
 unfold ik at h
 split at h
 ·rename_i e;subst e;cases h;rfl
 ·cases h
def A8 {α:Nat→Type}(se:(n:Nat)→α n→List G):(τ:Ty)→τ.den α→List G
 | .int k,a=>[.val (.int k a)]
 | .bool,a=>[.val (.bool a)]
 | .str,a=>[.val (.string a)]
 | .list t,l=>[.sl (List.length l) (List.flatMap (A8 se t) l)]
 | .st n,a=>se n a
 | .map,_=>[.val (.bool true)]
structure O0 where
 N:Nat
 aA:List Nat
 ps:Array Tmp
 lh:Code
 body:Code
 id:Nat
structure eB where
 dG:Bool:=false
 R2:TypeId→Option TypeId:=fun _=>none
 eS:Nat→O0:=fun _=>⟨0,[],#[],.skip,.skip,0⟩
 α:Nat→Type
 dg:Nat→List Ty
 cells:(n:Nat)→α n→List (bo α)
 put:(n:Nat)→List (bo α)→Option (α n)
 enc:(n:Nat)→α n→List G
 ty:TypeId→Option Nat
 OG:TypeId→Option Ty
 mJ:∀n a,(cells n a).map bo.τ=dg n
 one:∀n t,t∈dg n→t.fL=false
 pos:∀n,dg n≠[]
 kD:∀n l a,put n l=some a→cells n a=l
 uK:∀n a,enc n a=(cells n a).flatMap (fun x=>A8 enc x.τ x.a)
section
variable (S:eB)
abbrev eB.D (τ:Ty):Type:=τ.den S.α
abbrev eB.L:Type:=bo S.α
abbrev aK (τ:Ty) (a:S.D τ):List G:=A8 S.enc τ a
def eB.sz (τ:Ty):Nat:=match τ with | .st n=>(S.dg n).length | _=>1
theorem A9 {τ:Ty}(h:τ.fL=false) (a:S.D τ):∃g,aK S τ a=[g]∧g.one=true:=by
 cases τ with
 | st n=>cases h
 | _=>exact⟨_,rfl,rfl⟩
theorem nb:∀(l:List S.L),(∀t∈l.map bo.τ,t.fL=false)→(l.flatMap (fun x=>A8 S.enc x.τ x.a)).length=l.length∧∀g∈l.flatMap (fun x=>A8 S.enc x.τ x.a),g.one=true
 | [],_=>⟨rfl,fun g h=>by cases h⟩
 | x::r,h=>by
  obtain⟨i1,i2⟩:=nb r fun t ht=>h t (ao _ ht)
  obtain⟨g,hg,ho⟩:=A9 S (τ:=x.τ) (h _ av) x.a
  simp only[cn]
  constructor
  ·have:(A8 S.enc x.τ x.a).length=1:=by show(aK S x.τ x.a).length=1;rw[hg];rfl
   simp[i1,this];omega
  ·intro g' hg'
   rcases cU.1 hg' with h1 | h1
   ·have h1:g'∈aK S x.τ x.a:=h1
    rw[hg] at h1;simp at h1;subst h1;exact ho
   ·exact i2 _ h1
theorem qH (τ:Ty) (a:S.D τ):(aK S τ a).length=S.sz τ:=by
 cases τ with
 | st n=>
  show(S.enc n a).length=(S.dg n).length
  have:=S.mJ n a
  rw[S.uK n a,(nb S _ (fun t ht=>S.one n t (by rw[←this];exact ht))).1,←this,a5]
 | _=>rfl
theorem By (τ:Ty):0<S.sz τ:=by
 cases τ with
 | st n=>exact List.length_pos_iff.2 (S.pos n)
 | _=>exact Nat.one_pos
theorem o8 (τ:Ty) (a:S.D τ):∀g∈aK S τ a,g.one=true:=by
 cases τ with
 | st n=>
  show ∀g∈S.enc n a,_
  have:=S.mJ n a
  rw[S.uK n a]
  exact(nb S _ (fun t ht=>S.one n t (by rw[←this];exact ht))).2
 | _=>intro g hg;obtain⟨g',h1,h2⟩:=A9 S (τ:=_) rfl a;rw[h1] at hg;simp at hg;subst hg;exact h2
@[reducible] def jA (τ:Ty):aJ (S.D τ):=⟨S.sz τ,aK S τ,qH S τ,By S τ,fun a=>o8 S τ a⟩
def dy (τ:Ty) (a:S.D τ):G:=(aK S τ a).headD .any
theorem jZ {τ:Ty}(h:τ.fL=false) (a:S.D τ):aK S τ a=[dy S τ a]:=by
 obtain⟨g,hg,_⟩:=A9 S h a
 unfold dy
 rw[hg];rfl
theorem gq (n:Nat) (a:S.α n):aK S (.st n) a=(S.cells n a).map fun x=>dy S x.τ x.a:=by
 show S.enc n a=_
 have h0:=S.mJ n a
 have h1:∀t∈(S.cells n a).map bo.τ,t.fL=false:=fun t ht=>S.one n t (by rw[←h0];exact ht)
 rw[S.uK n a]
 generalize S.cells n a=l at h1
 induction l with
 | nil=>rfl
 | cons x r ih=>
  simp only[cn,aH]
  rw[ih fun t ht=>h1 t (ao _ ht)]
  have:=jZ S (τ:=x.τ) (h1 _ av) x.a
  show aK S x.τ x.a++_=_
  rw[this];rfl
end
inductive TV (S:eB) where
 | af (f:Bool) (τ:Ty) (a:τ.den S.α)
 | ptr (f:Bool) (τ:Ty) (a:τ.den S.α)
 | agg (l:List (TV S))
 | bj (l:List (TV S))
 | loc (h off:Nat)
 | gF (h:Nat) (τ:Ty) (i j:Nat)
 | aO (h:Nat) (τ:Ty)
 | sub (h:Nat) (τ:Ty) (o n:Nat)
 | aM (f:FuncId) (caps:List (TV S))
 | cq (h:Nat)
 | mp (h:Nat)
 | ks (h:Nat) (τ:Ty) (i n:Nat)
 | kp (h:Nat) (τ:Ty) (i j:Nat)
 | fA (b:Bool) (h:Nat) (τ:Ty) (i j:Nat)
 | val (v:Value)
 | any
inductive Dk where
 | dG (kty:TypeId)
 | rows (kty:TypeId) (ho:Option Nat)
 | map (q:IntKind) (kty tty:TypeId)
 deriving DecidableEq
inductive TO (S:eB) where
 | box (bM:TypeId) (ct:Bool) (cs:List (TV S))
 | aT (bM:TypeId) (ct fresh:Bool) (τ:Ty) (l:List (τ.den S.α))
 | lp (key:Nat) (n:Int) (cs:List (TV S))
 | deep (bM:TypeId) (ct fresh:Bool) (dk:Dk) (τ:Ty) (a:τ.den S.α)
structure ah (S:eB) where
 fr:List (Nat×TV S)
 lo:List (Nat×TV S)
 st:List (Nat×TO S)
 bL:List (Nat×TO S)
 df:List (TV S)
 nx:Nat
 last:List (Nat×Nat×bo S.α)
section
variable {S:eB}
def dq (f:Bool) (g:G):G:=bif f then Ag g else g
def nf (f:Bool) (τ:Ty) (a:S.D τ):G:=
 match τ with
 | .st n=>.agg ((aK S (.st n) a).map (dq f))
 | τ=>dq f (dy S τ a)
def Nj (f:Bool) (τ:Ty) (a:S.D τ):G:=bif f then .fr (.ptr (aK S τ a)) else .ptr (aK S τ a)
def TV.er (ln:Nat→Nat):TV S→G
 | .af f τ a=>nf f τ a
 | .ptr f τ a=>Nj f τ a
 | .agg l=>.agg (go ln l)
 | .bj l=>.bj (go ln l)
 | .loc h off=>.loc h off
 | .gF h τ i j=>.loc h (i*S.sz τ+j)
 | .aO h τ=>.aO h (S.sz τ) 0 (ln h)
 | .sub h τ o n=>.aO h (S.sz τ) (o*S.sz τ) n
 | .aM f caps=>.aM f (go ln caps)
 | .cq h=>.cq h
 | .mp h=>.dR h
 | .ks h τ i n=>.ks h i (S.sz τ) n
 | .kp h τ i j=>.kp h i (j*S.sz τ)
 | .fA b h τ i j=>bif b then .val (.pointer none) else .kp h i (j*S.sz τ)
 | .val v=>.val v
 | .any=>.any
where go (ln:Nat→Nat):List (TV S)→List G
 | []=>[]
 | x::r=>x.er ln::go ln r
theorem cR (ln:Nat→Nat) (l:List (TV S)):TV.er.go ln l=l.map (TV.er ln):=by
 induction l with
 | nil=>rfl
 | cons x r ih=>simp only[TV.er.go,aH,ih]
def AW (id:Nat) (n:Int):Option Code:=bif n==0 then none else bif n==1 then some (.exit id) else some .ret
def eB.lp (S:eB) (key:Nat) (n:Int):Lp:=⟨0,(S.eS key).N,(S.eS key).aA,(S.eS key).ps,(S.eS key).lh,(S.eS key).body,AW (S.eS key).id n⟩
def rO:(τ:Ty)→S.D τ→Nat
 | .list _,l=>List.length l
 | _,_=>0
def TO.len:TO S→Nat
 | .aT _ _ _ _ l=>l.length
 | .deep _ _ _ _ τ a=>rO τ a
 | _=>0
def dD:(τ:Ty)→S.D τ→Nat×List (Nat×List G)
 | .list (.list t),ll=>(S.sz t,List.map (fun l=>(List.length l,List.flatMap (aK S t) l)) ll)
 | _,_=>(1,[])
def R1:bo S.α→Nat×List G
 | ⟨.list t,l⟩=>(List.length l,List.flatMap (aK S t) l)
 | _=>(0,[])
def Rx:List Ty→Nat
 | .list t::_=>S.sz t
 | _=>1
def E1:(τ:Ty)→S.D τ→Nat×Nat×List (Nat×List G)
 | .list (.st n),l=>(Rx (S:=S) (S.dg n),(S.dg n).length,List.flatMap (fun a=>(S.cells n a).map R1) l)
 | _,_=>(1,1,[])
def gA (q:IntKind) (l:List Int):List G:=l.map fun x=>.val (.int q x)
def bP.me (q:IntKind) (e:bP):ME:=⟨(e.a,e.b),e.t,e.f.map fun p=>(p.1,gA q p.2)⟩
def mapOf:(τ:Ty)→S.D τ→bC
 | .map,d=>d
 | _,_=>⟨0,[],none⟩
def vo (q:IntKind):Option (Option (Nat×Nat)×Nat×List Int)→Option (Option (Nat×Nat)×Nat×List G)
 | some (s,x,l)=>some (s,x,gA q l)
 | none=>none
def Dk.dp (e:TypeId) (τ:Ty) (a:S.D τ):Dk→Dp
 | .dG kty=>ij e kty (dD τ a).1 (dD τ a).2
 | .rows kty ho=>LA e kty (E1 τ a).1 (E1 τ a).2.1 (E1 τ a).2.2 ho
 | .map q kty tty=>fF q kty tty (mapOf τ a).n ((mapOf τ a).es.map (bP.me q)) (vo q (mapOf τ a).pd)
def TO.er (ln:Nat→Nat):TO S→ap
 | .box e m cs=>⟨e,false,m,false,0,TV.er.go ln cs,none⟩
 | .aT e m f τ l=>⟨e,true,m,f,S.sz τ,List.flatMap (aK S τ) l,none⟩
 | .lp key n cs=>⟨0,false,false,false,0,TV.er.go ln cs,some (.loop (S.lp key n))⟩
 | .deep e m f dk τ a=>⟨e,true,m,f,1,[],some (.deep (dk.dp e τ a))⟩
def bc:List (Nat×TV S)→Nat→Option (TV S)
 | [],_=>none
 | (k,g)::r,t=>bif Nat.beq k t then some g else bc r t
def aw:List (Nat×TO S)→Nat→Option (TO S)
 | [],_=>none
 | (k,g)::r,t=>bif Nat.beq k t then some g else aw r t
def bZ (st:List (Nat×TO S)) (h:Nat):Nat:=match aw st h with | some o=>o.len | none=>0
def fZ (ln:Nat→Nat):List (Nat×TV S)→List (Nat×G)
 | []=>[]
 | (t,v)::r=>(t,v.er ln)::fZ ln r
def b8 (ln:Nat→Nat):List (Nat×TO S)→List (Nat×ap)
 | []=>[]
 | (t,o)::r=>(t,o.er ln)::b8 ln r
def ah.bW (s:ah S):List (Nat×TV S):=s.fr++s.lo
def ah.bg (s:ah S):List (Nat×TO S):=s.st++s.bL
def ah.ln (s:ah S):Nat→Nat:=bZ s.bg
def ah.er (s:ah S):St:=⟨fZ s.ln s.bW,b8 s.ln s.bg,TV.er.go s.ln s.df⟩
structure bz (s t:ah S):Prop where
 lo:t.lo=s.lo
 bL:t.bL=s.bL
 df:t.df=s.df
theorem bz.refl (s:ah S):bz s s:=⟨rfl,rfl,rfl⟩
theorem bz.trans {a b c:ah S}(h:bz a b) (h':bz b c):bz a c:=⟨h'.lo.trans h.lo,h'.bL.trans h.bL,h'.df.trans h.df⟩
theorem eZ {ln:Nat→Nat}:∀{fr:List (Nat×TV S)}{t:Nat}{v:TV S},bc fr t=some v→get (fZ ln fr) t=some (v.er ln)
 | [],_,_,h=>by cases h
 | (k,g)::r,t,v,h=>by
  simp only[bc] at h
  simp only[fZ,AM.get]
  cases hk:Nat.beq k t with
  | true=>rw[hk] at h;cases h;rfl
  | false=>rw[hk] at h;exact eZ h
theorem fJ {ln:Nat→Nat}:∀{st:List (Nat×TO S)}{t:Nat}{o:TO S},aw st t=some o→aq (b8 ln st) t=some (o.er ln)
 | [],_,_,h=>by cases h
 | (k,g)::r,t,v,h=>by
  simp only[aw] at h
  simp only[b8,aq]
  cases hk:Nat.beq k t with
  | true=>rw[hk] at h;cases h;rfl
  | false=>rw[hk] at h;exact fJ h
def uf:Value→TV S
 | .int k n=>.af true (.int k) n
 | .bool b=>.af true .bool b
 | .string s=>.af true .str s
 | v=>.val v
theorem Fx (ln:Nat→Nat) (v:Value):(uf v:TV S).er ln=.val v:=by cases v <;> rfl
def cm (s:ah S):Operand→Option (TV S)
 | .tmp t=>bc s.bW t
 | .const v=>some (uf v)
 | .func f=>some (.aM f [])
 | .global _=>none
theorem bf {s:ah S}{x:Operand}{v:TV S}(h:cm s x=some v):ev s.er x=some (v.er s.ln):=by
 cases x with
 | tmp t=>exact eZ h
 | const v'=>cases h;simp only[ev,Fx]
 | func f=>cases h;rfl
 | global _=>cases h
def F7 (d:Nat):List (Nat×Nat×bo S.α)→List (Nat×Nat×bo S.α)
 | []=>[]
 | x::r=>bif Nat.beq x.1 d then F7 d r else x::F7 d r
def yd (h:Nat):List (Nat×Nat×bo S.α)→List (Nat×Nat×bo S.α)
 | []=>[]
 | x::r=>bif Nat.beq x.2.1 h then yd h r else x::yd h r
theorem C6 {d:Nat}{y:Nat×Nat×bo S.α}:∀{l:List (Nat×Nat×bo S.α)},y∈F7 d l→y∈l∧y.1≠d
 | [],h=>by cases h
 | x::r,h=>by
  simp only[F7] at h
  cases hb:Nat.beq x.1 d with
  | true=>rw[hb] at h;obtain⟨h1,h2⟩:=C6 h;exact⟨ao _ h1,h2⟩
  | false=>
   rw[hb] at h
   rcases aX.1 h with e | h
   ·subst e
    exact⟨av,fun e=>by rw[e,aG] at hb;cases hb⟩
   ·obtain⟨h1,h2⟩:=C6 h;exact⟨ao _ h1,h2⟩
theorem sL {d:Nat}{y:Nat×Nat×bo S.α}:∀{l:List (Nat×Nat×bo S.α)},y∈yd d l→y∈l∧y.2.1≠d
 | [],h=>by cases h
 | x::r,h=>by
  simp only[yd] at h
  cases hb:Nat.beq x.2.1 d with
  | true=>rw[hb] at h;obtain⟨h1,h2⟩:=sL h;exact⟨ao _ h1,h2⟩
  | false=>
   rw[hb] at h
   rcases aX.1 h with e | h
   ·subst e
    exact⟨av,fun e=>by rw[e,aG] at hb;cases hb⟩
   ·obtain⟨h1,h2⟩:=sL h;exact⟨ao _ h1,h2⟩
def ah.put (s:ah S) (d:Nat) (v:TV S):ah S:={s with fr:=(d,v)::s.fr,last:=F7 d s.last}
def aY (s:ah S):Prop:=∀d h x,(d,h,x)∈s.last→∃i bM m f τ l a,bc s.bW d=some (.gF h τ i 0)∧aw s.bg h=some (.aT bM m f τ l)∧x=⟨τ,a⟩∧l[i]?=some a
theorem Bw {d t:Nat}(v:TV S) (fr:List (Nat×TV S)) (h:t≠d):bc ((d,v)::fr) t=bc fr t:=by
 simp only[bc]
 cases hb:Nat.beq d t with
 | true=>exact absurd (aa hb).symm h
 | false=>rfl
theorem aY.put {s:ah S}(h:aY s) (d:Nat) (v:TV S):aY (s.put d v):=by
 intro d' hh x hm
 obtain⟨h1,h2⟩:=C6 hm
 obtain⟨i,bM,m,f,τ,l,a,e1,e2⟩:=h d' hh x h1
 exact⟨i,bM,m,f,τ,l,a,(Bw v s.bW h2).trans e1,e2⟩
theorem fB (s:ah S) (d:Nat) (v:TV S):(s.put d v).er=s.er.put d (v.er s.ln):=rfl
end
end Go.DN
/-
 DN,part B:operations that yield a value and leave the world alone.
-/
namespace Go.DN
open Go.AM
section
variable {S:eB}
def kq (P:Program) (t:TypeId):Option Nat:=(P.info? t).map (·.size)
def DM (P:Program) (t:TypeId):Option Bool:=match P.underlying t with
 | some (.struct _)=>some true
 | some (.array _ _)=>some true
 | some _=>some false
 | none=>none
theorem dw {P:Program}{t:TypeId}{n:Nat}(h:kq P t=some n):∀w,(sizeOf t).run P w=.ok n w:=by
 intro w
 unfold kq at h
 obtain⟨i,h1,h2⟩:=au.1 h
 subst h2
 simp[sizeOf,typeInfo,h1]
theorem gJ {P:Program}{t:TypeId}{b:Bool}(h:DM P t=some b):∀w,(isAgg t).run P w=.ok b w:=by
 intro w
 unfold DM at h
 cases hu:P.underlying t with
 | none=>rw[hu] at h;cases h
 | some d=>rw[hu] at h;cases d <;> cases h <;> simp[isAgg,underlying,hu]
def Ou (op:BinOp) (k:IntKind) (a b:Int):Option (TV S):=
 match op with
 | .add=>some (.af true (.int k) (k.wrap (a+b)))
 | .sub=>some (.af true (.int k) (k.wrap (a-b)))
 | .mul=>some (.af true (.int k) (k.wrap (a*b)))
 | .eql=>some (.af true .bool (a==b))
 | .neq=>some (.af true .bool (a !=b))
 | .lss=>some (.af true .bool (decide (a<b)))
 | .leq=>some (.af true .bool (decide (a≤b)))
 | .gtr=>some (.af true .bool (decide (a>b)))
 | .geq=>some (.af true .bool (decide (a≥b)))
 | .and=>some (.af true (.int k) (k.wrap ((BitVec.ofInt k.bits a &&& BitVec.ofInt k.bits b).toNat:Int)))
 | .or=>some (.af true (.int k) (k.wrap ((BitVec.ofInt k.bits a ||| BitVec.ofInt k.bits b).toNat:Int)))
 | _=>none
theorem Qc {op:BinOp}{k:IntKind}{a b:Int}{v:TV S}(h:Ou op k a b=some v) (ln:Nat→Nat):∃r,v.er ln=.val r∧Bk op (.int k a) (.int k b)=some r:=by
 cases op <;> simp only[Ou] at h <;> cases h <;> exact⟨_,rfl,by simp[Bk]⟩
def Ot (op:BinOp) (a b:ByteArray):Option (TV S):=
 match op with
 | .eql=>some (.af true .bool (a.toList==b.toList))
 | .neq=>some (.af true .bool (!(a.toList==b.toList)))
 | .lss=>some (.af true .bool (Op.bytesLess a.toList b.toList))
 | _=>none
theorem Qb {op:BinOp}{a b:ByteArray}{v:TV S}(h:Ot op a b=some v) (ln:Nat→Nat):∃r,v.er ln=.val r∧Bk op (.string a) (.string b)=some r:=by
 cases op <;> simp only[Ot] at h <;> cases h <;> exact⟨_,rfl,by simp[Bk]⟩
def Ch (ki:IntKind):List (bo S.α)→Option (List Int)
 | []=>some []
 | ⟨.int k,a⟩::r=>match decEq k ki with
  | isTrue _=>match Ch ki r with
   | some l=>some (a::l)
   | none=>none
  | isFalse _=>none
 | _=>none
theorem Hh {ki:IntKind}:∀{l:List (bo S.α)}{xs:List Int},Ch ki l=some xs→(l.map fun x=>dy S x.τ x.a)=xs.map fun a=>.val (.int ki a)
 | [],_,h=>by cases h;rfl
 | ⟨.int k,a⟩::r,xs,h=>by
  simp only[Ch] at h
  split at h
  ·rename_i e _
   subst e
   split at h
   ·rename_i l hl
    cases h
    rw[aH,aH,Hh hl]
    rfl
   ·cases h
  ·cases h
 | ⟨.bool,_⟩::_,_,h=>by cases h
 | ⟨.str,_⟩::_,_,h=>by cases h
 | ⟨.list _,_⟩::_,_,h=>by cases h
 | ⟨.st _,_⟩::_,_,h=>by cases h
theorem PX {f:Bool}{n:Nat}{a:S.α n}{ki:IntKind}{xs:List Int}(h:Ch ki (S.cells n a)=some xs) (ln:Nat→Nat):(TV.af f (.st n) a:TV S).er ln=.agg (xs.map fun a=>.val (.int ki a)):=by
 show G.agg ((aK S (.st n) a).map (dq f))=_
 rw[gq,Hh h,gd]
 congr 1
 refine ez fun x _=>?_
 cases f <;> rfl
def Fa (ki:IntKind):List (TV S)→Option (List Int)
 | []=>some []
 | .af _ (.int k) a::r=>match decEq k ki with
  | isTrue _=>match Fa ki r with
   | some l=>some (a::l)
   | none=>none
  | isFalse _=>none
 | _::_=>none
theorem Hg {ki:IntKind}(ln:Nat→Nat):∀{l:List (TV S)}{xs:List Int},Fa ki l=some xs→TV.er.go ln l=xs.map fun a=>.val (.int ki a)
 | [],_,h=>by cases h;rfl
 | v::r,xs,h=>by
  unfold Fa at h
  split at h
  ·rename_i e;cases e
  ·rename_i f k a r' e
   cases e
   split at h
   ·rename_i e _
    subst e
    split at h
    ·rename_i l hl
     cases h
     simp only[TV.er.go,Hg ln hl,aH]
     congr 1
     cases f <;> rfl
    ·cases h
   ·cases h
  ·cases h
def KU (ki:IntKind):TV S→Option (List Int)
 | .af _ (.st n) a=>Ch ki (S.cells n a)
 | .agg vs=>Fa ki vs
 | _=>none
theorem Jl {ki:IntKind}{v:TV S}{xs:List Int}(h:KU ki v=some xs) (ln:Nat→Nat):v.er ln=.agg (xs.map fun a=>.val (.int ki a)):=by
 unfold KU at h
 split at h
 ·exact PX h ln
 ·exact congrArg G.agg (Hg ln h)
 ·cases h
def KV (P:Program) (op:BinOp) (t:TypeId) (x y:TV S){A:Type}(k:TV S→Option A):Option A:=
 match op with
 | .eql=>match P.underlying t with
  | some (.array len e)=>match P.underlying e with
   | some (.int ki)=>match KU ki x with
    | some xs=>match KU ki y with
     | some ys=>match decEq (kq P e) (some 1) with
      | isTrue _=>match !(P.eqGuardType P.depth t)&&(Nat.beq xs.length len&&Nat.beq ys.length len) with
       | true=>k (.af true .bool (Cv xs ys))
       | false=>none
      | isFalse _=>none
     | none=>none
    | none=>none
   | _=>none
  | _=>none
 | _=>none
def Ov (P:Program) (op:BinOp) (t:TypeId) (x y:TV S){A:Type}(k:TV S→Option A):Option A:=
 match x with
 | .af _ (.int ka) a=>match y with
  | .af _ (.int kb) b=>match op with
   | .quo=>match decEq ka kb with
    | isTrue _=>(bq (b≠0)).bind fun _=>k (.af true (.int ka) (ka.wrap (Int.tdiv a b)))
    | isFalse _=>none
   | .rem=>match decEq ka kb with
    | isTrue _=>(bq (b≠0)).bind fun _=>k (.af true (.int ka) (Int.tmod a b))
    | isFalse _=>none
   | .shr=>(bq (0≤b)).bind fun _=>k (.af true (.int ka) (Int.fdiv a (2^(min (Int.toNat b) ka.bits))))
   | .shl=>(bq (0≤b)).bind fun _=>k (.af true (.int ka) (ka.wrap (a*2^(min (Int.toNat b) ka.bits))))
   | op=>match decEq ka kb with
    | isTrue _=>match Ou op ka a b with
     | some v=>k v
     | none=>none
    | isFalse _=>none
  | _=>none
 | .af _ .str a=>match y with
  | .af _ .str b=>match Ot op a b with
   | some v=>k v
   | none=>none
  | _=>none
 | .af _ .bool a=>match y with
  | .af _ .bool b=>match P.underlying t with
   | some .bool=>match op with
    | .eql=>k (.af true .bool (a==b))
    | .neq=>k (.af true .bool (!(a==b)))
    | _=>none
   | _=>none
  | _=>none
 | .af f (.st n) a=>KV P op t (.af f (.st n) a) y k
 | .agg vs=>KV P op t (.agg vs) y k
 | _=>none
section
variable {P:Program}{s:ah S}{dst:Option Tmp}{ty:TypeId}{pos:String}{after:Array Edge}{guard:Option (Nat×Bool)}
theorem qJ (f:Bool) (k:IntKind) (a:Int):nf (S:=S) f (.int k) a=.val (.int k a):=by cases f <;> rfl
theorem fX (f:Bool) (a:Bool):nf (S:=S) f .bool a=.val (.bool a):=by cases f <;> rfl
theorem Oc (f:Bool) (a:ByteArray):nf (S:=S) f .str a=.val (.string a):=by cases f <;> rfl
theorem jg {x:Operand}{f:Bool}{k:IntKind}{a:Int}(h:cm s x=some (.af f (.int k) a)):ev s.er x=some (.val (.int k a)):=by rw[bf h];exact congrArg some (qJ f k a)
theorem Hz {x:Operand}{f:Bool}{a:Bool}(h:cm s x=some (.af f .bool a)):ev s.er x=some (.val (.bool a)):=by rw[bf h];exact congrArg some (fX f a)
theorem Jd {x:Operand}{f:Bool}{a:ByteArray}(h:cm s x=some (.af f .str a)):ev s.er x=some (.val (.string a)):=by rw[bf h];exact congrArg some (Oc f a)
theorem Jm {op:BinOp}{t t':TypeId}{x y:Operand}{vx vy:TV S}{A:Type}{k:TV S→Option A}{r:A}(hx:cm s x=some vx) (hy:cm s y=some vy) (h:KV P op t vx vy k=some r):
  ∃v,PY P s.er ⟨dst,.binOp op t x y t',ty,pos,after,guard⟩ (v.er s.ln)∧k v=some r:=by
 unfold KV at h
 split at h
 ·split at h
  ·rename_i hu
   split at h
   ·rename_i hue
    split at h
    ·rename_i hxs
     split at h
     ·rename_i hys
      split at h
      ·rename_i hz _
       split at h
       ·rename_i hc
        simp only[ai,a6] at hc
        obtain⟨c1,c2,c3⟩:=hc
        exact⟨_,PY.RN (by rw[bf hx,Jl hxs]) (by rw[bf hy,Jl hys]) hu hue (dw hz) (aa c2) (aa c3) c1,h⟩
       ·cases h
      ·cases h
     ·cases h
    ·cases h
   ·cases h
  ·cases h
 ·cases h
theorem Qd {op:BinOp}{t t':TypeId}{x y:Operand}{vx vy:TV S}{A:Type}{k:TV S→Option A}{r:A}(hx:cm s x=some vx) (hy:cm s y=some vy) (h:Ov P op t vx vy k=some r):
  ∃v,PY P s.er ⟨dst,.binOp op t x y t',ty,pos,after,guard⟩ (v.er s.ln)∧k v=some r:=by
 unfold Ov at h
 split at h
 ·split at h
  ·rename_i fa ka a fb kb b
   have e1:=jg hx
   have e2:=jg hy
   split at h
   ·split at h
    ·rename_i _ e _
     subst e
     obtain⟨u,hu,h⟩:=bind_some h
     exact⟨_,PY.quo e1 e2 (cj hu),h⟩
    ·cases h
   ·split at h
    ·rename_i _ e _
     subst e
     obtain⟨u,hu,h⟩:=bind_some h
     exact⟨_,PY.rem e1 e2 (cj hu),h⟩
    ·cases h
   ·obtain⟨u,hu,h⟩:=bind_some h
    exact⟨_,PY.shr e1 e2 (cj hu),h⟩
   ·obtain⟨u,hu,h⟩:=bind_some h
    exact⟨_,PY.shl e1 e2 (cj hu),h⟩
   ·split at h
    ·rename_i e _
     subst e
     split at h
     ·rename_i v hv
      obtain⟨w,h1,h2⟩:=Qc hv s.ln
      exact⟨v,by rw[h1];exact PY.bin e1 e2 h2,h⟩
     ·cases h
    ·cases h
  ·cases h
 ·split at h
  ·split at h
   ·rename_i v hv
    obtain⟨w,h1,h2⟩:=Qb hv s.ln
    exact⟨v,by rw[h1];exact PY.bin (Jd hx) (Jd hy) h2,h⟩
   ·cases h
  ·cases h
 ·split at h
  ·split at h
   ·rename_i hu
    split at h
    ·exact⟨_,PY.Sy (Hz hx) (Hz hy) hu,h⟩
    ·exact⟨_,PY.Su (Hz hx) (Hz hy) hu,h⟩
    ·cases h
   ·cases h
  ·cases h
 ·exact Jm hx hy h
 ·exact Jm hx hy h
 ·cases h
end
end
end Go.DN
/-
 DN,part C:more operations that yield a value;a value seen as plain data.
-/
namespace Go.DN
open Go.AM
def RW (g g':G):Prop:=∀(O:Nat→Prop) (base:Nat) (w:World) (μ:Mu) (v:Value),aW O base w μ g v→aW O base w μ g' v
theorem RW.refl (g:G):RW g g:=fun _ _ _ _ _ h=>h
theorem RW.trans {a b c:G}(h:RW a b) (h':RW b c):RW a c:=fun _ _ _ _ _ x=>h' _ _ _ _ _ (h _ _ _ _ _ x)
theorem PY.rw {P:Program}{s:St}{o:Oper}{g g':G}(h:PY P s o g) (hw:RW g g'):PY P s o g':=fun N cx μ a w hr=>
 let ⟨v,h1,h2⟩:=h N cx μ a w hr
 ⟨v,hw _ _ _ _ _ h1,h2⟩
theorem fw.rw {P:Program}{W:List Nat}{s:St}{o:Oper}{g g':G}(h:fw P W s o g) (hw:RW g g'):fw P W s o g':=fun N cx μ a w hr=>
 let ⟨v,h1,h2⟩:=h N cx μ a w hr
 ⟨v,hw _ _ _ _ _ h1,h2⟩
theorem bA.ta {O:Nat→Prop}{w:World}{cs:List G}{v:Value}(n:Nat) (h:bA O w (.ptr cs) v):bA O w (.ptr (cs.take n)) v:=by
 cases h with
 | ptr _ b off us h1 h2 h3 h4=>
  refine .ptr _ b off us h1 h2 (fun j hj=>h3 j ?_) (fun j g hg=>h4 j g ?_)
  ·rw[aU] at hj;omega
  ·rw[a9] at hg;split at hg
   ·exact hg
   ·cases hg
def Da (f:Bool) (cs:List G):G:=bif f then .fr (.ptr cs) else .ptr cs
theorem RW.ta (f:Bool) (cs:List G) (n:Nat):RW (Da f cs) (Da f (cs.take n)):=by
 intro O base w μ v h
 cases f with
 | true=>cases h with
  | aF h=>cases h
  | fr h=>exact .fr (bA.ta n h)
 | false=>cases h with
  | aF h=>exact .aF (bA.ta n h)
theorem RW.nil:RW (.val (.slice none 0 0)) (.fr (.sl 0 [])):=by
 intro O base w μ v h
 cases h with
 | aF h=>cases h;exact .fr .nil
theorem RW.Qj (g:G):RW (Ag g) g:=by
 intro O base w μ v h
 cases g <;> first | exact h | (cases h with
  | aF h=>cases h
  | fr h=>exact .aF h.rD)
theorem RW.dq (f f':Bool) (g:G) (h:f'=true→f=true):RW (DN.dq f g) (DN.dq f' g):=by
 cases f with
 | true=>cases f' with
  | true=>exact RW.refl _
  | false=>exact RW.Qj g
 | false=>cases f' with
  | true=>cases h rfl
  | false=>exact RW.refl _
theorem RW.agg {gs gs':List G}(hl:gs'.length=gs.length) (h:∀(j:Nat) (g':G),gs'[j]?=some g'→∃g,gs[j]?=some g∧RW g g'):RW (.agg gs) (.agg gs'):=by
 intro O base w μ v hv
 cases hv with
 | aF hv=>cases hv with
  | agg _ us h1 h2=>exact .agg _ us (h1.trans hl.symm) fun j g' v hg' hv=>(by
    obtain⟨g,hg,hw⟩:=h j g' hg'
    exact hw _ _ _ _ _ (.aF (h2 j g v hg hv)))
 | agg _ us h1 h2=>exact .agg _ us (h1.trans hl.symm) fun j g' v hg' hv=>(by
   obtain⟨g,hg,hw⟩:=h j g' hg'
   exact hw _ _ _ _ _ (h2 j g v hg hv))
theorem RW.bj {gs gs':List G}(hl:gs'.length=gs.length) (h:∀(j:Nat) (g':G),gs'[j]?=some g'→∃g,gs[j]?=some g∧RW g g'):RW (.bj gs) (.bj gs'):=by
 intro O base w μ v hv
 cases hv with
 | aF hv=>cases hv
 | bj _ us h1 h2=>exact .bj _ us (h1.trans hl.symm) fun j g' v hg' hv=>(by
   obtain⟨g,hg,hw⟩:=h j g' hg'
   exact hw _ _ _ _ _ (h2 j g v hg hv))
section
variable {S:eB}
def mK (τ:Ty):TV S→Option (Bool×S.D τ)
 | .af f τ' a=>match τ'.fL with
  | true=>none
  | false=>match ik τ' τ a with
   | some b=>some (f||τ.fV,b)
   | none=>none
 | .val (.slice none 0 0)=>match τ with
  | .list _=>some (true,[])
  | _=>none
 | _=>none
theorem CX {τ:Ty}{v:TV S}{f:Bool}{a:S.D τ}(h:mK τ v=some (f,a)) (ln:Nat→Nat):τ.fL=false∧RW (v.er ln) (dq f (dy S τ a)):=by
 unfold mK at h
 split at h
 ·rename_i f' τ' a'
  split at h
  ·cases h
  ·rename_i h1
   split at h
   ·rename_i b hb
    cases h
    have:=dW hb
    cases this
    refine⟨h1,?_⟩
    cases τ with
    | st n=>cases h1
    | _=>cases f' <;> exact RW.refl _
   ·cases h
 ·split at h
  ·cases h
   exact⟨rfl,RW.nil⟩
  ·cases h
 ·cases h
def CW:List Ty→List (TV S)→Option (Bool×List (bo S.α))
 | [],[]=>some (true,[])
 | τ::ts,v::vs=>match mK τ v with
  | some (f,a)=>match CW ts vs with
   | some (g,l)=>some (f&&g,⟨τ,a⟩::l)
   | none=>none
  | none=>none
 | _,_=>none
theorem CU (ln:Nat→Nat):∀{ts:List Ty}{vs:List (TV S)}{f:Bool}{l:List (bo S.α)},CW ts vs=some (f,l)→
  l.length=vs.length∧∀(j:Nat) (x:bo S.α),l[j]?=some x→∃v,vs[j]?=some v∧RW (v.er ln) (dq f (dy S x.τ x.a))
 | [],[],_,_,h=>by cases h;exact⟨rfl,fun j x h=>by simp at h⟩
 | τ::ts,v::vs,f,l,h=>by
  simp only[CW] at h
  split at h
  ·rename_i f1 a h1
   split at h
   ·rename_i g l' h2
    cases h
    obtain⟨i1,i2⟩:=CU ln h2
    obtain⟨_,h3⟩:=CX h1 ln
    refine⟨by simp[i1],fun j x hx=>?_⟩
    cases j with
    | zero=>cases hx;exact⟨v,rfl,h3.trans (RW.dq _ _ _ fun h=>by simp at h;exact h.1)⟩
    | succ j=>
     obtain⟨v',h4,h5⟩:=i2 j x hx
     exact⟨v',h4,h5.trans (RW.dq _ _ _ fun h=>by simp at h;exact h.2)⟩
   ·cases h
  ·cases h
 | [],_::_,_,_,h=>by cases h
 | _::_,[],_,_,h=>by cases h
def Bx (τ:Ty) (v:TV S):Option (Bool×S.D τ):=
 match v with
 | .af f τ' a=>match ik τ' τ a with
  | some b=>some (f||τ.fV,b)
  | none=>none
 | .val (.slice none 0 0)=>match τ with
  | .list _=>some (true,[])
  | _=>none
 | .agg vs=>match τ with
  | .st n=>match CW (S.dg n) vs with
   | some (f,l)=>match S.put n l with
    | some a=>some (f,a)
    | none=>none
   | none=>none
  | _=>none
 | _=>none
theorem Ql {τ:Ty}{v:TV S}{f:Bool}{a:S.D τ}(h:Bx τ v=some (f,a)) (ln:Nat→Nat):RW (v.er ln) (nf f τ a):=by
 unfold Bx at h
 split at h
 ·split at h
  ·rename_i f' _ _ _ b hb
   cases h
   have:=dW hb
   cases this
   cases τ with
   | st n=>cases f' <;> exact RW.refl _
   | _=>cases f' <;> exact RW.refl _
  ·cases h
 ·split at h
  ·cases h;exact RW.nil
  ·cases h
 ·split at h
  ·rename_i _ vs _ n
   split at h
   ·rename_i f1 l h1
    split at h
    ·rename_i a1 h2
     cases h
     obtain⟨i1,i2⟩:=CU ln h1
     have h3:=S.kD n l a h2
     show RW (.agg (TV.er.go ln vs)) (.agg ((aK S (.st n) a).map (dq f)))
     rw[cR,gq,h3]
     refine RW.agg (by simp[i1]) fun j g' hg'=>?_
     simp only[ay,Option.map_map] at hg'
     obtain⟨x,hx,rfl⟩:=au.1 hg'
     obtain⟨v,h4,h5⟩:=i2 j x hx
     exact⟨v.er ln,by rw[ay,h4];rfl,h5⟩
    ·cases h
   ·cases h
  ·cases h
 ·cases h
def split (f:Bool) (n:Nat) (a:S.α n):List (TV S):=(S.cells n a).map fun x=>.af f x.τ x.a
theorem nH {τ:Ty}(h:τ.fL=false) (f:Bool) (a:S.D τ) (ln:Nat→Nat):(TV.af f τ a:TV S).er ln=dq f (dy S τ a):=by
 cases τ with
 | st n=>cases h
 | _=>rfl
theorem jP (n:Nat) (a:S.α n):∀x∈S.cells n a,x.τ.fL=false:=fun x hx=>
 S.one n _ (by rw[←S.mJ n a];exact jB hx)
theorem FX (f:Bool) (n:Nat) (a:S.α n) (ln:Nat→Nat):TV.er.go ln (split f n a)=(aK S (.st n) a).map (dq f):=by
 rw[cR,gq]
 have h:=jP n a
 unfold split
 generalize S.cells n a=l at h
 induction l with
 | nil=>rfl
 | cons x r ih=>
  simp only[aH]
  rw[nH (h x av),ih fun y hy=>h y (ao _ hy)]
def dL:TV S→List (TV S)
 | .agg l=>l
 | .af f (.st n) a=>split f n a
 | v=>[v]
theorem Lh (v:TV S) (ln:Nat→Nat) (h:∀u,v=.val u→u.oneCell'=true):cJ (v.er ln)=TV.er.go ln (dL v):=by
 have fr1:∀(f:Bool) (τ:Ty) (a:S.D τ),τ.fL=false→cJ (dq f (dy S τ a))=[dq f (dy S τ a)]:=by
  intro f τ a hs
  cases τ with
  | st n=>cases hs
  | _=>cases f <;> rfl
 cases v with
 | af f τ a=>
  cases τ with
  | st n=>exact(FX f n a ln).symm
  | _=>exact fr1 f _ a rfl
 | agg l=>rfl
 | ptr f τ a=>cases f <;> rfl
 | val u=>exact congrArg (List.map G.val) (congrArg Array.toList (lY (h u rfl)))
 | fA b h τ i j=>cases b <;> rfl
 | _=>rfl
end
end Go.DN
/-
 DN,part D:the operations that yield a value and leave the world alone,as one function.
-/
namespace Go.DN
open Go.AM
section
variable {S:eB}
def NY (P:Program) (t:TypeId) (i:Nat) (x:TV S):Option (TV S):=
 match P.underlying t with
 | some (.struct fs)=>match fs[i]? with
  | some f=>match kq P f.type with
   | some (z+1)=>match x with
    | .loc h off=>some (.loc h (off+f.offset))
    | .gF h τ i j=>some (.gF h τ i (j+f.offset))
    | .kp h (.list τ) i j=>some (.kp h (.list τ) i (j+f.offset))
    | .ptr fl (.st n) a=>match DM P f.type with
     | some false=>match (S.cells n a)[f.offset]? with
      | some y=>some (.ptr fl y.τ y.a)
      | none=>none
     | some true=>match S.ty f.type with
      | some n'=>match S.put n' (((S.cells n a).drop f.offset).take (z+1)) with
       | some a'=>some (.ptr fl (.st n') a')
       | none=>none
      | none=>none
     | none=>none
    | _=>none
   | _=>none
  | none=>none
 | _=>none
def NX (P:Program) (t:TypeId) (i:Nat) (x:TV S):Option (TV S):=
 match P.underlying t with
 | some (.struct fs)=>match fs[i]? with
  | some f=>match DM P f.type with
   | some false=>match x with
    | .agg l=>l[f.offset]?
    | .af fl (.st n) a=>match (S.cells n a)[f.offset]? with
     | some y=>some (.af fl y.τ y.a)
     | none=>none
    | _=>none
   | _=>none
  | none=>none
 | _=>none
section
variable {P:Program}{s:ah S}{dst:Option Tmp}{ty:TypeId}{pos:String}{after:Array Edge}{guard:Option (Nat×Bool)}
theorem PT {t:TypeId}{i:Nat}{x:Operand}{vx v:TV S}(hx:cm s x=some vx) (h:NX P t i vx=some v):
  PY P s.er ⟨dst,.field t x i,ty,pos,after,guard⟩ (v.er s.ln):=by
 unfold NX at h
 split at h
 ·rename_i fs hu
  split at h
  ·rename_i f hf
   split at h
   ·rename_i ha
    split at h
    ·rename_i l
     refine PY.Mv (gs:=TV.er.go s.ln l) (bf hx) hu hf (gJ ha) ?_
     rw[cR,ay,h];rfl
    ·rename_i fl n a
     split at h
     ·rename_i y hy
      cases h
      refine PY.Mv (gs:=(aK S (.st n) a).map (dq fl)) (bf hx) hu hf (gJ ha) ?_
      rw[←FX fl n a s.ln,cR,ay]
      unfold split
      rw[ay,hy];rfl
     ·cases h
    ·cases h
   ·cases h
  ·cases h
 ·cases h
theorem Cu (f:Bool) (τ:Ty) (a:S.D τ) (ln:Nat→Nat):(TV.ptr f τ a:TV S).er ln=Da f (aK S τ a):=rfl
theorem PU {t:TypeId}{i:Nat}{x:Operand}{vx v:TV S}(hx:cm s x=some vx) (h:NY P t i vx=some v):
  PY P s.er ⟨dst,.fieldAddr t x i,ty,pos,after,guard⟩ (v.er s.ln):=by
 unfold NY at h
 split at h
 ·rename_i fs hu
  split at h
  ·rename_i f hf
   split at h
   ·rename_i z hz
    split at h
    ·cases h
     exact PY.field (bf hx) rfl hu hf (dw hz) (by omega)
    ·cases h
     rename_i hh τ i' j
     refine PY.rw (PY.field (g':=.loc hh (i'*S.sz τ+j+f.offset)) (bf hx) rfl hu hf (dw hz) (by omega)) ?_
     show RW _ (.loc hh (i'*S.sz τ+(j+f.offset)))
     rw[Nat.add_assoc]
     exact RW.refl _
    ·cases h
     rename_i hh τ i' j
     refine PY.rw (PY.field (g':=.kp hh i' (j*S.sz (.list τ)+f.offset)) (bf hx) rfl hu hf (dw hz) (by omega)) ?_
     show RW _ (.kp hh i' ((j+f.offset)*S.sz (.list τ)))
     rw[show S.sz (.list τ)=1 from rfl,dX,dX]
     exact RW.refl _
    ·rename_i fl n a
     have key:∀(cs:List G) (m:Nat),((aK S (.st n) a).drop f.offset).take m=cs→PY P s.er ⟨dst,.fieldAddr t x i,ty,pos,after,guard⟩ (Da fl cs):=by
      intro cs m he
      subst he
      have e0:=bf hx
      rw[Cu] at e0
      refine PY.rw (PY.field (g':=Da fl ((aK S (.st n) a).drop f.offset)) e0 ?_ hu hf (dw hz) (by omega)) (RW.ta _ _ _)
      cases fl <;> rfl
     split at h
     ·split at h
      ·rename_i y hy
       cases h
       refine key _ 1 ?_
       rw[gq,jZ S (jP n a y (ar hy))]
       rw[←List.map_drop,←List.map_take]
       have:((S.cells n a).drop f.offset).take 1=[y]:=by
        have:=al.1 hy
        obtain⟨h1,h2⟩:=this
        rw[bV h1,h2];rfl
       rw[this];rfl
      ·cases h
     ·split at h
      ·rename_i n' _
       split at h
       ·rename_i a' h'
        cases h
        refine key _ (z+1) ?_
        rw[gq,gq,S.kD _ _ _ h',List.map_take,List.map_drop]
       ·cases h
      ·cases h
     ·cases h
    ·cases h
   ·cases h
  ·cases h
 ·cases h
def xW (h:Nat) (τ:Ty) (o n:Nat) (lo hi:Option (TV S)){A:Type}(k:TV S→Option A):Option A:=
 match lo,hi with
 | some (.af _ (.int _) i),some (.af _ (.int _) j)=>(bq (0≤i∧i≤j∧j≤(n:Int))).bind fun _=>k (.sub h τ (o+Int.toNat i) (Int.toNat j-Int.toNat i))
 | some (.af _ (.int _) i),none=>(bq (0≤i∧i≤(n:Int))).bind fun _=>k (.sub h τ (o+Int.toNat i) (n-Int.toNat i))
 | none,some (.af _ (.int _) j)=>(bq (0≤j∧j≤(n:Int))).bind fun _=>k (.sub h τ o (Int.toNat j))
 | none,none=>none
 | _,_=>none
def M8 (ln:Nat→Nat) (t:TypeId) (P:Program) (x:TV S) (lo hi:Option (TV S)){A:Type}(k:TV S→Option A):Option A:=
 match P.underlying t with
 | some (.slice e)=>match x with
  | .af f (.list τ) l=>match decEq (kq P e) (some (S.sz τ)) with
   | isFalse _=>none
   | isTrue _=>match lo,hi with
    | some (.af _ (.int _) i),some (.af _ (.int _) j)=>(bq (0≤i∧i≤j∧j≤(List.length l:Int))).bind fun _=>k (.af f (.list τ) (kg l i j))
    | some (.af _ (.int _) i),none=>(bq (0≤i∧i≤(List.length l:Int))).bind fun _=>k (.af f (.list τ) (kg l i (List.length l:Int)))
    | none,some (.af _ (.int _) j)=>(bq (0≤j∧j≤(List.length l:Int))).bind fun _=>k (.af f (.list τ) (kg l 0 j))
    | _,_=>none
  | .aO h τ=>match decEq (kq P e) (some (S.sz τ)) with
   | isFalse _=>none
   | isTrue _=>xW h τ 0 (ln h) lo hi k
  | .sub h τ o n=>match decEq (kq P e) (some (S.sz τ)) with
   | isFalse _=>none
   | isTrue _=>xW h τ o n lo hi k
  | _=>none
 | some .string=>match x with
  | .af _ .str b=>match lo,hi with
   | some (.af _ (.int _) i),some (.af _ (.int _) j)=>(bq (0≤i∧i≤j∧j≤(b.size:Int))).bind fun _=>k (.af true .str (b.extract i.toNat j.toNat))
   | some (.af _ (.int _) i),none=>(bq (0≤i∧i≤(b.size:Int))).bind fun _=>k (.af true .str (b.extract i.toNat b.size))
   | none,some (.af _ (.int _) j)=>(bq (0≤j∧j≤(b.size:Int))).bind fun _=>k (.af true .str (b.extract 0 j.toNat))
   | _,_=>none
  | _=>none
 | _=>none
theorem aW.xW {O:Nat→Prop}{base:Nat}{w:World}{μ:Mu}{h sz off n i j:Nat}{v:Value}(hv:aW O base w μ (.aO h sz off n) v) (h1:i≤j) (h2:j≤n):
  ∃(a:Option Addr) (cap:Nat),v=.slice a n cap∧n≤cap∧aW O base w μ (.aO h sz (off+i*sz) (j-i)) (sliced a i j cap sz):=by
 cases hv with
 | aF hv=>cases hv
 | eL _ _ hm=>
  obtain rfl:i=0:=by omega
  obtain rfl:j=0:=by omega
  refine⟨none,0,rfl,az _,?_⟩
  simp only[sliced,ep,di,if_true]
  exact .eL h sz hm
 | aO _ _ _ _ b m cap hm hn hc=>
  refine⟨_,cap,rfl,hn,?_⟩
  unfold sliced
  by_cases e:cap=i
  ·rw[if_pos e]
   have hj:j-i=0:=by omega
   have hci:cap-i=0:=by omega
   rw[hj,hci]
   by_cases hpos:0<m.1
   ·have:off+i*sz=m.1:=by rw[←e];exact hc
    rw[this]
    exact .dF h sz off b m.1 hm hpos
   ·have h5:off=0:=by omega
    have h6:i*sz=0:=by rw[←e];omega
    rw[h5,h6]
    exact .aO h sz 0 0 b m 0 hm (az _) (by omega)
  ·rw[if_neg e]
   simp only[bG,Addr.iS]
   refine .aO h sz _ _ b m _ hm (by omega) ?_
   have:i*sz+(cap-i)*sz=cap*sz:=by rw[←dA];congr 1;omega
   omega
 | dF _ _ off0 b m hm hpos=>
  obtain rfl:i=0:=by omega
  obtain rfl:j=0:=by omega
  refine⟨_,0,rfl,az _,?_⟩
  simp only[sliced,ep,di,if_true]
  exact .dF h sz off0 b _ hm hpos
theorem sR (f:Bool) (τ:Ty) (l:List (S.D τ)) (ln:Nat→Nat):(TV.af f (.list τ) l:TV S).er ln=@BM _ (jA S τ) f l:=by cases f <;> rfl
def ph (s:ah S):Option Operand→Option (Option (TV S))
 | none=>some none
 | some x=>match cm s x with
  | some v=>some (some v)
  | none=>none
theorem Jz {j:Int}{n:Nat}(h:j≤(n:Int)):j.toNat≤n:=by omega
theorem Ma {j:Int}{n cap:Nat}(h:j≤(n:Int)) (h':n≤cap):j≤(cap:Int):=by omega
theorem Iy {t e:TypeId}{x:Operand}{lo hi:Option Operand}{h n o:Nat}{τ:Ty}{vl vh:Option (TV S)}{A:Type}{k:TV S→Option A}{r:A}(hx:ev s.er x=some (.aO h (S.sz τ) (o*S.sz τ) n))
  (hl:ph s lo=some vl) (hh:ph s hi=some vh) (hu:P.underlying t=some (.slice e)) (hz:kq P e=some (S.sz τ))
  (hk:xW h τ o n vl vh k=some r):∃v,PY P s.er ⟨dst,.slice t x lo hi none,ty,pos,after,guard⟩ (v.er s.ln)∧k v=some r:=by
 letI:=jA S τ
 have opS:∀{o:Option Operand}{v:TV S},ph s o=some (some v)→∃y,o=some y∧cm s y=some v:=by
  intro o v h
  cases o with
  | none=>cases h
  | some y=>
   simp only[ph] at h
   split at h
   ·rename_i v' hv;cases h;exact⟨y,rfl,hv⟩
   ·cases h
 have opN:∀{o:Option Operand},ph s o=some none→o=none:=by
  intro o h
  cases o with
  | none=>rfl
  | some y=>
   simp only[ph] at h
   split at h <;> cases h
 have er:∀(i m:Nat),(TV.sub h τ (o+i) m:TV S).er s.ln=.aO h (S.sz τ) (o*S.sz τ+i*S.sz τ) m:=by
  intro i m;show G.aO h (S.sz τ) ((o+i)*S.sz τ) m=_;rw[dA]
 unfold xW at hk
 split at hk
 ·obtain⟨u,hc,hk⟩:=bind_some hk
  obtain⟨y,rfl,hy⟩:=opS hl
  obtain⟨y',rfl,hy'⟩:=opS hh
  obtain⟨c1,c2,c3⟩:=cj hc
  refine⟨_,?_,hk⟩
  rw[er]
  intro N cx μ a w hr
  obtain⟨ad,cap,e1,e2,e3⟩:=aW.xW (hr.ev hx) (Int.toNat_le_toNat c2) (Jz c3)
  refine⟨_,e3,fun w'=>?_⟩
  simp[execOp,e1,hr.val (jg hy),hr.val (jg hy'),F2 (α:=S.D τ) (P:=P) hu (dw hz) ad n cap c1 c2 (Ma c3 e2) w']
  rfl
 ·obtain⟨u,hc,hk⟩:=bind_some hk
  obtain⟨y,rfl,hy⟩:=opS hl
  cases opN hh
  obtain⟨c1,c2⟩:=cj hc
  refine⟨_,?_,hk⟩
  rw[er]
  intro N cx μ a w hr
  obtain⟨ad,cap,e1,e2,e3⟩:=aW.xW (i:=Int.toNat _) (j:=n) (hr.ev hx) (Jz c2) (az _)
  refine⟨_,e3,fun w'=>?_⟩
  simp[execOp,e1,hr.val (jg hy),BQ (α:=S.D τ) (P:=P) hu (dw hz) ad n cap c1 c2 w']
  rfl
 ·obtain⟨u,hc,hk⟩:=bind_some hk
  cases opN hl
  obtain⟨y,rfl,hy⟩:=opS hh
  obtain⟨c1,c2⟩:=cj hc
  refine⟨_,?_,hk⟩
  have:=er 0 (Int.toNat ‹_›)
  rw[di] at this
  rw[this]
  intro N cx μ a w hr
  obtain⟨ad,cap,e1,e2,e3⟩:=aW.xW (i:=0) (j:=Int.toNat _) (hr.ev hx) (gY _) (Jz c2)
  refine⟨_,e3,fun w'=>?_⟩
  simp[execOp,e1,hr.val (jg hy),BR (α:=S.D τ) (P:=P) hu (dw hz) ad n cap c1 (Ma c2 e2) w']
  rfl
 ·cases hk
 ·cases hk
theorem Ph {t:TypeId}{x:Operand}{lo hi:Option Operand}{vx:TV S}{vl vh:Option (TV S)}{A:Type}{k:TV S→Option A}{r:A}(hx:cm s x=some vx) (hl:ph s lo=some vl) (hh:ph s hi=some vh)
  (h:M8 s.ln t P vx vl vh k=some r):∃v,PY P s.er ⟨dst,.slice t x lo hi none,ty,pos,after,guard⟩ (v.er s.ln)∧k v=some r:=by
 have opS:∀{o:Option Operand}{v:TV S},ph s o=some (some v)→∃y,o=some y∧cm s y=some v:=by
  intro o v h
  cases o with
  | none=>cases h
  | some y=>
   simp only[ph] at h
   split at h
   ·rename_i v' hv;cases h;exact⟨y,rfl,hv⟩
   ·cases h
 have opN:∀{o:Option Operand},ph s o=some none→o=none:=by
  intro o h
  cases o with
  | none=>rfl
  | some y=>
   simp only[ph] at h
   split at h <;> cases h
 unfold M8 at h
 split at h
 ·rename_i e hu
  split at h
  ·rename_i f τ l
   split at h
   ·cases h
   ·rename_i hz _
    have e0:=bf hx
    rw[sR] at e0
    split at h
    ·obtain⟨u,hc,h⟩:=bind_some h
     obtain⟨y,rfl,hy⟩:=opS hl
     obtain⟨y',rfl,hy'⟩:=opS hh
     obtain⟨c1,c2,c3⟩:=cj hc
     refine⟨_,?_,h⟩
     rw[sR]
     letI:=jA S τ;exact PY.slice (α:=S.D τ) e0 (jg hy) (jg hy') hu (dw hz) c1 c2 c3
    ·obtain⟨u,hc,h⟩:=bind_some h
     obtain⟨y,rfl,hy⟩:=opS hl
     cases opN hh
     obtain⟨c1,c2⟩:=cj hc
     refine⟨_,?_,h⟩
     rw[sR]
     letI:=jA S τ;exact PY.Qr (α:=S.D τ) e0 (jg hy) hu (dw hz) c1 c2
    ·obtain⟨u,hc,h⟩:=bind_some h
     cases opN hl
     obtain⟨y,rfl,hy⟩:=opS hh
     obtain⟨c1,c2⟩:=cj hc
     refine⟨_,?_,h⟩
     rw[sR]
     letI:=jA S τ;exact PY.Qs (α:=S.D τ) e0 (jg hy) hu (dw hz) c1 c2
    ·cases h
  ·split at h
   ·cases h
   ·rename_i hz _
    refine Iy (n:=s.ln _) (o:=0) ?_ hl hh hu hz h
    rw[bf hx,ep];rfl
  ·split at h
   ·cases h
   ·rename_i hz _
    exact Iy (bf hx) hl hh hu hz h
  ·cases h
 ·rename_i hu
  split at h
  ·rename_i b
   have e0:=Jd hx
   split at h
   ·obtain⟨u,hc,h⟩:=bind_some h
    obtain⟨y,rfl,hy⟩:=opS hl
    obtain⟨y',rfl,hy'⟩:=opS hh
    obtain⟨c1,c2,c3⟩:=cj hc
    exact⟨_,PY.Qq e0 (jg hy) (jg hy') hu c1 c2 c3,h⟩
   ·obtain⟨u,hc,h⟩:=bind_some h
    obtain⟨y,rfl,hy⟩:=opS hl
    cases opN hh
    obtain⟨c1,c2⟩:=cj hc
    exact⟨_,PY.Pf e0 (jg hy) hu c1 c2,h⟩
   ·obtain⟨u,hc,h⟩:=bind_some h
    cases opN hl
    obtain⟨y,rfl,hy⟩:=opS hh
    obtain⟨c1,c2⟩:=cj hc
    exact⟨_,PY.Pg e0 (jg hy) hu c1 c2,h⟩
   ·cases h
  ·cases h
 ·cases h
end
end
end Go.DN
/-
 DN,part E:the operations that yield a value,put together.
-/
namespace Go.DN
open Go.AM
section
variable {S:eB}
def Gx:TV S→Bool
 | .any=>false
 | .val u=>u.oneCell'
 | _=>true
theorem qy {v:TV S}(h:Gx v=true) (ln:Nat→Nat):Ci (v.er ln)=true:=by
 cases v with
 | af f τ a=>cases τ with
  | st n=>rfl
  | _=>cases f <;> rfl
 | ptr f τ a=>cases f <;> rfl
 | fA b h τ i j=>cases b <;> rfl
 | any=>cases h
 | _=>rfl
theorem uk {v:TV S}(h:Gx v=true) (ln:Nat→Nat):cJ (v.er ln)=TV.er.go ln (dL v):=Lh v ln fun u e=>by subst e;exact h
def E0 (places:List (Nat×Nat)) (cells:List (TV S)):List (Nat×TV S)→Option (List (TV S))
 | []=>some cells
 | (i,v)::r=>match places[i]? with
  | some (off,size)=>match Gx v&&(Nat.beq (dL v).length size&&Nat.ble (off+size) cells.length) with
   | true=>E0 places (setAt cells off (dL v)) r
   | false=>none
  | none=>none
theorem D2 {α β:Type}(f:α→β):∀(xs:List α) (off:Nat) (cs:List α),(setAt cs off xs).map f=setAt (cs.map f) off (xs.map f)
 | [],_,_=>rfl
 | x::r,off,cs=>by simp only[setAt,aH,D2 f r,kz]
theorem FI (ln:Nat→Nat) (places:List (Nat×Nat)):∀{parts:List (Nat×TV S)}{cells out:List (TV S)},E0 places cells parts=some out→
  zC (places[·]?) (TV.er.go ln cells) (parts.map fun x=>(x.1,x.2.er ln))=some (TV.er.go ln out)
 | [],_,_,h=>by cases h;rfl
 | (i,v)::r,cells,out,h=>by
  simp only[E0] at h
  split at h
  ·rename_i off size hp
   split at h
   ·rename_i hc
    simp only[ai] at hc
    obtain⟨h1,h2,h3⟩:=hc
    have h4:=qy h1 ln
    have h5:=uk h1 ln
    have ih:=FI ln places h
    simp only[aH,zC,hp]
    have h6:(cJ (v.er ln)).length=(dL v).length:=by rw[h5,cR,a5]
    have h7:(TV.er.go ln cells).length=cells.length:=by rw[cR,a5]
    rw[h4,h6,h7,h2,h3,h5]
    simp only[fH]
    have h8:setAt (TV.er.go ln cells) off (TV.er.go ln (dL v))=TV.er.go ln (setAt cells off (dL v)):=by
     simp only[cR,D2]
    rw[h8]
    exact ih
   ·cases h
  ·cases h
def JA (s:ah S):List (Nat×Operand)→Option (List (Nat×TV S))
 | []=>some []
 | (i,x)::r=>match cm s x with
  | some v=>match JA s r with
   | some vs=>some ((i,v)::vs)
   | none=>none
  | none=>none
theorem Ir {s:ah S}:∀{l:List (Nat×Operand)}{vs:List (Nat×TV S)},JA s l=some vs→Hy s.er l=some (vs.map fun x=>(x.1,x.2.er s.ln))
 | [],_,h=>by cases h;rfl
 | (i,x)::r,vs,h=>by
  simp only[JA] at h
  split at h
  ·rename_i v hv
   split at h
   ·rename_i vs' hr
    cases h
    simp only[Hy,bf hv,Ir hr,aH]
   ·cases h
  ·cases h
def rP (s:ah S):List Operand→Option (List (TV S))
 | []=>some []
 | x::r=>match cm s x with
  | some v=>match rP s r with
   | some vs=>some (v::vs)
   | none=>none
  | none=>none
theorem kV {s:ah S}:∀{l:List Operand}{vs:List (TV S)},rP s l=some vs→l.map (ev s.er)=(TV.er.go s.ln vs).map some∧tF s.er l=some (TV.er.go s.ln vs)
 | [],_,h=>by cases h;exact⟨rfl,rfl⟩
 | x::r,vs,h=>by
  simp only[rP] at h
  split at h
  ·rename_i v hv
   split at h
   ·rename_i vs' hr
    cases h
    obtain⟨i1,i2⟩:=kV hr
    exact⟨by simp only[aH,TV.er.go,bf hv,i1],by simp only[TV.er.go,tF,bf hv,i2]⟩
   ·cases h
  ·cases h
def Kp (s:ah S):TV S→Option Int
 | .af _ (.list _) l=>some (List.length l:Int)
 | .aO h _=>match aw s.bg h with
  | some (.aT _ _ _ _ l)=>some (List.length l:Int)
  | some (.deep _ _ _ _ τ a)=>some (rO τ a:Int)
  | _=>none
 | .ks _ _ _ n=>some (n:Int)
 | .sub _ _ _ n=>some (n:Int)
 | .val (.slice none 0 0)=>some 0
 | _=>none
def GC (P:Program) (t:TypeId) (v:TV S) (y:Operand):Option Bool:=
 match y with
 | .const (.pointer none)=>match P.underlying t with
  | some (.pointer _)=>match v with
   | .kp _ _ _ _=>some false
   | .fA b _ _ _ _=>some b
   | .val (.pointer none)=>some true
   | .loc _ _=>some false
   | _=>none
  | _=>none
 | _=>none
theorem LS {P:Program}{t:TypeId}{v:TV S}{y:Operand}{b:Bool}(h:GC P t v y=some b) (ln:Nat→Nat):y=.const (.pointer none)∧(∃e,P.underlying t=some (.pointer e))∧tc (v.er ln)=some b:=by
 unfold GC at h
 split at h
 ·split at h
  ·rename_i e hu
   refine⟨rfl,⟨e,hu⟩,?_⟩
   split at h
   ·cases h;rfl
   ·cases h;cases b <;> rfl
   ·cases h;rfl
   ·cases h;rfl
   ·cases h
  ·cases h
 ·cases h
def PJ (s:ah S) (x:Operand):Option Operand→Option Operand→Bool
 | some _,some _=>match cm s x with
  | some (.sub h _ _ _)=>match aw s.bg h with
   | some (.aT _ _ _ _ _)=>true
   | _=>false
  | _=>false
 | _,_=>false
def M9 (P:Program) (s:ah S) (t:TypeId) (x:Operand) (lo hi:Option Operand){A:Type}(k:TV S→Option A):Option A:=
 match lo,hi with
 | some lo,some hi=>match P.underlying t with
  | some (.slice e)=>match cm s x with
   | some (.sub h τ o n)=>match aw s.bg h with
    | some (.aT _ _ _ τ' l)=>match decEq τ' τ with
     | isTrue _=>match decEq (kq P e) (some (S.sz τ')) with
      | isTrue _=>match cm s lo with
       | some (.af _ (.int _) i)=>match cm s hi with
        | some (.af _ (.int _) j)=>(bq (0≤i∧i≤j∧o+Int.toNat j≤List.length l)).bind fun _=>k (.sub h τ (o+Int.toNat i) (Int.toNat j-Int.toNat i))
        | _=>none
       | _=>none
      | isFalse _=>none
     | isFalse _=>none
    | _=>none
   | _=>none
  | _=>none
 | _,_=>none
def Qo (s:ah S):TV S→Option Nat
 | .aO h _=>some (s.ln h)
 | .sub _ _ _ n=>some n
 | _=>none
def Na (P:Program) (s:ah S) (t:TypeId) (x lo hi mx:Operand){A:Type}(k:TV S→Option A):Option A:=
 match P.underlying t with
 | some (.slice e)=>match kq P e with
  | some _=>match cm s x with
   | some vx=>match Qo s vx with
    | some n=>match cm s lo with
     | some (.af _ (.int _) i)=>match cm s hi with
      | some (.af _ (.int _) j)=>match cm s mx with
       | some (.af _ (.int _) m)=>(bq (0≤i∧i≤j∧j≤m∧m≤(n:Int))).bind fun _=>k .any
       | _=>none
      | _=>none
     | _=>none
    | none=>none
   | none=>none
  | none=>none
 | _=>none
def LM (P:Program) (s:ah S) (op:Op){A:Type}(k:TV S→Option (bo S.α)→Option A):Option A:=
 match op with
 | .move x=>match cm s x with
  | some v=>k v none
  | none=>none
 | .assign x=>match cm s x with
  | some v=>k v none
  | none=>none
 | .pick c x y=>match cm s c with
  | some (.af _ .bool b)=>match b with
   | true=>match cm s x with
    | some v=>k v none
    | none=>none
   | false=>match cm s y with
    | some v=>k v none
    | none=>none
  | _=>none
 | .binOp op t x y _=>match cm s x with
  | some vx=>match GC P t vx y with
   | some b=>match op with
    | .eql=>k (.af true .bool b) none
    | .neq=>k (.af true .bool (!b)) none
    | _=>none
   | none=>match cm s y with
    | some vy=>Ov P op t vx vy fun v=>k v none
    | none=>none
  | none=>none
 | .unOp op _ x=>match op with
  | .not=>match cm s x with
   | some (.af _ .bool b)=>k (.af true .bool (!b)) none
   | _=>none
  | .neg=>match cm s x with
   | some (.af _ (.int ki) a)=>k (.af true (.int ki) (ki.wrap (0-a))) none
   | _=>none
  | _=>none
 | .convert t t' x=>match P.underlying t with
  | some _=>match P.underlying t' with
   | some (.int ki)=>match cm s x with
    | some (.af _ (.int _) a)=>k (.af true (.int ki) (ki.wrap a)) none
    | _=>none
   | some .string=>match cm s x with
    | some (.af _ .str a)=>k (.af true .str a) none
    | _=>none
   | _=>none
  | none=>none
 | .extract x i=>match cm s x with
  | some (.bj l)=>match l[i]? with
   | some v=>k v none
   | none=>none
  | _=>none
 | .field t x i=>match cm s x with
  | some vx=>match NX P t i vx with
   | some v=>k v none
   | none=>none
  | none=>none
 | .fieldAddr t x i=>match cm s x with
  | some vx=>match NY P t i vx with
   | some v=>k v none
   | none=>none
  | none=>none
 | .indexAddr t x y=>match P.underlying t with
  | some (.slice e)=>match cm s y with
   | some (.af _ (.int _) i)=>match cm s x with
    | some (.af f (.list τ) l)=>match decEq (kq P e) (some (S.sz τ)) with
     | isTrue _=>(idx l i).bind fun a=>k (.ptr f τ a) none
     | isFalse _=>none
    | some (.aO h τ)=>match decEq (kq P e) (some (S.sz τ)) with
     | isTrue _=>match aw s.bg h with
      | some (.aT _ _ _ τ' l)=>match decEq τ' τ with
       | isTrue _=>(idx l i).bind fun a=>k (.gF h τ i.toNat 0) (some ⟨τ',a⟩)
       | isFalse _=>none
      | some (.deep _ _ _ _ τ' a)=>(bq (0≤i∧i<(rO τ' a:Int))).bind fun _=>k (.gF h τ i.toNat 0) none
      | _=>none
     | isFalse _=>none
    | some (.sub h τ o n)=>match decEq (kq P e) (some (S.sz τ)) with
     | isTrue _=>match aw s.bg h with
      | some (.aT _ _ _ τ' l)=>match decEq τ' τ with
       | isTrue _=>(bq (0≤i∧i<(n:Int))).bind fun _=>(l[o+i.toNat]?).bind fun a=>k (.gF h τ (o+i.toNat) 0) (some ⟨τ',a⟩)
       | isFalse _=>none
      | some (.box _ _ _)=>(bq (0≤i∧i<(n:Int))).bind fun _=>k (.gF h τ (o+i.toNat) 0) none
      | _=>none
     | isFalse _=>none
    | some (.ks h τ j n)=>match decEq (kq P e) (some (S.sz τ)) with
     | isTrue _=>(bq (0≤i∧i<(n:Int))).bind fun _=>k (.kp h τ j i.toNat) none
     | isFalse _=>none
    | _=>none
   | _=>none
  | some (.array n e)=>match cm s y with
   | some (.af _ (.int _) i)=>match cm s x with
    | some (.loc h off)=>match P.underlying e with
     | some (.int ki)=>match decEq (kq P e) (some 1) with
      | isTrue _=>(bq (0≤i∧i<(n:Int))).bind fun _=>k (.gF h (.int ki) i.toNat off) none
      | isFalse _=>none
     | _=>none
    | _=>none
   | _=>none
  | _=>none
 | .index t x y=>match P.underlying t with
  | some .string=>match cm s x with
   | some (.af _ .str b)=>match cm s y with
    | some (.af _ (.int _) i)=>(Ow b i).bind fun c=>k (.af true (.int .u8) (c.toNat:Int)) none
    | _=>none
   | _=>none
  | _=>none
 | .slice t x lo hi none=>match PJ s x lo hi with
  | true=>M9 P s t x lo hi fun v=>k v none
  | false=>match cm s x with
   | some vx=>match ph s lo with
    | some vl=>match ph s hi with
     | some vh=>M8 s.ln t P vx vl vh fun v=>k v none
     | none=>none
    | none=>none
   | none=>none
 | .slice t x (some lo) (some hi) (some mx)=>Na P s t x lo hi mx fun v=>k v none
 | .makeFunc (.func f) first caps=>match first.toList with
  | []=>match rP s caps.toList with
   | some vs=>k (.aM f vs) none
   | none=>none
  | _=>none
 | .nilCheck x=>match cm s x with
  | some v=>match v with
   | .loc _ _=>k v none
   | .gF _ _ _ _=>k v none
   | .ptr _ _ _=>k v none
   | .aM _ _=>k v none
   | .kp _ _ _ _=>k v none
   | .fA b h τ i j=>(bq (b=false)).bind fun _=>k (.kp h τ i j) none
   | _=>none
  | none=>none
 | .call c=>match c.callee with
  | .builtin .len=>match c.args.toList,c.argTypes.toList with
   | [x],[t]=>match P.underlying t with
    | some (.slice _)=>match cm s x with
     | some v=>match Kp s v with
      | some n=>k (.af true (.int .i64) n) none
      | none=>none
     | none=>none
    | some .string=>match cm s x with
     | some (.af _ .str b)=>k (.af true (.int .i64) (b.size:Int)) none
     | _=>none
    | _=>none
   | _,_=>none
  | .builtin .min=>match c.args.toList with
   | [x,y]=>match cm s x,cm s y with
    | some (.af _ (.int ki) a),some (.af _ (.int _) b)=>k (.af true (.int ki) (if b<a then b else a)) none
    | _,_=>none
   | _=>none
  | .builtin .max=>match c.args.toList with
   | [x,y]=>match cm s x,cm s y with
    | some (.af _ (.int ki) a),some (.af _ (.int _) b)=>k (.af true (.int ki) (if b>a then b else a)) none
    | _,_=>none
   | _=>none
  | _=>none
 | .build t parts=>match P.underlying t with
  | some (.struct fs)=>match (P.info? t).bind (·.zero) with
   | some z=>match fs.toList.mapM (fun f=>(P.info? f.type).map fun i=>(f.offset,i.size)) with
    | some places=>match JA s parts.toList with
     | some vs=>match E0 places (z.cells.toList.map uf) vs with
      | some out=>k (.agg out) none
      | none=>none
     | none=>none
    | none=>none
   | none=>none
  | _=>none
 | _=>none
def MW (s:ah S) (v:TV S):Option (bo S.α)→Prop
 | none=>True
 | some x=>∃h i bM m f τ l a,v=.gF h τ i 0∧aw s.bg h=some (.aT bM m f τ l)∧x=⟨τ,a⟩∧l[i]?=some a
def ah.AE (s:ah S) (d:Nat) (v:TV S):Option (bo S.α)→ah S
 | none=>s.put d v
 | some x=>match v with
  | .gF h _ _ _=>{s with fr:=(d,v)::s.fr,last:=(d,h,x)::F7 d s.last}
  | _=>s.put d v
theorem C9 (s:ah S) (d:Nat) (v:TV S) (x:Option (bo S.α)):(s.AE d v x).er=s.er.put d (v.er s.ln):=by
 cases x with
 | none=>rfl
 | some x=>cases v <;> rfl
theorem rB (s:ah S) (d:Nat) (v:TV S) (x:Option (bo S.α)):bz s (s.AE d v x):=by
 cases x with
 | none=>exact⟨rfl,rfl,rfl⟩
 | some x=>cases v <;> exact⟨rfl,rfl,rfl⟩
theorem C8 {s:ah S}(hl:aY s) (d:Nat){v:TV S}{x:Option (bo S.α)}(h:MW s v x):aY (s.AE d v x):=by
 cases x with
 | none=>exact hl.put d v
 | some x=>
  obtain⟨hh,i,bM,m,f,τ,l,a,e1,e2,e3,e4⟩:=h
  subst e1
  intro d' h' x' hm
  rcases aX.1 hm with e | hm
  ·cases e
   exact⟨i,bM,m,f,τ,l,a,by simp only[ah.AE,ah.bW,bx,bc,aG,cond_true],e2,e3,e4⟩
  ·obtain⟨i',ety',m',f',τ',l',a',q1,q2⟩:=hl.put d (.gF hh τ i 0) d' h' x' hm
   exact⟨i',ety',m',f',τ',l',a',q1,q2⟩
section
variable {P:Program}{s:ah S}{dst:Option Tmp}{ty:TypeId}{pos:String}{after:Array Edge}{guard:Option (Nat×Bool)}
theorem l4 {h:Nat}{e:TypeId}{m f:Bool}{τ:Ty}{l:List (S.D τ)}(ho:aw s.bg h=some (.aT e m f τ l)):s.ln h=l.length:=by
 unfold ah.ln bZ
 rw[ho];rfl
theorem IU {h:Nat}{e:TypeId}{m f:Bool}{dk:Dk}{τ:Ty}{a:S.D τ}(ho:aw s.bg h=some (.deep e m f dk τ a)):s.ln h=rO τ a:=by
 unfold ah.ln bZ
 rw[ho];rfl
theorem Dq {v:TV S}{n:Int}(h:Kp s v=some n):Kq (v.er s.ln)=some n:=by
 unfold Kp at h
 split at h
 ·rename_i f τ l
  cases h
  cases f <;> rfl
 ·split at h
  ·rename_i ho
   cases h
   show some ((s.ln _:Nat):Int)=_
   rw[l4 ho]
  ·rename_i ho
   cases h
   show some ((s.ln _:Nat):Int)=_
   rw[IU ho]
  ·cases h
 ·cases h;rfl
 ·cases h;rfl
 ·cases h;rfl
 ·cases h
theorem zg {α:Type}{a:Array α}{x:α}(h:a.toList=[x]):a=#[x]:=by cases a;simp at h;subst h;rfl
theorem l8 {α:Type}{a:Array α}{x y:α}(h:a.toList=[x,y]):a=#[x,y]:=by cases a;simp at h;subst h;rfl
theorem Iq {α:Type}{a:Array α}(h:a.toList=[]):a=#[]:=by cases a;simp at h;subst h;rfl
theorem My {τ:Ty}{l:List (S.D τ)}{i:Int}{a:S.D τ}(h:idx l i=some a):((List.flatMap (aK S τ) l).drop (i.toNat*S.sz τ)).take (S.sz τ)=aK S τ a:=
 @A7 _ (jA S τ) _ _ _ h
theorem PO {t e:TypeId}{x y:Operand}{f:Bool}{τ:Ty}{l:List (S.D τ)}{ki:IntKind}{fi:Bool}{i:Int}{a:S.D τ}(hx:cm s x=some (.af f (.list τ) l)) (hy:cm s y=some (.af fi (.int ki) i))
  (hu:P.underlying t=some (.slice e)) (hz:kq P e=some (S.sz τ)) (ha:idx l i=some a):
  PY P s.er ⟨dst,.indexAddr t x y,ty,pos,after,guard⟩ ((TV.ptr f τ a:TV S).er s.ln):=by
 obtain⟨h0,h1,h2⟩:=tw ha
 have e0:=bf hx
 rw[Cu,←My ha]
 refine PY.rw (PY.index (g':=Da f ((List.flatMap (aK S τ) l).drop (i.toNat*S.sz τ))) (n:=l.length) e0 (jg hy) ?_ h0 h1 hu (dw hz)) (RW.ta _ _ _)
 cases f <;> rfl
theorem Pj {t:TypeId}{x:Operand}{lo hi:Option Operand}{A:Type}{k:TV S→Option A}{r:A}(h:M9 P s t x lo hi k=some r):
  ∃v,PY P s.er ⟨dst,.slice t x lo hi none,ty,pos,after,guard⟩ (v.er s.ln)∧k v=some r:=by
 unfold M9 at h
 split at h
 ·split at h
  ·rename_i hu
   split at h
   ·rename_i hx
    split at h
    ·rename_i ho
     split at h
     ·rename_i e1 _
      subst e1
      split at h
      ·rename_i hz _
       split at h
       ·rename_i hlo
        split at h
        ·rename_i hhi
         obtain⟨u,hc,h⟩:=bind_some h
         obtain⟨c1,c2,c3⟩:=cj hc
         refine⟨_,?_,h⟩
         have a1:=jg hlo
         have a2:=jg hhi
         rw[←nT c1] at a1
         rw[←nT (Int.le_trans c1 c2)] at a2
         have:=PY.sliceB (dst:=dst) (ty:=ty) (pos:=pos) (after:=after) (guard:=guard) (P:=P) (bf hx) (fJ ho) rfl a1 a2 hu (dw hz) (@aJ.pos _ (jA S _)) (Int.toNat_le_toNat c2) (by
          show _≤(List.flatMap (aK S _) _).length
          rw[show ∀l,(List.flatMap (aK S _) l).length=l.length*S.sz _ from @eO _ (jA S _),←dA]
          exact b5 _ c3)
         rw[←dA] at this
         exact this
        ·cases h
       ·cases h
      ·cases h
     ·cases h
    ·cases h
   ·cases h
  ·cases h
 ·cases h
theorem Pk {t:TypeId}{x lo hi mx:Operand}{A:Type}{k:TV S→Option A}{r:A}(h:Na P s t x lo hi mx k=some r):
  ∃v,PY P s.er ⟨dst,.slice t x (some lo) (some hi) (some mx),ty,pos,after,guard⟩ (v.er s.ln)∧k v=some r:=by
 unfold Na at h
 split at h
 ·rename_i hu
  split at h
  ·rename_i hz
   split at h
   ·rename_i vx hx
    split at h
    ·rename_i n hn
     split at h
     ·rename_i hlo
      split at h
      ·rename_i hhi
       split at h
       ·rename_i hmx
        obtain⟨u,hc,h⟩:=bind_some h
        obtain⟨c1,c2,c3,c4⟩:=cj hc
        refine⟨_,?_,h⟩
        have key:∃h' sz off,ev s.er x=some (.aO h' sz off n):=by
         unfold Qo at hn
         split at hn
         ·cases hn;exact⟨_,_,_,bf hx⟩
         ·cases hn;exact⟨_,_,_,bf hx⟩
         ·cases hn
        obtain⟨h',sz,off,hx'⟩:=key
        exact PY.slice3 hx' (jg hlo) (jg hhi) (jg hmx) hu (dw hz) c1 c2 c3 c4
       ·cases h
      ·cases h
     ·cases h
    ·cases h
   ·cases h
  ·cases h
 ·cases h
theorem Gg {op:Op}{A:Type}{k:TV S→Option (bo S.α)→Option A}{r:A}(h:LM P s op k=some r):
  ∃v x,PY P s.er ⟨dst,op,ty,pos,after,guard⟩ (v.er s.ln)∧MW s v x∧k v x=some r:=by
 unfold LM at h
 split at h
 ·split at h
  ·rename_i hv
   exact⟨_,none,PY.move (bf hv),trivial,h⟩
  ·cases h
 ·split at h
  ·rename_i hv
   exact⟨_,none,PY.assign (bf hv),trivial,h⟩
  ·cases h
 ·split at h
  ·rename_i hc
   split at h
   ·split at h
    ·rename_i hv
     exact⟨_,none,PY.RB (Hz hc) (bf hv),trivial,h⟩
    ·cases h
   ·split at h
    ·rename_i hv
     exact⟨_,none,PY.RC (Hz hc) (bf hv),trivial,h⟩
    ·cases h
  ·cases h
 ·split at h
  ·rename_i hx
   split at h
   ·rename_i b hb
    obtain⟨e1,⟨e,hu⟩,e2⟩:=LS hb s.ln
    subst e1
    split at h
    ·exact⟨_,none,PY.ptrEq (bf hx) e2 hu,trivial,h⟩
    ·exact⟨_,none,PY.RA (bf hx) e2 hu,trivial,h⟩
    ·cases h
   split at h
   ·rename_i hy
    obtain⟨v,h1,h2⟩:=Qd (dst:=dst) (ty:=ty) (pos:=pos) (after:=after) (guard:=guard) hx hy h
    exact⟨v,none,h1,trivial,h2⟩
   ·cases h
  ·cases h
 ·split at h
  ·split at h
   ·rename_i hx
    exact⟨_,none,PY.un (Hz hx) rfl,trivial,h⟩
   ·cases h
  ·split at h
   ·rename_i hx
    exact⟨_,none,PY.un (jg hx) rfl,trivial,h⟩
   ·cases h
  ·cases h
 ·split at h
  ·rename_i hu
   split at h
   ·rename_i hu'
    split at h
    ·rename_i hx
     exact⟨_,none,PY.conv (jg hx) hu hu',trivial,h⟩
    ·cases h
   ·rename_i hu'
    split at h
    ·rename_i hx
     exact⟨_,none,PY.RK (Jd hx) hu hu',trivial,h⟩
    ·cases h
   ·cases h
  ·cases h
 ·split at h
  ·rename_i l hx
   split at h
   ·rename_i v hv
    refine⟨v,none,PY.extract (bf hx) ?_,trivial,h⟩
    rw[cR,ay,hv];rfl
   ·cases h
  ·cases h
 ·split at h
  ·rename_i hx
   split at h
   ·rename_i hv
    exact⟨_,none,PT hx hv,trivial,h⟩
   ·cases h
  ·cases h
 ·split at h
  ·rename_i hx
   split at h
   ·rename_i hv
    exact⟨_,none,PU hx hv,trivial,h⟩
   ·cases h
  ·cases h
 ·split at h
  ·rename_i hu
   split at h
   ·rename_i hy
    split at h
    ·rename_i hx
     split at h
     ·rename_i hz _
      obtain⟨a,ha,h⟩:=bind_some h
      exact⟨_,none,PO hx hy hu hz ha,trivial,h⟩
     ·cases h
    ·rename_i hh τ hx
     split at h
     ·rename_i hz _
      split at h
      ·rename_i e m f τ' l ho
       split at h
       ·rename_i e' _
        subst e'
        obtain⟨a,ha,h⟩:=bind_some h
        obtain⟨h0,h1,h2⟩:=tw ha
        refine⟨_,some ⟨τ',a⟩,?_,⟨hh,_,e,m,f,τ',l,a,rfl,ho,rfl,h2⟩,h⟩
        refine PY.index (n:=s.ln hh) (bf hx) (jg hy) ?_ h0 (by rw[l4 ho];exact h1) hu (dw hz)
        show(if S.sz τ'=S.sz τ' then _ else _)=_
        rw[if_pos rfl,bQ];rfl
       ·cases h
      ·rename_i e m f dk τ' a ho
       obtain⟨u,hc,h⟩:=bind_some h
       obtain⟨c1,c2⟩:=cj hc
       refine⟨_,none,?_,trivial,h⟩
       refine PY.index (n:=s.ln hh) (bf hx) (jg hy) ?_ c1 (by rw[IU ho];exact c2) hu (dw hz)
       show(if S.sz τ=S.sz τ then _ else _)=_
       rw[if_pos rfl,bQ];rfl
      ·cases h
     ·cases h
    ·rename_i hh τ o n hx
     split at h
     ·rename_i hz _
      split at h
      ·rename_i e m f τ' l ho
       split at h
       ·rename_i e' _
        subst e'
        obtain⟨u,hc,h⟩:=bind_some h
        obtain⟨c1,c2⟩:=cj hc
        obtain⟨a,ha,h⟩:=bind_some h
        refine⟨_,some ⟨τ',a⟩,?_,⟨hh,_,e,m,f,τ',l,a,rfl,ho,rfl,ha⟩,h⟩
        refine PY.index (n:=n) (bf hx) (jg hy) ?_ c1 c2 hu (dw hz)
        show(if S.sz τ'=S.sz τ' then _ else _)=_
        rw[if_pos rfl]
        show _=some (G.loc hh ((o+_)*S.sz τ'+0),n)
        rw[dA,di]
       ·cases h
      ·obtain⟨u,hc,h⟩:=bind_some h
       obtain⟨c1,c2⟩:=cj hc
       refine⟨_,none,?_,trivial,h⟩
       refine PY.index (n:=n) (bf hx) (jg hy) ?_ c1 c2 hu (dw hz)
       show(if S.sz τ=S.sz τ then _ else _)=_
       rw[if_pos rfl]
       show _=some (G.loc hh ((o+_)*S.sz τ+0),n)
       rw[dA,di]
      ·cases h
     ·cases h
    ·rename_i hh τ j n hx
     split at h
     ·rename_i hz _
      obtain⟨u,hc,h⟩:=bind_some h
      obtain⟨c1,c2⟩:=cj hc
      refine⟨_,none,?_,trivial,h⟩
      refine PY.index (n:=n) (bf hx) (jg hy) ?_ c1 c2 hu (dw hz)
      show(if S.sz τ=S.sz τ then _ else _)=_
      rw[if_pos rfl,bQ];rfl
     ·cases h
    ·cases h
   ·cases h
  ·rename_i n e hu
   split at h
   ·rename_i hy
    split at h
    ·rename_i hh off hx
     split at h
     ·rename_i ki hki
      split at h
      ·rename_i hz _
       obtain⟨u,hc,h⟩:=bind_some h
       obtain⟨c1,c2⟩:=cj hc
       refine⟨_,none,?_,trivial,h⟩
       have:=PY.NM (P:=P) (dst:=dst) (ty:=ty) (pos:=pos) (after:=after) (guard:=guard) (bf hx) (jg hy) c1 c2 hu (dw hz)
       simpa[TV.er,eB.sz] using this
      ·cases h
     ·cases h
    ·cases h
   ·cases h
  ·cases h
 ·split at h
  ·rename_i hu
   split at h
   ·rename_i hx
    split at h
    ·rename_i hy
     obtain⟨c,hc,h⟩:=bind_some h
     obtain⟨h0,h1⟩:=MP hc
     exact⟨_,none,PY.M6 (Jd hx) (jg hy) h0 h1 hu,trivial,h⟩
    ·cases h
   ·cases h
  ·cases h
 ·split at h
  ·obtain⟨v,h1,h2⟩:=Pj (dst:=dst) (ty:=ty) (pos:=pos) (after:=after) (guard:=guard) h
   exact⟨v,none,h1,trivial,h2⟩
  ·split at h
   ·rename_i hx
    split at h
    ·rename_i hl
     split at h
     ·rename_i hh
      obtain⟨v,h1,h2⟩:=Ph (dst:=dst) (ty:=ty) (pos:=pos) (after:=after) (guard:=guard) hx hl hh h
      exact⟨v,none,h1,trivial,h2⟩
     ·cases h
    ·cases h
   ·cases h
 ·obtain⟨v,h1,h2⟩:=Pk (dst:=dst) (ty:=ty) (pos:=pos) (after:=after) (guard:=guard) h
  exact⟨v,none,h1,trivial,h2⟩
 ·split at h
  ·rename_i hf
   have:=Iq hf
   subst this
   split at h
   ·rename_i vs hv
    exact⟨_,none,PY.makeFunc (kV hv).1,trivial,h⟩
   ·cases h
  ·cases h
 ·split at h
  ·rename_i v hx
   split at h
   ·exact⟨_,none,PY.nilCheck (bf hx) rfl,trivial,h⟩
   ·exact⟨_,none,PY.nilCheck (bf hx) rfl,trivial,h⟩
   ·rename_i f τ a
    exact⟨_,none,PY.nilCheck (bf hx) (by cases f <;> rfl),trivial,h⟩
   ·exact⟨_,none,PY.nilCheck (bf hx) rfl,trivial,h⟩
   ·exact⟨_,none,PY.Ec (bf hx),trivial,h⟩
   ·rename_i b hh τ i j
    obtain⟨u,hc,h⟩:=bind_some h
    obtain rfl:=cj hc
    exact⟨_,none,PY.Ec (bf hx),trivial,h⟩
   ·cases h
  ·cases h
 ·rename_i c
  obtain⟨cal,args,ats⟩:=c
  dsimp only at h
  split at h
  ·split at h
   ·rename_i h1 h2
    have h1:=zg h1
    have h2:=zg h2
    subst h1;subst h2
    split at h
    ·rename_i hu
     split at h
     ·rename_i hx
      split at h
      ·rename_i hn
       exact⟨_,none,PY.len (bf hx) (Dq hn) hu,trivial,h⟩
      ·cases h
     ·cases h
    ·rename_i hu
     split at h
     ·rename_i hx
      exact⟨_,none,PY.Sc (Jd hx) hu,trivial,h⟩
     ·cases h
    ·cases h
   ·cases h
  ·split at h
   ·rename_i h1
    have h1:=l8 h1
    subst h1
    split at h
    ·rename_i hx hy
     exact⟨_,none,PY.min2 (jg hx) (jg hy),trivial,h⟩
    ·cases h
   ·cases h
  ·split at h
   ·rename_i h1
    have h1:=l8 h1
    subst h1
    split at h
    ·rename_i hx hy
     exact⟨_,none,PY.max2 (jg hx) (jg hy),trivial,h⟩
    ·cases h
   ·cases h
  ·cases h
 ·split at h
  ·rename_i hu
   split at h
   ·rename_i z hz
    split at h
    ·rename_i places hp
     split at h
     ·rename_i vs hv
      split at h
      ·rename_i out ho
       refine⟨.agg out,none,PY.build (z:=z) hu ?_ hp (Ir hv) ?_,trivial,h⟩
       ·cases hq:P.info? _ with
        | none=>rw[hq] at hz;cases hz
        | some iq=>rw[hq] at hz;exact congrArg some hz
       ·have:=FI s.ln places ho
        rw[cR] at this
        rw[←this]
        congr 1
        rw[gd]
        exact ez fun v _=>(Fx _ v).symm
      ·cases h
     ·cases h
    ·cases h
   ·cases h
  ·cases h
 ·cases h
end
end
end Go.DN
/-
 DN,part F:loads.
-/
namespace Go.DN
open Go.AM
section
variable {S:eB}
def Km (x:Operand) (h:Nat):List (Nat×Nat×bo S.α)→Option (bo S.α)
 | []=>none
 | (d,h',y)::r=>match x with
  | .tmp t=>bif Nat.beq d t&&Nat.beq h' h then some y else Km x h r
  | _=>none
theorem GZ {x:Operand}{h:Nat}{y:bo S.α}:∀{l:List (Nat×Nat×bo S.α)},Km x h l=some y→∃t,x=.tmp t∧(t,h,y)∈l
 | [],e=>by cases e
 | (d,h',y')::r,e=>by
  simp only[Km] at e
  split at e
  ·rename_i t
   cases hb:(Nat.beq d t&&Nat.beq h' h) with
   | true=>
    rw[hb] at e
    cases e
    simp only[ai] at hb
    obtain⟨h1,h2⟩:=hb
    have h1:=aa h1
    have h2:=aa h2
    subst h1;subst h2
    exact⟨_,rfl,av⟩
   | false=>
    rw[hb] at e
    obtain⟨t',h1,h2⟩:=GZ e
    exact⟨t',h1,ao _ h2⟩
  ·cases e
def Cw (s:ah S) (x:Operand) (h:Nat){τ:Ty}(l:List (S.D τ)) (i:Nat){A:Type}(k:bo S.α→Option A):Option A:=
 match Km x h s.last with
 | some y=>k y
 | none=>(l[i]?).bind fun a=>k ⟨τ,a⟩
def Dy {A:Type}:(τ:Ty)→S.D τ→Ty→Nat→(Ty→Nat→Option A)→Option A
 | .list (.list t),ll,τ,i,k=>match decEq τ (.list t) with
  | isTrue _=>(ll[i]?).bind fun r=>k t (List.length r)
  | isFalse _=>none
 | _,_,_,_,_=>none
theorem KF {A:Type}{r0:A}:∀{τ':Ty}{a:S.D τ'}{τ:Ty}{i:Nat}{k:Ty→Nat→Option A},Dy τ' a τ i k=some r0→
  ∃t n gs,τ=.list t∧(dD τ' a).1=S.sz t∧(dD τ' a).2[i]?=some (n,gs)∧k t n=some r0
 | .list (.list t),ll,τ,i,k,h=>by
  simp only[Dy] at h
  split at h
  ·rename_i e _
   obtain⟨r,h1,h2⟩:=bind_some h
   exact⟨t,List.length r,_,e,rfl,by show(List.map _ ll)[i]?=_;rw[ay,h1];rfl,h2⟩
  ·cases h
 | .list (.int _),_,_,_,_,h=>by cases h
 | .list .bool,_,_,_,_,h=>by cases h
 | .list .str,_,_,_,_,h=>by cases h
 | .list (.st _),_,_,_,_,h=>by cases h
 | .int _,_,_,_,_,h=>by cases h
 | .bool,_,_,_,_,h=>by cases h
 | .str,_,_,_,_,h=>by cases h
 | .st _,_,_,_,_,h=>by cases h
 | .map,_,_,_,_,h=>by cases h
 | .list .map,_,_,_,_,h=>by cases h
def A5 {A:Type}:(τ:Ty)→S.D τ→Ty→Nat→Nat→(TV S→Option A)→Option A
 | .list (.list t),ll,τ,i,j,k=>match t.fV with
  | true=>match decEq τ t with
   | isTrue _=>(ll[i]?).bind fun r=>(r[j]?).bind fun x=>k (.af true t x)
   | isFalse _=>none
  | false=>none
 | _,_,_,_,_,_=>none
theorem Im {A:Type}{r0:A}:∀{τ':Ty}{a:S.D τ'}{τ:Ty}{i j:Nat}{k:TV S→Option A},A5 τ' a τ i j k=some r0→
  ∃(t:Ty) (x:S.D t) (n:Nat) (gs:List G),τ=t∧t.fV=true∧(dD τ' a).2[i]?=some (n,gs)∧gs[j*S.sz t]?=some (dy S t x)∧k (.af true t x)=some r0
 | .list (.list t),ll,τ,i,j,k,h=>by
  simp only[A5] at h
  split at h
  ·rename_i hs
   split at h
   ·rename_i e _
    obtain⟨r,h1,h⟩:=bind_some h
    obtain⟨x,h2,h⟩:=bind_some h
    have hst:t.fL=false:=by cases t <;> first | rfl | cases hs
    refine⟨t,x,List.length r,List.flatMap (aK S t) r,e,hs,by show(List.map _ ll)[i]?=_;rw[ay,h1];rfl,?_,h⟩
    have:=@oK _ (jA S t) r j x h2 0 (By S t)
    exact this.trans (by show(aK S t x)[0]?=_;rw[jZ S hst];rfl)
   ·cases h
  ·cases h
 | .list (.int _),_,_,_,_,_,h=>by cases h
 | .list .bool,_,_,_,_,_,h=>by cases h
 | .list .str,_,_,_,_,_,h=>by cases h
 | .list (.st _),_,_,_,_,_,h=>by cases h
 | .int _,_,_,_,_,_,h=>by cases h
 | .bool,_,_,_,_,_,h=>by cases h
 | .str,_,_,_,_,_,h=>by cases h
 | .st _,_,_,_,_,_,h=>by cases h
 | .map,_,_,_,_,_,h=>by cases h
 | .list .map,_,_,_,_,_,h=>by cases h
def jJ (ki:IntKind):List (TV S)→List Int
 | .af _ (.int k) a::r=>match decEq k ki with
  | isTrue _=>a::jJ ki r
  | isFalse _=>[]
 | _=>[]
theorem uy {ki:IntKind}:∀{cs:List (TV S)}{i:Nat}{a:Int},(jJ ki cs)[i]?=some a→∃f,cs[i]?=some (.af f (.int ki) a)
 | [],i,a,h=>by simp[jJ] at h
 | v::r,i,a,h=>by
  unfold jJ at h
  split at h
  ·rename_i f k b r' e
   cases e
   split at h
   ·rename_i e _
    subst e
    cases i with
    | zero=>cases h;exact⟨f,rfl⟩
    | succ i=>exact uy (cs:=r) (i:=i) (by simpa using h)
   ·simp at h
  ·simp at h
def Cg (q:IntKind) (h0:Nat):List (TV S)→List (Nat×Nat)
 | .ks h τ z n::r=>match decEq τ (.int q) with
  | isTrue _=>match decEq h h0 with
   | isTrue _=>(z,n)::Cg q h0 r
   | isFalse _=>[]
  | isFalse _=>[]
 | _=>[]
theorem IW {q:IntKind}{h0:Nat}:∀{cs:List (TV S)}{i:Nat}{a:Nat×Nat},(Cg q h0 cs)[i]?=some a→cs[i]?=some (.ks h0 (.int q) a.1 a.2)
 | [],i,a,h=>by simp[Cg] at h
 | v::r,i,a,h=>by
  unfold Cg at h
  split at h
  ·rename_i h1 τ z n r' e
   cases e
   split at h
   ·rename_i e _
    subst e
    split at h
    ·rename_i e _
     subst e
     cases i with
     | zero=>cases h;rfl
     | succ i=>exact IW (cs:=r) (i:=i) (by simpa using h)
    ·simp at h
   ·simp at h
  ·simp at h
def Sv:List (TV S)→Option Nat
 | .ks h _ _ _::_=>some h
 | _=>none
def oy (i:Nat):List (Nat×List Int)→Option (List Int)
 | []=>none
 | (x,l)::r=>match l with
  | []=>oy i r
  | a::l'=>bif Nat.beq x i then some (a::l') else oy i r
def wH (i:Nat):List bP→Option (List Int)
 | []=>none
 | e::r=>match oy i e.f with
  | some l=>some l
  | none=>wH i r
def nA (es:List bP) (z j:Nat):Option Int:=(wH z es).bind fun l=>l[j]?
theorem C5 (q:IntKind) (i:Nat):∀f:List (Nat×List Int),yb i (f.map fun p=>(p.1,gA q p.2))=(oy i f).map (gA q)
 | []=>rfl
 | (x,l)::r=>by
  cases l with
  | nil=>exact C5 q i r
  | cons a l'=>
   show(bif Nat.beq x i then some (gA q (a::l')) else yb i (r.map _))=(bif Nat.beq x i then some (a::l') else oy i r).map (gA q)
   cases Nat.beq x i with
   | true=>rfl
   | false=>exact C5 q i r
theorem IE (q:IntKind) (i:Nat):∀es:List bP,gv i (es.map (bP.me q))=(wH i es).map (gA q)
 | []=>rfl
 | e::r=>by
  simp only[aH,gv,wH]
  rw[show(bP.me q e).f=e.f.map fun p=>(p.1,gA q p.2) from rfl,C5]
  cases oy i e.f with
  | some l=>rfl
  | none=>exact IE q i r
def Kt (q:IntKind):TV S→Option (Int×Int)
 | .agg [.af _ (.int k1) a,.af _ (.int k2) b]=>match decEq k1 q with
  | isTrue _=>match decEq k2 q with
   | isTrue _=>some (a,b)
   | isFalse _=>none
  | isFalse _=>none
 | .af _ (.st n) x=>match S.cells n x with
  | [⟨.int k1,a⟩,⟨.int k2,b⟩]=>match decEq k1 q with
   | isTrue _=>match decEq k2 q with
    | isTrue _=>some (a,b)
    | isFalse _=>none
   | isFalse _=>none
  | _=>none
 | _=>none
theorem IZ {q:IntKind}{v:TV S}{a b:Int}(h:Kt q v=some (a,b)) (ln:Nat→Nat):v.er ln=.agg [.val (.int q a),.val (.int q b)]:=by
 unfold Kt at h
 split at h
 ·split at h
  ·split at h
   ·rename_i e1 _ _ e2 _
    subst e1;subst e2
    cases h
    simp only[TV.er,TV.er.go,qJ]
   ·cases h
  ·cases h
 ·rename_i f n x
  split at h
  ·rename_i e0
   split at h
   ·split at h
    ·rename_i e1 _ _ e2 _
     subst e1;subst e2
     cases h
     show G.agg ((aK S (.st n) x).map (dq f))=_
     rw[gq,e0]
     cases f <;> rfl
    ·cases h
   ·cases h
  ·cases h
 ·cases h
def E9 (P:Program) (kt:TypeId) (q:IntKind):Bool:=
 match P.underlying kt with
 | some (.struct fs)=>match fs.toList with
  | [f0,f1]=>match P.underlying f0.type with
   | some (.int q0)=>match P.underlying f1.type with
    | some (.int q1) => decide (f0.name ≠ "_") && (decide (f1.name ≠ "_") && (Nat.beq f0.offset 0 && (Nat.beq f1.offset 1 && (decide (q0 = q) && (decide (q1 = q) && !(P.stoodInHeld kt))))))
    | _=>false
   | _=>false
  | _=>false
 | _=>false
theorem Ha {P:Program}{kt:TypeId}{q:IntKind}(h:E9 P kt q=true):zd P kt q:=by
 unfold E9 at h
 split at h
 ·rename_i fs hu
  split at h
  ·rename_i f0 f1 hf
   split at h
   ·rename_i q0 h0
    split at h
    ·rename_i q1 h1
     simp only[ai,decide_eq_true_eq,a6] at h
     obtain⟨c1,c2,c3,c4,c5,c6,c7⟩:=h
     subst c5;subst c6
     refine⟨⟨f0,f1,?_,c1,c2,aa c3,aa c4,h0,h1⟩,c7⟩
     rw[hu]
     have:fs=#[f0,f1]:=by rw[←Array.toArray_toList (xs:=fs),hf]
     rw[this]
    ·cases h
   ·cases h
  ·cases h
 ·cases h
def gz:List bP→Int→Int→Option bP
 | [],_,_=>none
 | e::r,a,b=>bif decide (a=e.a)&&decide (b=e.b) then some e else gz r a b
def u3:List bP→Nat→Option bP
 | [],_=>none
 | e::r,t=>bif Nat.beq e.t t then some e else u3 r t
def il (es:List bP) (t j:Nat):Option (Nat×List Int):=(u3 es t).bind fun e=>e.f[j]?
def IQ (es:List bP) (a b:Int):Nat:=match gz es a b with | some e=>e.t | none=>0
def uq (es:List bP) (a b:Int):Bool:=match gz es a b with | some _=>false | none=>true
theorem zz (q:IntKind) (a b:Int):∀es:List bP,mh (es.map (bP.me q)) (a,b)=(gz es a b).map (bP.me q)
 | []=>rfl
 | e::r=>by
  simp only[aH,mh,ot,gz]
  by_cases h1:a=e.a
  ·by_cases h2:b=e.b
   ·simp[bP.me,h1,h2]
   ·have:=zz q a b r
    simp only[mh] at this
    simp[bP.me,h2,Prod.ext_iff] at this⊢
    exact this
  ·have:=zz q a b r
   simp only[mh] at this
   simp[bP.me,h1,Prod.ext_iff] at this⊢
   exact this
theorem Fz (q:IntKind) (t:Nat):∀es:List bP,ve (es.map (bP.me q)) t=(u3 es t).map (bP.me q)
 | []=>rfl
 | e::r=>by
  simp only[aH,ve,ot,u3]
  cases h:Nat.beq e.t t with
  | true=>simp[bP.me,h]
  | false=>
   have:=Fz q t r
   simp only[ve] at this
   simp[bP.me,h] at this⊢
   exact this
theorem K4 {P:Program}{t:TypeId}{z:Value}(h:(P.info? t).bind (·.zero)=some z):∀w,(zeroValue t).run P w=.ok z w:=by
 intro w
 cases hi:P.info? t with
 | none=>rw[hi] at h;cases h
 | some i=>
  rw[hi] at h
  have h:i.zero=some z:=h
  simp[zeroValue,typeInfo,hi,h]
theorem IR {es:List bP}{t j z:Nat}{l:List Int}(h:il es t j=some (z,l)) (q:IntKind):∃e,ve (es.map (bP.me q)) t=some e∧e.f[j]?=some (z,gA q l):=by
 obtain⟨e,h1,h2⟩:=bind_some h
 refine⟨bP.me q e,by rw[Fz,h1];rfl,?_⟩
 show(e.f.map fun p=>(p.1,gA q p.2))[j]?=_
 rw[ay,h2];rfl
theorem AY (q:IntKind) (l:List Int):(gA q l).length=l.length:=by unfold gA;simp
def Kk {A:Type}(P:Program) (W:List Nat) (s:ah S) (t:TypeId) (x y:Operand) (k:TV S→Option A):Option A:=
 match cm s x with
 | some (.mp h)=>match W.contains h with
  | true=>none
  | false=>match aw s.bg h with
   | some (.deep _ _ _ (.map q _ _) .map d)=>match cm s y with
    | some vy=>match Kt q vy with
     | some (a,b)=>match P.underlying t with
      | some (.map kt et)=>match E9 P kt q with
       | true=>match (P.info? et).bind (·.zero) with
        | some (.pointer none)=>k (.bj [.fA (uq d.es a b) h (.list (.int q)) (IQ d.es a b) 0,.af true .bool (!(uq d.es a b))])
        | _=>none
       | false=>none
      | _=>none
     | none=>none
    | none=>none
   | _=>none
 | _=>none
def Ip (P:Program) (W:List Nat) (s:ah S) (op:Op){A:Type}(k:TV S→Option A):Option A:=
 match op with
 | .load t x=>match DM P t with
  | some false=>match cm s x with
   | some (.ptr f τ a)=>match τ.fL with
    | false=>k (.af f τ a)
    | true=>none
   | some (.loc h off)=>match W.contains h with
    | true=>none
    | false=>match aw s.bg h with
     | some (.box _ _ cs)=>match cs[off]? with
      | some v=>k v
      | none=>none
     | _=>none
   | some (.gF h τ i j)=>match W.contains h with
    | true=>none
    | false=>match aw s.bg h with
     | some (.aT _ _ f τ' l)=>match decEq τ' τ with
      | isTrue _=>Cw s x h l i fun y=>match y with
       | ⟨.st n,a⟩=>match (S.cells n a)[j]? with
        | some z=>k (.af f z.τ z.a)
        | none=>none
       | y=>match j with
        | 0=>k (.af f y.τ y.a)
        | _=>none
      | isFalse _=>none
     | some (.deep _ _ _ (.dG _) τ' a)=>match j with
      | 0=>Dy τ' a τ i fun t n=>k (.ks h t i n)
      | _=>none
     | some (.box _ _ cs)=>match τ with
      | .int ki=>(bq (i<(jJ ki (cs.drop j)).length)).bind fun _=>k (.af true (.int ki) ((jJ ki (cs.drop j)).getD i 0))
      | .list (.int q)=>match Sv (cs.drop j) with
       | some h1=>(bq (i<(Cg q h1 (cs.drop j)).length)).bind fun _=>k (.ks h1 (.int q) ((Cg q h1 (cs.drop j)).getD i (0,0)).1 ((Cg q h1 (cs.drop j)).getD i (0,0)).2)
       | none=>none
      | _=>none
     | _=>none
   | some (.kp h τ i j)=>match W.contains h with
    | true=>none
    | false=>match aw s.bg h with
     | some (.deep _ _ _ (.dG _) τ' a)=>A5 τ' a τ i j k
     | some (.deep _ _ _ (.map q _ _) .map d)=>match τ with
      | .list _=>(il d.es i j).bind fun p=>k (.ks h (.int q) p.1 (List.length p.2))
      | .int q'=>match decEq q' q with
       | isTrue _=>(nA d.es i j).bind fun x=>k (.af true (.int q) x)
       | isFalse _=>none
      | _=>none
     | _=>none
   | _=>none
  | some true=>match kq P t with
   | some z=>match cm s x with
    | some (.ptr f (.st n) a)=>match Nat.beq z (S.dg n).length with
     | true=>k (.af f (.st n) a)
     | false=>none
    | some (.loc h off)=>match W.contains h with
     | true=>none
     | false=>match aw s.bg h with
      | some (.box _ _ cs)=>match Nat.ble (off+z) cs.length with
       | true=>k (.agg ((cs.drop off).take z))
       | false=>none
      | _=>none
    | some (.gF h τ i j)=>match W.contains h with
     | true=>none
     | false=>match aw s.bg h with
      | some (.aT _ _ f τ' l)=>match decEq τ' τ with
       | isTrue _=>match j with
        | 0=>match Nat.beq z (S.sz τ) with
         | true=>match τ with
          | .st _=>Cw s x h l i fun y=>k (.af f y.τ y.a)
          | _=>none
         | false=>none
        | j+1=>none
       | isFalse _=>none
      | _=>none
    | _=>none
   | none=>none
  | none=>none
 | .lookup t x y true=>Kk P W s t x y k
 | _=>none
section
variable {P:Program}{W:List Nat}{s:ah S}{dst:Option Tmp}{ty:TypeId}{pos:String}{after:Array Edge}{guard:Option (Nat×Bool)}
theorem Ba {x:Operand}{h i:Nat}{bM:TypeId}{m f:Bool}{τ:Ty}{l:List (S.D τ)}{A:Type}{k:bo S.α→Option A}{r:A}(hl:aY s) (hx:∃j,cm s x=some (.gF h τ i j)) (ho:aw s.bg h=some (.aT bM m f τ l))
  (hk:Cw s x h l i k=some r):∃a,l[i]?=some a∧k ⟨τ,a⟩=some r:=by
 unfold Cw at hk
 split at hk
 ·rename_i y hla
  obtain⟨t,e0,hm⟩:=GZ hla
  subst e0
  obtain⟨i',ety',m',f',τ',l',a,e1,e2,e3,e4⟩:=hl t h y hm
  rw[ho] at e2
  cases e2
  obtain⟨j,hx⟩:=hx
  simp only[cm] at hx
  rw[e1] at hx
  cases hx
  subst e3
  exact⟨a,e4,hk⟩
 ·exact bind_some hk
theorem cO {h:Nat}{o:TO S}(ho:aw s.bg h=some o):aq s.er.st h=some (o.er s.ln):=fJ ho
theorem IJ (bM:TypeId) (m f:Bool) (τ:Ty) (l:List (S.D τ)) (ln:Nat→Nat){g:G}(hg:g.one=true) (hf:∀g',g≠.fr g'):((TO.aT bM m f τ l:TO S).er ln).out g=dq f g:=by
 cases g <;> first | rfl | (cases f <;> rfl)
theorem EH (τ:Ty) (a:S.D τ):∀g∈aK S τ a,∀g',g≠.fr g':=by
 intro g hg g' e
 subst e
 cases τ with
 | st n=>
  rw[gq] at hg
  obtain⟨x,hx,e⟩:=iV.1 hg
  have h2:=jP n a _ hx
  obtain⟨τx,ax⟩:=x
  cases τx with
  | st _=>cases h2
  | _=>cases e
 | _=>simp[aK,A8] at hg
theorem Ny {t:TypeId}{x y:Operand}{A:Type}{k:TV S→Option A}{r:A}(h:Kk P W s t x y k=some r):
  ∃v,fw P W s.er ⟨dst,.lookup t x y true,ty,pos,after,guard⟩ (v.er s.ln)∧k v=some r:=by
 unfold Kk at h
 split at h
 ·rename_i hh hx
  split at h
  ·cases h
  ·rename_i hW
   split at h
   ·rename_i e m f q kty tty d ho
    split at h
    ·rename_i vy hy
     split at h
     ·rename_i a b hk
      split at h
      ·rename_i kt et hu
       split at h
       ·rename_i hb
        split at h
        ·rename_i hz
         refine⟨_,?_,h⟩
         have hy:=bf hy
         rw[IZ hk] at hy
         have:=YL.QR (P:=P) (W:=W) (dst:=dst) (ty:=ty) (pos:=pos) (after:=after) (guard:=guard) (ky:=(a,b)) (q:=q) (kty:=kty) (tty:=tty) (n:=d.n) (pd:=vo q d.pd) (es:=d.es.map (bP.me q)) (bf hx) hy (cO ho) rfl hu (Ha hb) (K4 hz) hW
         rw[zz] at this
         have e5:(TV.bj [.fA (uq d.es a b) hh (.list (.int q)) (IQ d.es a b) 0,.af true .bool (!(uq d.es a b))]:TV S).er s.ln=.bj [match (gz d.es a b).map (bP.me q) with | some e=>.kp hh e.t 0 | none=>.val (.pointer none),.val (.bool ((gz d.es a b).map (bP.me q)).isSome)]:=by
          unfold uq IQ
          cases gz d.es a b <;> rfl
         rw[e5]
         exact this
        ·cases h
       ·cases h
      ·cases h
     ·cases h
    ·cases h
   ·cases h
 ·cases h
theorem Bs {op:Op}{A:Type}{k:TV S→Option A}{r:A}(hl:aY s) (h:Ip P W s op k=some r):
  ∃v,fw P W s.er ⟨dst,op,ty,pos,after,guard⟩ (v.er s.ln)∧k v=some r:=by
 unfold Ip at h
 split at h
 ·rename_i t x
  split at h
  ·rename_i ha
   split at h
   ·rename_i f τ a hx
    split at h
    ·rename_i hs
     refine⟨_,?_,h⟩
     rw[nH hs]
     have e0:=bf hx
     rw[Cu] at e0
     have e1:(aK S τ a)[0]?=some (dy S τ a):=by rw[jZ S hs];rfl
     cases f with
     | true=>exact YL.R5 e0 e1 (gJ ha) rfl
     | false=>exact YL.ptr e0 e1 (gJ ha)
    ·cases h
   ·rename_i hh off hx
    split at h
    ·cases h
    ·rename_i hW
     split at h
     ·rename_i e m cs ho
      split at h
      ·rename_i v hv
       refine⟨v,?_,h⟩
       refine YL.Kl (bf hx) (cO ho) ?_ (gJ ha) hW rfl
       show(TV.er.go s.ln cs)[off]?=_
       rw[cR,ay,hv];rfl
      ·cases h
     ·cases h
   ·rename_i hh τ i j hx
    split at h
    ·cases h
    ·rename_i hW
     split at h
     ·rename_i e m f τ' l ho
      split at h
      ·rename_i e1 _
       subst e1
       obtain⟨a,ha',h2⟩:=Ba hl ⟨j,hx⟩ ho h
       replace h:=h2
       clear h2
       have key:∀(g:G),(aK S τ' a)[j]?=some g→fw P W s.er ⟨dst,.load t x,ty,pos,after,guard⟩ (dq f g):=by
        intro g hg
        have hm:=ar hg
        refine YL.load (k:=(TO.aT e m f τ' l:TO S).er s.ln) (g:=g) (bf hx) (cO ho) ?_ (gJ ha) hW (IJ e m f τ' l _ (o8 S τ' a g hm) (EH τ' a g hm))
        have hj:j<S.sz τ':=by have:=(al.1 hg).1;rw[qH] at this;exact this
        have:=@oK _ (jA S τ') l i a ha' j hj
        show(List.flatMap (aK S τ') l)[i*S.sz τ'+j]?=_
        exact this.trans hg
       split at h
       ·rename_i n a' he
        cases he
        split at h
        ·rename_i z hz
         refine⟨_,?_,h⟩
         rw[nH (jP n _ z (ar hz))]
         exact key _ (by rw[gq,ay,hz];rfl)
        ·cases h
       ·rename_i hns
        split at h
        ·refine⟨_,?_,h⟩
         have hs:τ'.fL=false:=by
          cases τ' with
          | st n=>exact absurd rfl (hns n a)
          | _=>rfl
         rw[nH hs]
         exact key _ (by rw[jZ S hs];rfl)
        ·cases h
      ·cases h
     ·rename_i e m f kty τ' a ho
      split at h
      ·obtain⟨t',n,gs,e1,e2,e3,h2⟩:=KF h
       subst e1
       refine⟨_,?_,h2⟩
       have:=YL.Q5 (P:=P) (W:=W) (dst:=dst) (ty:=ty) (pos:=pos) (after:=after) (guard:=guard) (t:=t) (x:=x) (h:=hh) (i:=i) (by rw[bf hx];simp[TV.er,eB.sz]) (cO ho) rfl e3 (gJ ha) hW
       rw[e2] at this
       exact this
      ·cases h
     ·rename_i e m cs ho
      split at h
      ·rename_i ki
       obtain⟨_,hc,h⟩:=bind_some h
       have hc:=cj hc
       refine⟨_,?_,h⟩
       obtain⟨f,hv⟩:=uy (ag hc)
       rw[bi] at hv
       have:=YL.Kl (P:=P) (W:=W) (dst:=dst) (ty:=ty) (pos:=pos) (after:=after) (guard:=guard) (t:=t) (g:=.val (.int ki (jJ ki (cs.drop j))[i])) (bf hx) (cO ho) (by
        show(TV.er.go s.ln cs)[i*1+j]?=_
        rw[cR,ay,show i*1+j=j+i by omega,hv]
        exact congrArg some (qJ f ki _)) (gJ ha) hW rfl
       rw[aL,ag hc]
       exact this
      ·rename_i q
       split at h
       ·rename_i h1 _
        obtain⟨_,hc,h⟩:=bind_some h
        have hc:=cj hc
        refine⟨_,?_,h⟩
        have hv:=IW (ag hc)
        rw[bi] at hv
        have:=YL.Kl (P:=P) (W:=W) (dst:=dst) (ty:=ty) (pos:=pos) (after:=after) (guard:=guard) (t:=t) (g:=.ks h1 (Cg q h1 (cs.drop j))[i].1 1 (Cg q h1 (cs.drop j))[i].2) (bf hx) (cO ho) (by
         show(TV.er.go s.ln cs)[i*1+j]?=_
         rw[cR,ay,show i*1+j=j+i by omega,hv]
         rfl) (gJ ha) hW rfl
        rw[aL,ag hc]
        exact this
       ·cases h
      ·cases h
     ·cases h
   ·rename_i hh τ i j hx
    split at h
    ·cases h
    ·rename_i hW
     split at h
     ·rename_i e m f kty τ' a ho
      obtain⟨t',x',n,gs,e1,e2,e3,e4,h2⟩:=Im h
      subst e1
      refine⟨_,?_,h2⟩
      have:=YL.DA (P:=P) (W:=W) (dst:=dst) (ty:=ty) (pos:=pos) (after:=after) (guard:=guard) (t:=t) (x:=x) (bf hx) (cO ho) rfl e3 e4 (gJ ha) hW
      have e5:∀b,Mp b (dy S τ x')=(TV.af true τ x':TV S).er s.ln:=by
       intro b
       cases τ with
       | list _=>cases e2
       | st _=>cases e2
       | _=>rfl
      rw[e5] at this
      exact this
     ·rename_i e m f q kty tty d ho
      split at h
      ·rename_i τ
       obtain⟨⟨z,l⟩,h1,h⟩:=bind_some h
       refine⟨_,?_,h⟩
       obtain⟨e',h2,h3⟩:=IR h1 q
       have:=YL.QS (P:=P) (W:=W) (dst:=dst) (ty:=ty) (pos:=pos) (after:=after) (guard:=guard) (t:=t) (x:=x) (h:=hh) (tt:=i) (off:=j) (q:=q) (kty:=kty) (tty:=tty) (n:=d.n) (pd:=vo q d.pd) (by rw[bf hx];simp[TV.er,eB.sz]) (cO ho) rfl h2 h3 (gJ ha) hW
       rw[AY] at this
       exact this
      ·rename_i q'
       split at h
       ·rename_i e' _
        subst e'
        obtain⟨x',hc,h⟩:=bind_some h
        obtain⟨l,h1,h2⟩:=bind_some hc
        refine⟨_,?_,h⟩
        have:=YL.PG (P:=P) (W:=W) (dst:=dst) (ty:=ty) (pos:=pos) (after:=after) (guard:=guard) (t:=t) (x:=x) (h:=hh) (z:=i) (off:=j) (q:=q') (kty:=kty) (tty:=tty) (n:=d.n) (pd:=vo q' d.pd) (es:=d.es.map (bP.me q')) (gs:=gA q' l) (u:=.int q' x')
         (by rw[bf hx];simp[TV.er,eB.sz]) (cO ho) rfl (by rw[IE,h1];rfl) (by unfold gA;rw[ay,h2];rfl) (gJ ha) hW
        rw[nH rfl]
        exact this
       ·cases h
      ·cases h
     ·cases h
   ·cases h
  ·rename_i ha
   split at h
   ·rename_i z hz
    split at h
    ·rename_i f n a hx
     split at h
     ·rename_i hc
      have hc:=aa hc
      refine⟨_,?_,h⟩
      have e0:=bf hx
      rw[Cu] at e0
      have hlen:(aK S (.st n) a).length=z:=by rw[qH,hc];rfl
      show fw P W s.er _ (.agg ((aK S (.st n) a).map (dq f)))
      cases f with
      | true=>
       have:=YL.Ps (P:=P) (W:=W) (dst:=dst) (ty:=ty) (pos:=pos) (after:=after) (guard:=guard) (sz:=z) e0 (by omega) (gJ ha) (dw hz)
       rw[b6 (by omega)] at this
       exact this
      | false=>
       have:=YL.LN (P:=P) (W:=W) (dst:=dst) (ty:=ty) (pos:=pos) (after:=after) (guard:=guard) (sz:=z) e0 (by omega) (gJ ha) (dw hz)
       rw[b6 (by omega)] at this
       have e2:(aK S (.st n) a).map (dq false)=aK S (.st n) a:=by
        have:(dq false)=(id:G→G):=rfl
        rw[this,List.map_id]
       rw[e2]
       exact this
     ·cases h
    ·rename_i hh off hx
     split at h
     ·cases h
     ·rename_i hW
      split at h
      ·rename_i e m cs ho
       split at h
       ·rename_i hc
        refine⟨_,?_,h⟩
        have:=YL.IT (P:=P) (W:=W) (dst:=dst) (ty:=ty) (pos:=pos) (after:=after) (guard:=guard) (sz:=z) (bf hx) (cO ho) rfl (gJ ha) (dw hz)
         (by show off+z≤(TV.er.go s.ln cs).length;rw[cR,a5];exact eV hc) hW
        show fw P W s.er _ (.agg (TV.er.go s.ln ((cs.drop off).take z)))
        rw[cR,List.map_take,List.map_drop,←cR]
        exact this
       ·cases h
      ·cases h
    ·rename_i hh τ i j hx
     split at h
     ·cases h
     ·rename_i hW
      split at h
      ·rename_i e m f τ' l ho
       split at h
       ·rename_i e1 _
        subst e1
        split at h
        ·split at h
         ·rename_i hc
          have hc:=aa hc
          split at h
          ·rename_i n _ _ _ _ _
           obtain⟨a,ha',h⟩:=Ba hl ⟨_,hx⟩ ho h
           refine⟨_,?_,h⟩
           have hil:=(al.1 ha').1
           have:=YL.Nz (P:=P) (W:=W) (dst:=dst) (ty:=ty) (pos:=pos) (after:=after) (guard:=guard) (sz:=z) (bf hx) (cO ho) (gJ ha) (dw hz)
            (by
             show i*S.sz _+0+z≤(List.flatMap (aK S _) l).length
             have:=@eO _ (jA S (.st n)) l
             rw[show(List.flatMap (aK S (.st n)) l).length=_ from this,hc]
             show i*S.sz _+0+S.sz _≤l.length*S.sz _
             have:(i+1)*S.sz (.st n)≤l.length*S.sz (.st n):=b5 _ hil
             rw[dA,Nat.one_mul] at this
             omega) hW
           show fw P W s.er _ (.agg ((aK S (.st n) a).map (dq f)))
           have e3:((List.flatMap (aK S (.st n)) l).drop (i*S.sz (.st n)+0)).take z=aK S (.st n) a:=by
            rw[hc,di]
            exact @A7 _ (jA S (.st n)) l (i:Int) a (by unfold idx;rw[if_pos (by omega)];simpa using ha')
           have e4:((List.drop (i*S.sz (.st n)+0) (List.flatMap (aK S (.st n)) l)).take z).map (((TO.aT e m f (.st n) l:TO S).er s.ln).out)=(aK S (.st n) a).map (dq f):=by
            rw[e3]
            exact ez fun g hg=>IJ e m f (.st n) l _ (o8 S _ a g hg) (EH _ a g hg)
           rw[←e4]
           exact this
          ·cases h
         ·cases h
        ·cases h
       ·cases h
      ·cases h
    ·cases h
   ·cases h
  ·cases h
 ·exact Ny h
 ·cases h
end
end
end Go.DN
/-
 DN,part G:which handles are named;new ones;objects that change.
-/
namespace Go.DN
open Go.AM
section
variable {S:eB}
def TV.has (k:Nat):TV S→Bool
 | .loc h _=>Nat.beq h k
 | .gF h _ _ _=>Nat.beq h k
 | .aO h _=>Nat.beq h k
 | .sub h _ _ _=>Nat.beq h k
 | .agg l=>go k l
 | .bj l=>go k l
 | .aM _ l=>go k l
 | .cq h=>Nat.beq h k
 | .mp h=>Nat.beq h k
 | .ks h _ _ _=>Nat.beq h k
 | .kp h _ _ _=>Nat.beq h k
 | .fA b h _ _ _=>Nat.beq h k&&!b
 | _=>false
where go (k:Nat):List (TV S)→Bool
 | []=>false
 | x::r=>x.has k||go k r
theorem Oi (k:Nat) (f:Bool) (τ:Ty) (a:S.D τ) (h:τ.fL=false):(dq f (dy S τ a)).b7 k=false:=by
 cases τ with
 | st n=>cases h
 | _=>cases f <;> rfl
theorem HK (k:Nat) (f:Bool) (τ:Ty) (a:S.D τ):(nf f τ a).b7 k=false:=by
 cases τ with
 | st n=>
  show G.b7.go k ((aK S (.st n) a).map (dq f))=false
  rw[gq]
  have:=jP n a
  generalize S.cells n a=l at this
  induction l with
  | nil=>rfl
  | cons x r ih=>
   simp only[aH,G.b7.go,Oi k f x.τ x.a (this x av),Bool.false_or]
   exact ih fun y hy=>this y (ao _ hy)
 | _=>cases f <;> rfl
mutual
theorem tA (ln:Nat→Nat) (k:Nat):∀v:TV S,(v.er ln).b7 k=v.has k
 | .af f τ a=>HK k f τ a
 | .ptr f τ a=>by cases f <;> rfl
 | .agg l=>vD ln k l
 | .bj l=>vD ln k l
 | .aM _ l=>vD ln k l
 | .loc _ _=>rfl
 | .gF _ _ _ _=>rfl
 | .aO _ _=>rfl
 | .sub _ _ _ _=>rfl
 | .cq _=>rfl
 | .mp _=>rfl
 | .ks _ _ _ _=>rfl
 | .kp _ _ _ _=>rfl
 | .fA b h _ _ _=>by
  cases b with
  | true=>show false=(Nat.beq h k&&false);rw[Bool.and_false]
  | false=>show Nat.beq h k=(Nat.beq h k&&true);rw[iW]
 | .val _=>rfl
 | .any=>rfl
theorem vD (ln:Nat→Nat) (k:Nat):∀l:List (TV S),G.b7.go k (TV.er.go ln l)=TV.has.go k l
 | []=>rfl
 | x::r=>by simp only[TV.er.go,G.b7.go,TV.has.go,tA ln k x,vD ln k r]
end
mutual
theorem oJ {ln ln':Nat→Nat}:∀v:TV S,(∀k,v.has k=true→ln k=ln' k)→v.er ln=v.er ln'
 | .af f τ a,_=>rfl
 | .ptr f τ a,_=>rfl
 | .agg l,h=>congrArg G.agg (lq l h)
 | .bj l,h=>congrArg G.bj (lq l h)
 | .aM f l,h=>congrArg (G.aM f) (lq l h)
 | .loc _ _,_=>rfl
 | .gF _ _ _ _,_=>rfl
 | .aO h τ,hh=>congrArg (G.aO h (S.sz τ) 0) (hh h (aG h))
 | .sub _ _ _ _,_=>rfl
 | .cq _,_=>rfl
 | .mp _,_=>rfl
 | .ks _ _ _ _,_=>rfl
 | .kp _ _ _ _,_=>rfl
 | .fA _ _ _ _ _,_=>rfl
 | .val _,_=>rfl
 | .any,_=>rfl
theorem lq {ln ln':Nat→Nat}:∀l:List (TV S),(∀k,TV.has.go k l=true→ln k=ln' k)→TV.er.go ln l=TV.er.go ln' l
 | [],_=>rfl
 | x::r,h=>by
  simp only[TV.er.go]
  rw[oJ x fun k hk=>h k (by simp[TV.has.go,hk]),lq r fun k hk=>h k (by simp[TV.has.go,hk])]
end
def gl (k:Nat):List (Nat×TV S)→Bool
 | []=>false
 | (_,v)::r=>v.has k||gl k r
def TO.has (k:Nat):TO S→Bool
 | .box _ _ cs=>TV.has.go k cs
 | .aT ..=>false
 | .lp _ _ cs=>TV.has.go k cs
 | .deep ..=>false
def eH (k:Nat):List (Nat×TO S)→Bool
 | []=>false
 | (_,o)::r=>o.has k||eH k r
def ah.free (s:ah S) (k:Nat):Bool:=(match aw s.bg k with | none=>true | some _=>false)&&(!(gl k s.bW)&&(!(eH k s.bg)&&(!(TV.has.go k s.df)&&Nat.blt k 500)))
theorem I6 (ln:Nat→Nat) (k:Nat):∀fr:List (Nat×TV S),yE k (fZ ln fr)=!(gl k fr)
 | []=>rfl
 | (_,v)::r=>by simp only[fZ,yE,gl,tA,I6 ln k r,Bool.not_or]
theorem po {ln:Nat→Nat}:∀{st:List (Nat×TO S)}{t:Nat},aw st t=none→aq (b8 ln st) t=none
 | [],_,_=>rfl
 | (k,g)::r,t,h=>by
  simp only[aw] at h
  simp only[b8,aq]
  cases hk:Nat.beq k t with
  | true=>rw[hk] at h;cases h
  | false=>rw[hk] at h;exact po h
theorem Iw (ln:Nat→Nat) (k:Nat):∀st:List (Nat×TO S),eH k st=false→wg k (b8 ln st)=true
 | [],_=>rfl
 | (_,o)::r,h=>by
  simp only[eH,bD] at h
  simp only[b8,wg,ai,Iw ln k r h.2,and_true]
  cases o with
  | box e m cs=>simp only[TO.er,vD,Bool.false_or];have:=h.1;simp only[TO.has] at this;simp[this]
  | aT e m f τ l=>rfl
  | lp l n cs=>simp only[TO.er,vD,Bool.false_or];have:=h.1;simp only[TO.has] at this;simp[this]
  | deep=>rfl
theorem zF (ln:Nat→Nat) (k:Nat):∀l:List (TV S),pT k (TV.er.go ln l)=!(TV.has.go k l)
 | []=>rfl
 | x::r=>by simp only[TV.er.go,pT,TV.has.go,tA,zF ln k r,Bool.not_or]
theorem free_spec {s:ah S}{k:Nat}(h:s.free k=true):aw s.bg k=none∧gl k s.bW=false∧eH k s.bg=false∧TV.has.go k s.df=false∧Nat.blt k 500=true:=by
 unfold ah.free at h
 simp only[ai,a6] at h
 obtain⟨h1,h2,h3,h4,h5⟩:=h
 refine⟨?_,h2,h3,h4,h5⟩
 split at h1
 ·assumption
 ·cases h1
theorem gk {s:ah S}{k:Nat}(h:s.free k=true):fresh s.er k=true:=by
 obtain⟨h1,h2,h3,h4,h5⟩:=free_spec h
 unfold fresh
 have e1:=po (ln:=s.ln) h1
 have e2:=I6 s.ln k s.bW
 rw[h2] at e2
 have e3:=Iw s.ln k s.bg h3
 have e4:=zF s.ln k s.df
 rw[h4] at e4
 have e5:Nat.blt k 1000=true:=by simp only[fS] at h5⊢;omega
 simp only[ai]
 exact⟨by show(aq (b8 s.ln s.bg) k).isNone=true;rw[e1];rfl,e2,e3,e4,e5⟩
theorem na {k:Nat}:∀{fr:List (Nat×TV S)}{t:Nat}{v:TV S},bc fr t=some v→gl k fr=false→v.has k=false
 | [],_,_,h,_=>by cases h
 | (t',v')::r,t,v,h,hf=>by
  simp only[gl,bD] at hf
  simp only[bc] at h
  cases hk:Nat.beq t' t with
  | true=>rw[hk] at h;cases h;exact hf.1
  | false=>rw[hk] at h;exact na h hf.2
theorem O7 {s:ah S}{x:Operand}{v:TV S}{k:Nat}(h:cm s x=some v) (hf:gl k s.bW=false):v.has k=false:=by
 cases x with
 | tmp t=>exact na h hf
 | const u=>cases h;cases u <;> rfl
 | func f=>cases h;rfl
 | global _=>cases h
def jv (ln ln':Nat→Nat) (k:Nat):Prop:=∀j,j≠k→ln j=ln' j
theorem yJ {ln ln':Nat→Nat}{k:Nat}(h:jv ln ln' k):∀fr:List (Nat×TV S),gl k fr=false→fZ ln fr=fZ ln' fr
 | [],_=>rfl
 | (t,v)::r,hf=>by
  simp only[gl,bD] at hf
  simp only[fZ,yJ h r hf.2]
  rw[oJ v fun j hj=>h j fun e=>by subst e;rw[hf.1] at hj;cases hj]
theorem oG {ln ln':Nat→Nat}{k:Nat}(h:jv ln ln' k) (l:List (TV S)) (hf:TV.has.go k l=false):TV.er.go ln l=TV.er.go ln' l:=
 lq l fun j hj=>h j fun e=>by subst e;rw[hf] at hj;cases hj
theorem qG {ln ln':Nat→Nat}{k:Nat}(h:jv ln ln' k) (v:TV S) (hf:v.has k=false):v.er ln=v.er ln':=
 oJ v fun j hj=>h j fun e=>by subst e;rw[hf] at hj;cases hj
theorem TO.qG {ln ln':Nat→Nat}{k:Nat}(h:jv ln ln' k) (o:TO S) (hf:o.has k=false):o.er ln=o.er ln':=by
 cases o with
 | box e m cs=>simp only[TO.er,oG h cs hf]
 | aT e m f τ l=>rfl
 | lp l n cs=>simp only[TO.er,oG h cs hf]
 | deep=>rfl
theorem yI {ln ln':Nat→Nat}{k:Nat}(h:jv ln ln' k):∀st:List (Nat×TO S),eH k st=false→b8 ln st=b8 ln' st
 | [],_=>rfl
 | (t,o)::r,hf=>by
  simp only[eH,bD] at hf
  simp only[b8,yI h r hf.2,TO.qG h o hf.1]
theorem GX {st:List (Nat×TO S)}(k:Nat) (o:TO S):jv (bZ st) (bZ ((k,o)::st)) k:=by
 intro j hj
 unfold bZ
 simp only[aw]
 have:Nat.beq k j=false:=by
  cases h:Nat.beq k j with
  | false=>rfl
  | true=>exact absurd (aa h).symm hj
 rw[this];rfl
theorem tl {st:List (Nat×TO S)}(k:Nat) (o:TO S):bZ ((k,o)::st) k=o.len:=by
 unfold bZ
 simp only[aw,aG,cond_true]
def ah.add (s:ah S) (k:Nat) (o:TO S):ah S:={s with st:=(k,o)::s.st,nx:=bif Nat.beq k s.nx then k+1 else s.nx}
def ah.cP (s:ah S) (d:Nat):Nat:=bif s.free d then d else s.nx
theorem oo {s:ah S}{k:Nat}(h:s.free k=true) (o:TO S) (ho:o.has k=false):(s.add k o).er={fr:=s.er.fr,st:=(k,o.er s.ln)::s.er.st,df:=s.er.df}∧jv s.ln (s.add k o).ln k:=by
 obtain⟨h1,h2,h3,h4,h5⟩:=free_spec h
 have hag:jv s.ln (s.add k o).ln k:=GX k o
 refine⟨?_,hag⟩
 show St.mk (fZ (s.add k o).ln s.bW) (b8 (s.add k o).ln ((k,o)::s.bg)) (TV.er.go (s.add k o).ln s.df)=St.mk _ _ _
 rw[←yJ hag s.bW h2,←oG hag s.df h4]
 simp only[b8]
 rw[←yI hag s.bg h3,←TO.qG hag o ho]
 rfl
def pB:List (Nat×TO S)→Nat→TO S→List (Nat×TO S)
 | [],_,_=>[]
 | (k,g)::r,t,o=>bif Nat.beq k t then(k,o)::r else(k,g)::pB r t o
theorem De {st:List (Nat×TO S)}{h:Nat}{o o':TO S}(ho:aw st h=some o):aw (pB st h o') h=some o':=by
 induction st with
 | nil=>cases ho
 | cons x r ih=>
  obtain⟨y,g⟩:=x
  simp only[aw,pB] at ho⊢
  cases hy:Nat.beq y h with
  | true=>simp[aw,hy]
  | false=>simp only[hy,cond_false] at ho⊢;simp only[aw,hy,cond_false];exact ih ho
theorem ul {st:List (Nat×TO S)}{h h':Nat}{o:TO S}(hne:h'≠h):aw (pB st h o) h'=aw st h':=by
 induction st with
 | nil=>rfl
 | cons x r ih=>
  obtain⟨y,g⟩:=x
  simp only[aw,pB]
  cases hy:Nat.beq y h with
  | true=>
   have:y=h:=aa hy
   subst this
   have h2:Nat.beq y h'=false:=by
    cases h3:Nat.beq y h' with
    | false=>rfl
    | true=>exact absurd (aa h3).symm hne
   simp[aw,h2]
  | false=>simp only[cond_false,aw,ih]
theorem NA {st:List (Nat×TO S)}{h:Nat}{o o':TO S}(ho:aw st h=some o) (hl:o'.len=o.len):bZ (pB st h o')=bZ st:=by
 funext j
 unfold bZ
 by_cases e:j=h
 ·subst e;rw[De ho,ho];exact hl
 ·rw[ul e]
theorem HA (ln:Nat→Nat):∀(st:List (Nat×TO S)) (h:Nat) (o:TO S),b8 ln (pB st h o)=bw (b8 ln st) h (o.er ln)
 | [],_,_=>rfl
 | (k,g)::r,h,o=>by
  simp only[pB,b8,bw]
  cases Nat.beq k h with
  | true=>rfl
  | false=>simp only[cond_false,b8,HA ln r h o]
def ah.set (s:ah S) (h:Nat) (o:TO S):ah S:={s with st:=pB s.st h o,last:=yd h s.last}
theorem GA {st st':List (Nat×TO S)}{h:Nat}{o:TO S}(ho:aw st h=some o):aw (st++st') h=some o:=by
 induction st with
 | nil=>cases ho
 | cons x r ih=>
  obtain⟨k,g⟩:=x
  simp only[bx,aw] at ho⊢
  cases hb:Nat.beq k h with
  | true=>rw[hb] at ho;exact ho
  | false=>rw[hb] at ho;exact ih ho
theorem Gr {st st':List (Nat×TO S)}{h:Nat}{o o':TO S}(ho:aw st h=some o):pB (st++st') h o'=pB st h o'++st':=by
 induction st with
 | nil=>cases ho
 | cons x r ih=>
  obtain⟨k,g⟩:=x
  simp only[bx,aw,pB] at ho⊢
  cases hb:Nat.beq k h with
  | true=>rfl
  | false=>rw[hb] at ho;simp only[cond_false,bx];rw[ih ho]
theorem dQ {s:ah S}{h:Nat}{o:TO S}(ho:aw s.st h=some o):aw s.bg h=some o:=GA ho
theorem kZ {s:ah S}{h:Nat}{o o':TO S}(ho:aw s.st h=some o) (hl:o'.len=o.len):(s.set h o').er={fr:=s.er.fr,st:=bw s.er.st h (o'.er s.ln),df:=s.er.df}∧(s.set h o').ln=s.ln:=by
 have e0:(s.set h o').bg=pB s.bg h o':=(Gr ho).symm
 have e:(s.set h o').ln=s.ln:=by show bZ (s.set h o').bg=bZ s.bg;rw[e0];exact NA (dQ ho) hl
 refine⟨?_,e⟩
 show St.mk (fZ (s.set h o').ln s.bW) (b8 (s.set h o').ln (s.set h o').bg) (TV.er.go (s.set h o').ln s.df)=_
 rw[e,e0,HA]
 rfl
def TV.kill (k:Nat) (v:TV S):TV S:=match v.has k with | true=>.any | false=>v
def kh (k:Nat):List (Nat×TV S)→List (Nat×TV S)
 | []=>[]
 | (t,v)::r=>(t,v.kill k)::kh k r
def TO.kill (k:Nat):TO S→TO S
 | .box e m cs=>.box e m (cs.map (TV.kill k))
 | .lp l n cs=>.lp l n (cs.map (TV.kill k))
 | o=>o
def iO (k:Nat):List (Nat×TO S)→List (Nat×TO S)
 | []=>[]
 | (t,o)::r=>(t,o.kill k)::iO k r
theorem IY (ln:Nat→Nat) (k:Nat) (v:TV S):(v.kill k).er ln=qZ k (v.er ln):=by
 unfold TV.kill qZ
 rw[tA]
 cases v.has k <;> rfl
theorem G7 (k:Nat) (v:TV S):(v.kill k).has k=false:=by
 unfold TV.kill
 cases h:v.has k with
 | true=>rfl
 | false=>exact h
theorem G9 (ln:Nat→Nat) (k:Nat):∀fr:List (Nat×TV S),fZ ln (kh k fr)=mX k (fZ ln fr)
 | []=>rfl
 | (t,v)::r=>by simp only[kh,fZ,mX,IY,G9 ln k r]
theorem Er (k:Nat):∀fr:List (Nat×TV S),gl k (kh k fr)=false
 | []=>rfl
 | (t,v)::r=>by simp only[kh,gl,G7,Er k r,Bool.or_self]
theorem wM (k:Nat):∀cs:List (TV S),TV.has.go k (cs.map (TV.kill k))=false
 | []=>rfl
 | v::r=>by simp only[aH,TV.has.go,G7,wM k r,Bool.or_self]
theorem Eo (ln:Nat→Nat) (k:Nat) (cs:List (TV S)):TV.er.go ln (cs.map (TV.kill k))=(TV.er.go ln cs).map (qZ k):=by
 rw[cR,cR,gd,gd]
 exact ez fun v _=>IY ln k v
theorem G8 (ln:Nat→Nat) (k:Nat):∀st:List (Nat×TO S),b8 ln (iO k st)=gn k (b8 ln st)
 | []=>rfl
 | (t,o)::r=>by
  simp only[iO,b8,gn,G8 ln k r]
  congr 2
  cases o with
  | box e m cs=>simp only[TO.kill,TO.er,Eo];rfl
  | aT e m f τ l=>rfl
  | lp l n cs=>simp only[TO.kill,TO.er,Eo];rfl
  | deep=>rfl
theorem Ep (k:Nat):∀st:List (Nat×TO S),eH k (iO k st)=false
 | []=>rfl
 | (t,o)::r=>by
  simp only[iO,eH,Ep k r,Bool.or_false]
  cases o with
  | box e m cs=>exact wM k cs
  | aT e m f τ l=>rfl
  | lp l n cs=>exact wM k cs
  | deep=>rfl
theorem wD {k h:Nat}:∀{st:List (Nat×TO S)},aw (iO k st) h=(aw st h).map (TO.kill k)
 | []=>rfl
 | (t,o)::r=>by
  simp only[iO,aw]
  cases Nat.beq t h with
  | true=>rfl
  | false=>exact wD
theorem NF (k:Nat) (o:TO S):(o.kill k).len=o.len:=by cases o <;> rfl
theorem L7 (k:Nat) (st:List (Nat×TO S)):bZ (iO k st)=bZ st:=by
 funext j
 unfold bZ
 rw[wD]
 cases aw st j with
 | none=>rfl
 | some o=>exact NF k o
def ah.renew (s:ah S) (k:Nat) (o:TO S):ah S:={s with fr:=kh k s.fr,st:=(k,o)::iO k s.st,last:=yd k s.last}
theorem IX {k:Nat}{v:TV S}(h:v.has k=false):v.kill k=v:=by unfold TV.kill;rw[h]
theorem AV {k:Nat}:∀{fr:List (Nat×TV S)},gl k fr=false→kh k fr=fr
 | [],_=>rfl
 | (t,v)::r,h=>by
  simp only[gl,bD] at h
  simp only[kh,IX h.1,AV h.2]
theorem AU {k:Nat}:∀{l:List (TV S)},TV.has.go k l=false→l.map (TV.kill k)=l
 | [],_=>rfl
 | v::r,h=>by
  simp only[TV.has.go,bD] at h
  simp only[aH,IX h.1,AU h.2]
theorem wO {k:Nat}:∀{st:List (Nat×TO S)},eH k st=false→iO k st=st
 | [],_=>rfl
 | (t,o)::r,h=>by
  simp only[eH,bD] at h
  simp only[iO,wO h.2]
  have:o.kill k=o:=by
   cases o with
   | box e m cs=>simp only[TO.kill];rw[AU h.1]
   | aT e m f τ l=>rfl
   | lp l n cs=>simp only[TO.kill];rw[AU h.1]
   | deep=>rfl
  rw[this]
theorem yw (k:Nat):∀(fr fr':List (Nat×TV S)),kh k (fr++fr')=kh k fr++kh k fr'
 | [],_=>rfl
 | (t,v)::r,fr'=>by simp only[bx,kh,yw k r fr']
theorem uw (k:Nat):∀(st st':List (Nat×TO S)),iO k (st++st')=iO k st++iO k st'
 | [],_=>rfl
 | (t,v)::r,st'=>by simp only[bx,iO,uw k r st']
theorem Gd {s:ah S}{k:Nat}(o:TO S) (ho:o.has k=false) (hd:TV.has.go k s.df=false) (hlo:gl k s.lo=false) (hls:eH k s.bL=false):(s.renew k o).er={fr:=mX k s.er.fr,st:=(k,o.er s.ln)::gn k s.er.st,df:=s.er.df}∧jv s.ln (s.renew k o).ln k∧(s.renew k o).ln k=o.len:=by
 have hag:jv s.ln (s.renew k o).ln k:=by
  have:=GX (st:=iO k s.bg) k o
  rw[L7] at this
  have e:(s.renew k o).bg=(k,o)::iO k s.bg:=by
   show(k,o)::(iO k s.st++s.bL)=_
   unfold ah.bg
   rw[uw,wO hls]
  show jv (bZ s.bg) (bZ (s.renew k o).bg) k
  rw[e]
  exact this
 have e1:(s.renew k o).bg=(k,o)::iO k s.bg:=by
  show(k,o)::(iO k s.st++s.bL)=_
  unfold ah.bg
  rw[uw,wO hls]
 have e2:(s.renew k o).bW=kh k s.bW:=by
  show kh k s.fr++s.lo=_
  unfold ah.bW
  rw[yw,AV hlo]
 refine⟨?_,hag,tl k o⟩
 show St.mk (fZ (s.renew k o).ln (s.renew k o).bW) (b8 (s.renew k o).ln (s.renew k o).bg) (TV.er.go (s.renew k o).ln s.df)=St.mk _ _ _
 rw[e1,e2,←yJ hag _ (Er k s.bW),←oG hag s.df hd,G9]
 simp only[b8]
 rw[←yI hag _ (Ep k s.bg),←TO.qG hag o ho,G8]
 rfl
theorem jl {k t:Nat}(o:TO S) (st:List (Nat×TO S)) (h:t≠k):aw ((k,o)::st) t=aw st t:=by
 simp only[aw]
 cases hb:Nat.beq k t with
 | true=>exact absurd (aa hb).symm h
 | false=>rfl
theorem aY.add {s:ah S}(h:aY s){k:Nat}(o:TO S) (hf:s.free k=true):aY (s.add k o):=by
 intro d hh x hm
 obtain⟨i,bM,m,f,τ,l,a,e1,e2,e3⟩:=h d hh x hm
 refine⟨i,bM,m,f,τ,l,a,e1,?_,e3⟩
 refine(jl o s.bg ?_).trans e2
 intro e
 subst e
 rw[(free_spec hf).1] at e2
 cases e2
theorem aY.set {s:ah S}(h:aY s){k:Nat}{o0:TO S}(hk:aw s.st k=some o0) (o:TO S):aY (s.set k o):=by
 have e0:(s.set k o).bg=pB s.bg k o:=(Gr hk).symm
 intro d hh x hm
 obtain⟨h1,h2⟩:=sL hm
 obtain⟨i,bM,m,f,τ,l,a,e1,e2,e3⟩:=h d hh x h1
 exact⟨i,bM,m,f,τ,l,a,e1,by rw[e0];exact(ul h2).trans e2,e3⟩
theorem Bv {k t:Nat}{v:TV S}:∀{fr:List (Nat×TV S)},bc fr t=some v→bc (kh k fr) t=some (v.kill k)
 | [],h=>by cases h
 | (t',v')::r,h=>by
  simp only[bc,kh] at h⊢
  cases hb:Nat.beq t' t with
  | true=>rw[hb] at h;cases h;rfl
  | false=>rw[hb] at h;exact Bv h
theorem aY.renew {s:ah S}(h:aY s) (k:Nat) (o:TO S) (hlo:gl k s.lo=false) (hls:eH k s.bL=false):aY (s.renew k o):=by
 have q1:(s.renew k o).bg=(k,o)::iO k s.bg:=by
  show(k,o)::(iO k s.st++s.bL)=_
  unfold ah.bg
  rw[uw,wO hls]
 have q2:(s.renew k o).bW=kh k s.bW:=by
  show kh k s.fr++s.lo=_
  unfold ah.bW
  rw[yw,AV hlo]
 intro d hh x hm
 obtain⟨h1,h2⟩:=sL hm
 obtain⟨i,bM,m,f,τ,l,a,e1,e2,e3⟩:=h d hh x h1
 refine⟨i,bM,m,f,τ,l,a,?_,?_,e3⟩
 ·have:=Bv (k:=k) e1
  rw[q2]
  refine this.trans ?_
  unfold TV.kill TV.has
  have:Nat.beq hh k=false:=by
   cases hb:Nat.beq hh k with
   | true=>exact absurd (aa hb) h2
   | false=>rfl
  rw[this]
 ·rw[q1]
  refine(jl o _ h2).trans ?_
  rw[wD,e2];rfl
end
end Go.DN
/-
 DN,part H:steps of the proof alone;boxes,blocks,stores.
-/
namespace Go.DN
open Go.AM
def Gh (s t:St):Prop:=∀(N:Nat) (cx:Cx) (μ:Mu) (a:Act) (w:World),Rel N cx μ s a w→
 ∃μ',Rel N cx μ' t a w∧∀h k c m y,aq t.st h=some k→μ' h=some (c,m)→In y c m→∃k0 c0 m0,aq s.st h=some k0∧μ h=some (c0,m0)∧In y c0 m0
theorem Gh.same {s t:St}{μ μ':Mu}(h:∀h k b m,aq t.st h=some k→μ' h=some (b,m)→∃k0,aq s.st h=some k0∧μ h=some (b,m)):
  ∀h k c m y,aq t.st h=some k→μ' h=some (c,m)→In y c m→∃k0 c0 m0,aq s.st h=some k0∧μ h=some (c0,m0)∧In y c0 m0:=
 fun x k c m y h1 h2 h3=>let ⟨k0,h4,h5⟩:=h x k c m h1 h2;⟨k0,c,m,h4,h5,h3⟩
theorem Gh.refl (s:St):Gh s s:=fun _ _ μ _ _ hr=>⟨μ,hr,Gh.same fun h k b m h1 h2=>⟨k,h1,h2⟩⟩
theorem Gh.trans {a b c:St}(h:Gh a b) (h':Gh b c):Gh a c:=fun N cx μ ac w hr=>by
 obtain⟨μ1,h1,h2⟩:=h N cx μ ac w hr
 obtain⟨μ2,h3,h4⟩:=h' N cx μ1 ac w h1
 refine⟨μ2,h3,fun x k c m y h5 h6 h7=>?_⟩
 obtain⟨k0,c0,m0,h8,h9,h10⟩:=h4 x k c m y h5 h6 h7
 exact h2 x k0 c0 m0 y h8 h9 h10
theorem Gh.sub {s t:St}(h:Sub s t):Gh s t:=fun N cx μ a w hr=>⟨μ,hr.sub h,Gh.same fun x k b m h1 h2=>⟨k,h.2.1.get h1,h2⟩⟩
theorem Gh.of {s t:St}(h:∀(N:Nat) (cx:Cx) (μ:Mu) (a:Act) (w:World),Rel N cx μ s a w→Rel N cx μ t a w) (hd:∀x k,aq t.st x=some k→∃k0,aq s.st x=some k0):Gh s t:=fun N cx μ a w hr=>
 ⟨μ,h N cx μ a w hr,Gh.same fun x k b m h1 h2=>let ⟨k0,h3⟩:=hd x k h1;⟨k0,h3,h2⟩⟩
section
variable {P:Program}{N:Nat}{cx:Cx}{ops:Array Oper}{Q:Exit→St→Prop}{s t:St}
theorem GW.gh {c:Code}(h:Gh s t) (k:GW P N cx c Q t):GW P N cx c Q s:=fun μ a w hr=>by
 obtain⟨μ',h1,_⟩:=h N cx μ a w hr
 exact k μ' a w h1
theorem GL.gh {rest:List Oper}(h:Gh s t) (k:GL P N cx ops Q rest t):GL P N cx ops Q rest s:=fun μ a w hr=>by
 obtain⟨μ',h1,_⟩:=h N cx μ a w hr
 exact k μ' a w h1
theorem dO.gh {W:List Nat}{aI:Nat}{listed:Array Bool}(h:Gh s t) (k:dO P N cx ops Q W aI listed t):dO P N cx ops Q W aI listed s:=fun ws Wb μ a w hr hS hW=>by
 obtain⟨μ',h1,h2⟩:=h N cx μ a w hr
 refine k ws Wb μ' a w h1 hS fun x k c m y h3 h4 h5 h6=>?_
 obtain⟨k0,c0,m0,h7,h8,h9⟩:=h2 x k c m y h4 h5 h6
 exact hW x k0 c0 m0 y h3 h7 h8 h9
end
section
variable {S:eB}
def fx (P:Program) (W:List Nat) (s:ah S) (o:Oper){A:Type}(k:ah S→Option A) (r:A):Prop:=
 ∃T:St→Prop,bH P W s.er o T∧∀s',T s'→∃t:ah S,Gh s' t.er∧aY t∧bz s t∧k t=some r
theorem fx.one {P:Program}{W:List Nat}{s:ah S}{o:Oper}{A:Type}{k:ah S→Option A}{r:A}{s1:St}(t:ah S) (he:bH P W s.er o (·=s1)) (hg:Gh s1 t.er) (hl:aY t) (hkp:bz s t) (hk:k t=some r):fx P W s o k r:=
 ⟨_,he,fun s' e=>by subst e;exact⟨t,hg,hl,hkp,hk⟩⟩
theorem Mk {k:Nat}(v:TV S) (h:v.has k=false):TV.has.go k (dL v)=false:=by
 cases v with
 | af f τ a=>
  cases τ with
  | st n=>
   show TV.has.go k (split f n a)=false
   unfold split
   generalize S.cells n a=l
   induction l with
   | nil=>rfl
   | cons x r ih=>simp only[aH,TV.has.go,TV.has,Bool.false_or];exact ih
  | _=>rfl
 | agg l=>exact h
 | _=>simpa[dL,TV.has.go] using h
def QD:TV S→Bool
 | .af _ τ _=>!τ.fL
 | .val u=>u.oneCell'
 | .agg _=>false
 | .bj _=>false
 | .any=>false
 | _=>true
theorem Np {v:TV S}(h:QD v=true) (ln:Nat→Nat):(v.er ln).one=true:=by
 cases v with
 | af f τ a=>cases τ with
  | st n=>cases h
  | _=>cases f <;> rfl
 | ptr f τ a=>cases f <;> rfl
 | fA b h τ i j=>cases b <;> rfl
 | val u=>exact h
 | agg l=>cases h
 | bj l=>cases h
 | any=>cases h
 | _=>rfl
def B3:List (TV S)→Bool
 | []=>true
 | v::r=>QD v&&B3 r
theorem ny (ln:Nat→Nat):∀{l:List (TV S)},B3 l=true→(TV.er.go ln l).all G.one=true
 | [],_=>rfl
 | v::r,h=>by
  simp only[B3,ai] at h
  simp only[TV.er.go,List.all_cons,Np h.1 ln,ny ln h.2,fH]
section
variable {P:Program}{W:List Nat}{s:ah S}{ty:TypeId}{pos:String}{after:Array Edge}{guard:Option (Nat×Bool)}{A:Type}{k:ah S→Option A}{r:A}
def Oo (s:ah S) (d:Nat) (t:TypeId) (x:Operand){A:Type}(k:ah S→Option A):Option A:=
 match s.free (s.cP d) with
 | true=>match cm s x with
  | some v=>match Gx v with
   | true=>k ((s.add (s.cP d) (.box t true (dL v))).put d (.loc (s.cP d) 0))
   | false=>none
  | none=>none
 | false=>none
theorem Qa {d:Nat}{t:TypeId}{x:Operand}(hl:aY s) (h:Oo s d t x k=some r):fx P W s ⟨some d,.box t x,ty,pos,after,guard⟩ k r:=by
 unfold Oo at h
 split at h
 ·rename_i hf
  split at h
  ·rename_i v hv
   split at h
   ·rename_i ho
    have hn:TV.has.go (s.cP d) (dL v)=false:=Mk v (O7 hv (free_spec hf).2.1)
    obtain⟨e1,_⟩:=oo hf (.box t true (dL v)) hn
    refine .one _ (EF.box (s.cP d) (bf hv) (qy ho s.ln) (gk hf)) ?_ ((hl.add _ hf).put _ _) ⟨rfl,rfl,rfl⟩ h
    rw[fB,e1]
    rw[uk ho s.ln]
    exact Gh.refl _
   ·cases h
  ·cases h
 ·cases h
def H2 (P:Program) (s:ah S) (d:Nat) (t:TypeId){A:Type}(k:ah S→Option A):Option A:=
 match s.free (s.cP d) with
 | true=>match (P.info? t).bind (·.zero) with
  | some z=>k ((s.add (s.cP d) (.box t true (z.cells.toList.map uf))).put d (.loc (s.cP d) 0))
  | none=>none
 | false=>none
theorem Lg (k:Nat) (l:List Value):TV.has.go k (l.map (uf (S:=S)))=false:=by
 induction l with
 | nil=>rfl
 | cons v r ih=>simp only[aH,TV.has.go,ih,Bool.or_false];cases v <;> rfl
theorem M5 (ln:Nat→Nat) (l:List Value):TV.er.go ln (l.map (uf (S:=S)))=l.map .val:=by
 rw[cR,gd]
 exact ez fun v _=>Fx ln v
theorem MX {t:TypeId}{z:Value}(h:(P.info? t).bind (·.zero)=some z):∀w,(zeroValue t).run P w=.ok z w:=by
 intro w
 cases hi:P.info? t with
 | none=>rw[hi] at h;cases h
 | some i=>
  rw[hi] at h
  have h:i.zero=some z:=h
  simp[zeroValue,typeInfo,hi,h]
theorem MR {d:Nat}{t:TypeId}(hl:aY s) (h:H2 P s d t k=some r):fx P W s ⟨some d,.alloc t,ty,pos,after,guard⟩ k r:=by
 unfold H2 at h
 split at h
 ·rename_i hf
  split at h
  ·rename_i z hz
   obtain⟨e1,_⟩:=oo hf (.box t true (z.cells.toList.map uf)) (Lg _ _)
   refine .one _ (EF.alloc (s.cP d) (MX hz) (gk hf)) ?_ ((hl.add _ hf).put _ _) ⟨rfl,rfl,rfl⟩ h
   rw[fB,e1]
   simp only[TO.er,M5]
   exact Gh.refl _
  ·cases h
 ·cases h
def EX (τ:Ty) (z:Value):Option (S.D τ):=
 match τ with
 | .st n=>match Bx (.st n) (.agg (z.cells.toList.map uf)) with
  | some x=>some x.2
  | none=>none
 | τ=>match mK τ (uf z) with
  | some x=>match z.cells.toList with
   | [_]=>some x.2
   | _=>none
  | none=>none
theorem FJ {τ:Ty}{u:Value}{f:Bool}{a:S.D τ}(h:mK τ (uf u)=some (f,a)):ix u=dy S τ a:=by
 unfold mK at h
 split at h
 ·rename_i f' τ' a' e
  split at h
  ·cases h
  ·split at h
   ·rename_i b hb
    cases h
    have:=dW hb
    cases this
    cases u <;> simp only[uf] at e <;> cases e <;> rfl
   ·cases h
 ·rename_i e
  split at h
  ·cases h
   cases u <;> simp only[uf] at e <;> cases e
   rfl
  ·cases h
 ·cases h
theorem Li:∀{ts:List Ty}{us:List Value}{f:Bool}{l:List (bo S.α)},CW ts (us.map uf)=some (f,l)→us.map ix=l.map fun x=>dy S x.τ x.a
 | [],[],_,_,h=>by cases h;rfl
 | τ::ts,u::us,f,l,h=>by
  simp only[aH,CW] at h
  split at h
  ·rename_i f1 a h1
   split at h
   ·rename_i g l' h2
    cases h
    simp only[aH,FJ h1,Li h2]
   ·cases h
  ·cases h
 | [],_::_,_,_,h=>by cases h
 | _::_,[],_,_,h=>by cases h
theorem Fl {τ:Ty}{z:Value}{a:S.D τ}(h:EX τ z=some a):z.cells.toList.map ix=aK S τ a∧z.cells.size=S.sz τ:=by
 have key:z.cells.toList.map ix=aK S τ a:=by
  unfold EX at h
  split at h
  ·rename_i n
   split at h
   ·rename_i x hx
    cases h
    unfold Bx at hx
    dsimp only at hx
    split at hx
    ·rename_i f l h1
     split at hx
     ·rename_i a h2
      cases hx
      rw[gq,S.kD _ _ _ h2]
      exact Li h1
     ·cases hx
    ·cases hx
   ·cases h
  ·rename_i hns
   split at h
   ·rename_i x hx
    obtain⟨f,x⟩:=x
    split at h
    ·rename_i u hu
     cases h
     have hs:τ.fL=false:=by
      cases τ with
      | st n=>exact absurd rfl (hns n)
      | _=>rfl
     have hzu:z=u:=by
      have h3:=(FJ hx)
      cases z with
      | agg cs=>simp[uf,mK] at hx
      | _=>simpa[Value.cells] using hu
     rw[hu,aH,ir,jZ S hs,←hzu,FJ hx]
    ·cases h
   ·cases h
 refine⟨key,?_⟩
 have:=congrArg List.length key
 rw[a5,qH,Array.length_toList] at this
 exact this
def Cc (P:Program) (s:ah S) (d:Nat) (t:TypeId) (x y:Operand){A:Type}(k:ah S→Option A):Option A:=
 match s.free (s.cP d) with
 | true=>match P.underlying t with
  | some (.slice e)=>match S.OG e with
   | some τ=>match P.info? e with
    | some i=>match i.zero with
     | some z=>match EX τ z with
      | some a=>match cm s x with
       | some (.af _ (.int _) n)=>match cm s y with
        | some (.af _ (.int _) c)=>match decEq i.size (S.sz τ) with
         | isTrue _=>(bq (0≤n∧n≤c∧(i.bytes:Int)*c≤281474976710656∧c≤9223372036854775807)).bind fun _=>
          k ((s.add (s.cP d) (.aT e true true τ (List.replicate (Int.toNat n) a))).put d (.aO (s.cP d) τ))
         | isFalse _=>none
        | _=>none
       | _=>none
      | none=>none
     | none=>none
    | none=>none
   | none=>none
  | _=>none
 | false=>none
theorem Nv {d:Nat}{t:TypeId}{x y:Operand}(hl:aY s) (h:Cc P s d t x y k=some r):fx P W s ⟨some d,.makeSlice t x y,ty,pos,after,guard⟩ k r:=by
 unfold Cc at h
 split at h
 ·rename_i hf
  split at h
  ·rename_i e hu
   split at h
   ·rename_i τ _
    split at h
    ·rename_i i hi
     split at h
     ·rename_i z hz
      split at h
      ·rename_i a ha
       split at h
       ·rename_i n hx
        split at h
        ·rename_i c hy
         split at h
         ·rename_i hs _
          obtain⟨u,hc,h⟩:=bind_some h
          obtain⟨c1,c2,c3,c4⟩:=cj hc
          obtain⟨z1,z2⟩:=Fl ha
          obtain⟨e1,hag⟩:=oo hf (.aT e true true τ (List.replicate (Int.toNat n) a)) rfl
          letI:=jA S τ
          refine .one _ (ET.Cc (α:=S.D τ) (x:=a) (sz:=S.sz τ) (bt:=i.bytes) (s.cP d) (jg hx) (jg hy) hu (by rw[hi,bG,hz,hs]) z2 rfl z1 c1 c2 c3 c4 (gk hf)) ?_ ((hl.add _ hf).put _ _) ⟨rfl,rfl,rfl⟩ h
          rw[fB,e1]
          have e2:(TV.aO (s.cP d) τ:TV S).er (s.add (s.cP d) (.aT e true true τ (List.replicate (Int.toNat n) a))).ln=.aO (s.cP d) (S.sz τ) 0 (List.replicate (Int.toNat n) a).length:=by
           show G.aO _ _ _ ((s.add (s.cP d) _).ln (s.cP d))=_
           rw[show(s.add (s.cP d) (.aT e true true τ (List.replicate (Int.toNat n) a))).ln (s.cP d)=_ from tl _ _]
           rfl
          rw[e2]
          exact Gh.refl _
         ·cases h
        ·cases h
       ·cases h
      ·cases h
     ·cases h
    ·cases h
   ·cases h
  ·cases h
 ·cases h
end
end
end Go.DN
/-
 DN,part I:values as plain data,cell by cell;slices built;stores.
-/
namespace Go.DN
open Go.AM
def Pl (m:G):Prop:=(∃u,m=.val u)∨∃n cs,m=.sl n cs
theorem I7 {O:Nat→Prop}{base:Nat}{w:World}{μ:Mu}{f:Bool}{m:G}{v:Value}(hm:Pl m) (h:aW O base w μ (dq f m) v):bA (bif f then ey O base else O) w m v:=by
 rcases hm with ⟨u,rfl⟩ | ⟨n,cs,rfl⟩
 ·have:dq f (.val u)=.val u:=by cases f <;> rfl
  rw[this] at h
  cases h with
  | aF h=>cases h;exact .val _
 ·cases f with
  | true=>cases h with
   | aF h=>cases h
   | fr h=>exact h
  | false=>cases h with
   | aF h=>exact h
theorem Pl.one {m:G}(hm:Pl m):∀{g:G}(f:Bool),g.one=true→True:=fun _ _=>trivial
section
variable {S:eB}
theorem vH {τ:Ty}(h:τ.fL=false) (a:S.D τ):Pl (dy S τ a):=by
 cases τ with
 | st n=>cases h
 | list t=>exact .inr ⟨_,_,rfl⟩
 | _=>exact .inl ⟨_,rfl⟩
theorem rI (τ:Ty) (a:S.D τ):∀m∈aK S τ a,Pl m:=by
 intro m hm
 cases τ with
 | st n=>
  rw[gq] at hm
  obtain⟨x,hx,rfl⟩:=iV.1 hm
  exact vH (jP n a x hx) x.a
 | _=>rw[jZ S rfl] at hm;simp at hm;subst hm;exact vH rfl a
theorem PZ (τ:Ty) (l:List (S.D τ)):∀m∈List.flatMap (aK S τ) l,Pl m:=by
 intro m hm
 obtain⟨a,_,h⟩:=g7.1 hm
 exact rI τ a m h
def vV (gs:List G) (f:Bool) (ms:List G):Prop:=gs.length=ms.length∧∀(j:Nat) (m:G),ms[j]?=some m→∃g,gs[j]?=some g∧RW g (dq f m)
theorem vV.flag {gs ms:List G}{f f':Bool}(h:vV gs f ms) (hf:f'=true→f=true):vV gs f' ms:=⟨h.1,fun j m hm=>let ⟨g,h1,h2⟩:=h.2 j m hm;⟨g,h1,h2.trans (RW.dq _ _ _ hf)⟩⟩
theorem vV.append {gs ms gs' ms':List G}{f:Bool}(h:vV gs f ms) (h':vV gs' f ms'):vV (gs++gs') f (ms++ms'):=by
 refine⟨by simp[h.1,h'.1],fun j m hm=>?_⟩
 rw[a8] at hm⊢
 rw[h.1]
 split at hm
 ·rename_i hj;rw[if_pos hj];exact h.2 j m hm
 ·rename_i hj;rw[if_neg hj];exact h'.2 _ m hm
theorem DX {τ:Ty}{v:TV S}{f:Bool}{a:S.D τ}(h:Bx τ v=some (f,a)) (ln:Nat→Nat):vV (cJ (v.er ln)) f (aK S τ a):=by
 unfold Bx at h
 split at h
 ·rename_i f' τ' a'
  split at h
  ·rename_i b hb
   cases h
   have:=dW hb
   cases this
   cases τ with
   | st n=>
    have e:(f'||(Ty.st n).fV)=f':=by cases f' <;> rfl
    rw[e]
    refine⟨by show((aK S (.st n) a).map (dq f')).length=_;rw[a5],fun j m hm=>⟨dq f' m,?_,RW.refl _⟩⟩
    show((aK S (.st n) a).map (dq f'))[j]?=_
    rw[ay,hm];rfl
   | list t=>
    have e:(f'||(Ty.list t).fV)=f':=by cases f' <;> rfl
    rw[e,jZ S rfl]
    refine⟨by cases f' <;> rfl,fun j m hm=>⟨dq f' m,?_,RW.refl _⟩⟩
    cases j with
    | zero=>cases hm;cases f' <;> rfl
    | succ j=>cases hm
   | _=>
    rw[jZ S rfl]
    refine⟨by cases f' <;> rfl,fun j m hm=>⟨dq f' m,?_,?_⟩⟩
    ·cases j with
     | zero=>cases hm;cases f' <;> rfl
     | succ j=>cases hm
    ·cases j with
     | zero=>cases hm;cases f' <;> exact RW.refl _
     | succ j=>cases hm
  ·cases h
 ·split at h
  ·cases h
   refine⟨rfl,fun j m hm=>⟨.val (.slice none 0 0),?_,?_⟩⟩
   ·cases j with
    | zero=>rfl
    | succ j=>cases hm
   ·cases j with
    | zero=>cases hm;exact RW.nil
    | succ j=>cases hm
  ·cases h
 ·split at h
  ·rename_i _ vs _ n
   split at h
   ·rename_i f1 l h1
    split at h
    ·rename_i a1 h2
     cases h
     obtain⟨i1,i2⟩:=CU ln h1
     have h3:=S.kD n l a h2
     rw[gq,h3]
     show vV (TV.er.go ln vs) _ _
     rw[cR]
     refine⟨by simp[i1],fun j m hm=>?_⟩
     rw[ay] at hm
     obtain⟨x,hx,rfl⟩:=au.1 hm
     obtain⟨v,h4,h5⟩:=i2 j x hx
     exact⟨v.er ln,by rw[ay,h4];rfl,h5⟩
    ·cases h
   ·cases h
  ·cases h
 ·cases h
theorem Gh.pure {s:St}{h:Nat}{k:ap}{cs:List G}{f:Bool}(hk:aq s.st h=some k) (hp:k.pure=false) (hlp:k.lp=none) (hpl:∀m∈cs,Pl m) (hc:vV k.cells f cs):
  Gh s {fr:=s.fr,st:=bw s.st h {k with pure:=true,fresh:=f,cells:=cs},df:=s.df}:=by
 refine Gh.of (fun N cx μ a w hr=>hr.vm hk rfl rfl rfl (by dsimp only;rw[hc.1];exact az _) hlp hlp fun j g' hg'=>?_) fun x k1 hx=>?_
 ·obtain⟨g,h1,h2⟩:=hc.2 j g' hg'
  refine⟨g,h1,fun v hv=>?_⟩
  unfold cv at hv⊢
  rw[hp] at hv
  exact I7 (hpl g' (ar hg')) (h2 _ _ _ _ _ hv)
 ·rcases cG hk hx with ⟨e,_⟩ | ⟨_,h1⟩
  ·subst e;exact⟨k,hk⟩
  ·exact⟨k1,h1⟩
def JB (τ:Ty):List (TV S)→Option (Bool×List (S.D τ))
 | []=>some (true,[])
 | v::r=>match Gx v with
  | true=>match Bx τ v with
   | some (f,a)=>match JB τ r with
    | some (g,l)=>some (f&&g,a::l)
    | none=>none
   | none=>none
  | false=>none
theorem Iu {τ:Ty}(ln:Nat→Nat):∀{vs:List (TV S)}{f:Bool}{l:List (S.D τ)},JB τ vs=some (f,l)→
  oY (S.sz τ) (TV.er.go ln vs)=true∧l.length=vs.length∧vV ((TV.er.go ln vs).flatMap cJ) f (List.flatMap (aK S τ) l)
 | [],_,_,h=>by cases h;exact⟨rfl,rfl,rfl,fun j m h=>by simp at h⟩
 | v::r,f,l,h=>by
  simp only[JB] at h
  split at h
  ·rename_i ho
   split at h
   ·rename_i f1 a h1
    split at h
    ·rename_i g l' h2
     cases h
     obtain⟨i1,i2,i3⟩:=Iu ln h2
     have h3:=DX h1 ln
     refine⟨?_,by simp[i2],?_⟩
     ·simp only[TV.er.go,oY,ai]
      refine⟨⟨qy ho ln,?_⟩,i1⟩
      rw[h3.1,qH];exact aG _
     ·simp only[TV.er.go,cn]
      exact(h3.flag fun h=>by simp at h;exact h.1).append (i3.flag fun h=>by simp at h;exact h.2)
    ·cases h
   ·cases h
  ·cases h
def vq (s:ah S):List (Nat×Operand)→Nat→Option (List (TV S))
 | [],_=>some []
 | (i,x)::r,j=>match Nat.beq i j with
  | true=>match cm s x with
   | some v=>match vq s r (j+1) with
    | some vs=>some (v::vs)
    | none=>none
   | none=>none
  | false=>none
theorem yi {s:ah S}:∀{l:List (Nat×Operand)}{j:Nat}{vs:List (TV S)},vq s l j=some vs→Hw s.er l j=some (TV.er.go s.ln vs)
 | [],_,_,h=>by cases h;rfl
 | (i,x)::r,j,vs,h=>by
  simp only[vq] at h
  split at h
  ·rename_i hb
   split at h
   ·rename_i v hv
    split at h
    ·rename_i vs' hr
     cases h
     simp only[Hw,hb,bf hv,yi hr,TV.er.go]
    ·cases h
   ·cases h
  ·cases h
section
variable {P:Program}{W:List Nat}{s:ah S}{ty:TypeId}{pos:String}{after:Array Edge}{guard:Option (Nat×Bool)}{A:Type}{k:ah S→Option A}{r:A}
def On (P:Program) (s:ah S) (d:Nat) (t:TypeId) (n:Nat) (parts:Array (Nat×Operand)){A:Type}(k:ah S→Option A):Option A:=
 match s.free (s.cP d) with
 | true=>match P.underlying t with
  | some (.slice e)=>match S.OG e with
   | some τ=>match P.info? e with
    | some i=>match i.zero with
     | some _=>match decEq i.size (S.sz τ) with
      | isTrue _=>match parts.toList with
       | []=>match n with
        | 0=>k ((s.add (s.cP d) (.aT e true true τ [])).put d (.aO (s.cP d) τ))
        | _=>none
       | p::ps=>match vq s (p::ps) 0 with
        | some vs=>match JB τ vs with
         | some (f,l)=>match Nat.beq vs.length n&&(Nat.ble (n*S.sz τ) 16777216&&Nat.blt 0 n) with
          | true=>k ((s.add (s.cP d) (.aT e true f τ l)).put d (.aO (s.cP d) τ))
          | false=>none
         | none=>none
        | none=>none
      | isFalse _=>none
     | none=>none
    | none=>none
   | none=>none
  | _=>none
 | false=>none
theorem Gq {s:ah S}{h:Nat}{e:TypeId}{m f:Bool}{τ:Ty}{l:List (S.D τ)}:(TV.aO h τ:TV S).er (s.add h (.aT e m f τ l)).ln=.aO h (S.sz τ) 0 l.length:=by
 show G.aO _ _ _ ((s.add h _).ln h)=_
 rw[show(s.add h (.aT e m f τ l)).ln h=_ from tl _ _]
 rfl
theorem Ln {h:Nat}{k k':ap}{r:List (Nat×ap)}:bw ((h,k)::r) h k'=(h,k')::r:=by
 simp only[bw,aG,cond_true]
theorem P9 {d:Nat}{t:TypeId}{n:Nat}{parts:Array (Nat×Operand)}(hl:aY s) (h:On P s d t n parts k=some r):fx P W s ⟨some d,.buildSlice t n parts,ty,pos,after,guard⟩ k r:=by
 unfold On at h
 split at h
 ·rename_i hf
  split at h
  ·rename_i e hu
   split at h
   ·rename_i τ _
    split at h
    ·rename_i i hi
     split at h
     ·rename_i z hz
      split at h
      ·rename_i hs _
       have hinfo:(P.info? e).map (fun i=>(i.zero,i.size,i.bytes))=some (some z,S.sz τ,i.bytes):=by rw[hi,bG,hz,hs]
       split at h
       ·rename_i hp
        have:=Iq hp
        subst this
        split at h
        ·obtain⟨e1,_⟩:=oo hf (.aT e true true τ ([]:List (S.D τ))) rfl
         refine .one _ (EF.Io (s.cP d) hu hinfo (gk hf)) ?_ ((hl.add _ hf).put _ _) ⟨rfl,rfl,rfl⟩ h
         rw[fB,e1,Gq]
         exact Gh.refl _
        ·cases h
       ·rename_i p ps hp
        split at h
        ·rename_i vs hv
         split at h
         ·rename_i f l ht
          split at h
          ·rename_i hc
           simp only[ai] at hc
           obtain⟨c1,c2,c3⟩:=hc
           have c1:=aa c1
           have c2:=eV c2
           have c3:0<n:=by simpa[fS] using c3
           obtain⟨i1,i2,i3⟩:=Iu s.ln ht
           obtain⟨e1,_⟩:=oo hf (.aT e true f τ l) rfl
           refine .one _ (EF.buildSlice (sz:=S.sz τ) (z:=z) (bt:=i.bytes) (s.cP d) (gs:=TV.er.go s.ln vs) (by rw[hp];exact yi hv) (by rw[cR,a5,c1]) hu hinfo (Nat.mul_pos c3 (By S τ)) c2 i1 (gk hf)) ?_ ((hl.add _ hf).put _ _) ⟨rfl,rfl,rfl⟩ h
           rw[fB,e1,Gq,i2,c1]
           have:=Gh.pure (s:={fr:=(d,.aO (s.cP d) (S.sz τ) 0 n)::s.er.fr,st:=(s.cP d,⟨e,false,true,false,S.sz τ,(TV.er.go s.ln vs).flatMap cJ,none⟩)::s.er.st,df:=s.er.df}) (h:=s.cP d)
            (dm _ _ _) rfl rfl (PZ τ l) i3
           rw[Ln] at this
           exact this
          ·cases h
         ·cases h
        ·cases h
      ·cases h
     ·cases h
    ·cases h
   ·cases h
  ·cases h
 ·cases h
end
end
end Go.DN
/-
 DN,part J:stores.
-/
namespace Go.DN
open Go.AM
section
variable {P:Program}{W:List Nat}{s:St}{ty:TypeId}{pos:String}{after:Array Edge}{guard:Option (Nat×Bool)}
theorem EF.Iv {t:TypeId}{x y:Operand}{h off sz:Nat}{k:ap}{g:G}{gs ms cells':List G}{f:Bool}(hx:ev s x=some (.loc h off)) (hy:ev s y=some g) (hk:aq s.st h=some k) (hp:k.pure=true)
  (hok:Ci g=true) (hgs:cJ g=gs) (hone:gs.all G.one=true) (hl:gs.length=sz) (hsz:∀w,(sizeOf t).run P w=.ok sz w) (hoff:off+sz≤k.cells.length) (hW:W.contains h=true)
  (hms:vV gs f ms) (hpl:∀m∈ms,Pl m)
  (hc':k.cells.take off++ms++k.cells.drop (off+sz)=cells') (hlp:k.lp=none):
  bH P W s ⟨none,.store t x y,ty,pos,after,guard⟩ (·={fr:=s.fr,st:=bw s.st h {k with fresh:=k.fresh&&f,cells:=cells'},df:=s.df}):=by
 refine bH.skip rfl (fun _ h=>by cases h) ?_
 intro N cx μ a w hr
 obtain⟨b,m,e1,hm⟩:=hr.loc hx
 obtain⟨cs,h1,h2,h3,h4,hbt,h5⟩:=hr.own hk hm hlp
 obtain⟨hvl,hvc⟩:=(hr.ev hy).cells hok
 rw[hgs] at hvl hvc
 have hml:ms.length=sz:=hms.1▸hl
 have hlen:(a.eval y).cells.toList.length=sz:=by rw[Array.length_toList,hvl,hl]
 have hrun:=run_storeCells_at P b off k.bM (a.eval y).cells.toList 0 cs w h1 (by rw[hlen];omega) (fun v hv=>by
  obtain⟨j,hj⟩:=bT hv
  have hjl:j<gs.length:=by
   have:=(al.1 hj).1
   omega
  obtain⟨u,hu,hru⟩:=hvc j gs[j] (ag hjl)
  rw[bn] at hj
  rw[hj] at hu
  cases hu
  exact hru.one (dJ.1 hone _ (ed hjl)))
 rw[di,hlen] at hrun
 refine⟨μ,w.setRow b (cs.toList.take off++(a.eval y).cells.toList++cs.toList.drop (off+sz)).toArray,?_,?_⟩
 ·simp only[execOp,Instr.storeAt,Instr.sureAddr,e1,storeVar,hsz,Sem.run_bind,Sem.run_pure,Result.andThen_ok]
  rw[if_neg (by rw[hvl,hl];simp)]
  rw[hrun]
  rfl
 ·subst hc'
  refine hr.write (k':={k with fresh:=k.fresh&&f,cells:=k.cells.take off++ms++k.cells.drop (off+sz)}) hk hm (fU h1) ?_ (setRow_size _ _ _) (fun b' hb'=>setRow_other w b b' _ hb') rfl rfl rfl id ?_ hbt ?_ W hW hlp
  ·simp only[kx,aj,aU,cp,Array.length_toList,hvl,hl];omega
  ·simp only[aj,aU,cp,hml];omega
  ·intro j g' hg'
   have fg:∀(j:Nat),(cs.toList.take off++(a.eval y).cells.toList++cs.toList.drop (off+sz)).toArray[j]?=if j<off then cs[j]? else if j<off+sz then(a.eval y).cells[j-off]? else cs[j]?:=by
    intro j
    rw[j9,aC,a8,aU,Array.length_toList,dt (by omega:off≤cs.size)]
    split
    ·rename_i hj;rw[a9,if_pos hj,bn]
    ·rw[a8,hlen]
     split
     ·rename_i hj1 hj2;rw[if_pos (by omega),bn]
     ·rename_i hj1 hj2;rw[if_neg (by omega),bi,bn];congr 1;omega
   dsimp only at hg'
   rw[aC,a8,aU,dt (by omega:off≤k.cells.length)] at hg'
   rw[fg]
   split at hg'
   ·rename_i hj
    rw[if_pos hj]
    rw[a9,if_pos hj] at hg'
    obtain⟨v,hv,hrv⟩:=h5 j g' hg'
    refine⟨v,hv,?_⟩
    unfold cv at hrv⊢
    dsimp only
    rw[hp] at hrv⊢
    exact hrv.flag fun h=>by simp at h;exact h.1
   ·rename_i hj
    rw[if_neg hj]
    rw[a8,hml] at hg'
    split at hg'
    ·rename_i hj2
     rw[if_pos (by omega)]
     obtain⟨g0,hg0,hw0⟩:=hms.2 _ g' hg'
     obtain⟨v,hv,hrv⟩:=hvc _ g0 hg0
     refine⟨v,hv,?_⟩
     unfold cv
     dsimp only
     rw[hp]
     exact(I7 (hpl g' (ar hg')) (hw0 _ _ _ _ _ hrv)).flag fun h=>by simp at h;exact h.2
    ·rename_i hj2
     rw[if_neg (by omega)]
     rw[bi] at hg'
     have:off+sz+(j-off-sz)=j:=by omega
     rw[this] at hg'
     obtain⟨v,hv,hrv⟩:=h5 j g' hg'
     refine⟨v,hv,?_⟩
     unfold cv at hrv⊢
     dsimp only
     rw[hp] at hrv⊢
     exact hrv.flag fun h=>by simp at h;exact h.1
end
section
variable {S:eB}
theorem eM (τ:Ty) (l:List (S.D τ)):(List.flatMap (aK S τ) l).length=l.length*S.sz τ:=@eO _ (jA S τ) l
theorem nI (τ:Ty) (l:List (S.D τ)) (n:Nat):(List.flatMap (aK S τ) l).take (n*S.sz τ)=List.flatMap (aK S τ) (l.take n):=@yK _ (jA S τ) l n
theorem nJ (τ:Ty) (l:List (S.D τ)) (n:Nat):(List.flatMap (aK S τ) l).drop (n*S.sz τ)=List.flatMap (aK S τ) (l.drop n):=@yL _ (jA S τ) l n
theorem iA (τ:Ty) (l m:List (S.D τ)):List.flatMap (aK S τ) (l++m)=List.flatMap (aK S τ) l++List.flatMap (aK S τ) m:=List.flatMap_append
theorem Mz (τ:Ty){l:List (S.D τ)}{i:Nat}{a b:S.D τ}(hi:l[i]?=some b):List.flatMap (aK S τ) (l.set i a)=(List.flatMap (aK S τ) l).take (i*S.sz τ)++aK S τ a++(List.flatMap (aK S τ) l).drop (i*S.sz τ+S.sz τ):=by
 have hlt:=(al.1 hi).1
 rw[cK,if_pos hlt,iA,cn,nI]
 have:i*S.sz τ+S.sz τ=(i+1)*S.sz τ:=by rw[dA,Nat.one_mul]
 rw[this,nJ,aC]
theorem EC (n:Nat){l:List (S.α n)}{i j:Nat}{a b:S.α n}{x:bo S.α}(hi:l[i]?=some b) (hj:j<(S.cells n b).length) (ha:S.cells n a=(S.cells n b).set j x):
  List.flatMap (aK S (.st n)) (l.set i a)=(List.flatMap (aK S (.st n)) l).take (i*S.sz (.st n)+j)++[dy S x.τ x.a]++(List.flatMap (aK S (.st n)) l).drop (i*S.sz (.st n)+j+1):=by
 have hlt:=(al.1 hi).1
 have hlen:(S.cells n b).length=S.sz (.st n):=by
  have:=congrArg List.length (S.mJ n b)
  rw[a5] at this
  exact this
 have hsplit:List.flatMap (aK S (.st n)) l=List.flatMap (aK S (.st n)) (l.take i)++((S.cells n b).map (fun x=>dy S x.τ x.a)++List.flatMap (aK S (.st n)) (l.drop (i+1))):=by
  have e:l=l.take i++b::l.drop (i+1):=by
   have:=(al.1 hi).2
   rw[←this,List.getElem_cons_drop,List.take_append_drop]
  conv=>lhs;rw[e]
  rw[iA,cn]
  show _++(aK S (.st n) b++_)=_
  rw[gq]
 have hset:List.flatMap (aK S (.st n)) (l.set i a)=List.flatMap (aK S (.st n)) (l.take i)++((S.cells n a).map (fun x=>dy S x.τ x.a)++List.flatMap (aK S (.st n)) (l.drop (i+1))):=by
  rw[cK,if_pos hlt,iA,cn]
  show _++(aK S (.st n) a++_)=_
  rw[gq]
 have hpre:(List.flatMap (aK S (.st n)) (l.take i)).length=i*S.sz (.st n):=by
  rw[eM,aU,dt (Nat.le_of_lt hlt)]
 rw[hset,hsplit,ha]
 generalize List.flatMap (aK S (.st n)) (l.take i)=pre at hpre
 generalize List.flatMap (aK S (.st n)) (l.drop (i+1))=post
 generalize S.cells n b=cb at hj
 have e1:(pre++(cb.map (fun x=>dy S x.τ x.a)++post)).take (i*S.sz (.st n)+j)=pre++(cb.map (fun x=>dy S x.τ x.a)).take j:=by
  rw[List.take_append,hpre,b6 (by omega),List.take_append]
  have:i*S.sz (.st n)+j-i*S.sz (.st n)=j:=by omega
  rw[this]
  have:j-(cb.map (fun x=>dy S x.τ x.a)).length=0:=by rw[a5];omega
  rw[this,List.take_zero,b9]
 have e2:(pre++(cb.map (fun x=>dy S x.τ x.a)++post)).drop (i*S.sz (.st n)+j+1)=(cb.map (fun x=>dy S x.τ x.a)).drop (j+1)++post:=by
  rw[List.drop_append,hpre,List.drop_of_length_le (by omega),dc,List.drop_append]
  have:i*S.sz (.st n)+j+1-i*S.sz (.st n)=j+1:=by omega
  rw[this]
  have:j+1-(cb.map (fun x=>dy S x.τ x.a)).length=0:=by rw[a5];omega
  rw[this,eD]
 rw[e1,e2,kz,cK,if_pos (by rw[a5];exact hj)]
 simp only[aC,bx,dc]
theorem MK {τ:Ty}(hs:τ.fV=true) (x:S.D τ):∃u,dy S τ x=.val u:=by
 cases τ with
 | list _=>cases hs
 | st _=>cases hs
 | _=>exact⟨_,rfl⟩
theorem Ob {f:Bool}{τ:Ty}(hs:τ.fV=true){x:S.D τ}{u:Value}(hu:dy S τ x=.val u):nf f τ x=.val u:=by
 rw[←hu]
 cases τ with
 | list _=>cases hs
 | st _=>cases hs
 | _=>cases f <;> rfl
theorem MD {f:Bool}{τ:Ty}(hs:τ.fV=true){x:S.D τ}:dL (TV.af f τ x:TV S)=[.af f τ x]:=by
 cases τ with
 | list _=>cases hs
 | st _=>cases hs
 | _=>rfl
def Dx {A:Type}:(τ':Ty)→S.D τ'→Ty→Nat→Nat→TV S→(S.D τ'→Option A)→Option A
 | .list (.list t),ll,τ,i,j,vy,k=>match t.fV with
  | true=>match decEq τ t with
   | isTrue _=>match mK t vy with
    | some x=>(ll[i]?).bind fun r=>(bq (j<List.length r)).bind fun _=>k (List.set ll i (List.set r j x.2))
    | none=>none
   | isFalse _=>none
  | false=>none
 | _,_,_,_,_,_,_=>none
theorem KE {A:Type}{r0:A}:∀{τ':Ty}{a:S.D τ'}{τ:Ty}{i j:Nat}{vy:TV S}{k:S.D τ'→Option A},Dx τ' a τ i j vy k=some r0→
  ∃(u:Value) (n:Nat) (gs:List G) (a':S.D τ'),S.sz τ=1∧(∀ln,vy.er ln=.val u)∧dL vy=[vy]∧(dD τ' a).2[i]?=some (n,gs)∧j<gs.length∧k a'=some r0∧rO τ' a'=rO τ' a∧
   (dD τ' a').1=(dD τ' a).1∧(dD τ' a').2=(dD τ' a).2.set i (n,gs.set j (.val u))
 | .list (.list t),ll,τ,i,j,vy,k,h=>by
  simp only[Dx] at h
  split at h
  ·rename_i hs
   split at h
   ·rename_i e _
    subst e
    split at h
    ·rename_i x hx
     obtain⟨r,h1,h⟩:=bind_some h
     obtain⟨_,h2,h⟩:=bind_some h
     have h2:=cj h2
     obtain⟨f,x⟩:=x
     have hst:τ.fL=false:=by cases τ <;> first | rfl | cases hs
     have hv:∃u,dy S τ x=.val u∧(∀ln,vy.er ln=.val u)∧dL vy=[vy]:=by
      unfold mK at hx
      split at hx
      ·split at hx
       ·cases hx
       ·rename_i hns
        split at hx
        ·rename_i b hb
         cases hx
         have:=dW hb
         cases this
         obtain⟨u,hu⟩:=MK hs x
         exact⟨u,hu,fun _=>Ob hs hu,MD hs⟩
        ·cases hx
      ·split at hx
       ·cases hs
       ·cases hx
      ·cases hx
     obtain⟨u,hu,hv1,hv2⟩:=hv
     have hsz:S.sz τ=1:=by cases τ <;> first | rfl | cases hs
     have hone:∀l:List (S.D τ),List.flatMap (aK S τ) l=l.map (dy S τ):=by
      intro l
      induction l with
      | nil=>rfl
      | cons y r ih=>rw[cn,ih,jZ S hst];rfl
     refine⟨u,List.length r,List.flatMap (aK S τ) r,_,hsz,hv1,hv2,by show(List.map _ ll)[i]?=_;rw[ay,h1];rfl,?_,h,?_,rfl,?_⟩
     ·rw[hone,a5];exact h2
     ·show(List.set ll i _).length=ll.length
      exact de
     ·show List.map _ (List.set ll i _)=List.set (List.map _ ll) i _
      rw[kz]
      congr 1
      show(List.length (List.set r j x),List.flatMap (aK S τ) (List.set r j x))=_
      rw[de,hone,hone,kz,hu]
    ·cases h
   ·cases h
  ·cases h
 | .list (.int _),_,_,_,_,_,_,h=>by cases h
 | .list .bool,_,_,_,_,_,_,h=>by cases h
 | .list .str,_,_,_,_,_,_,h=>by cases h
 | .list (.st _),_,_,_,_,_,_,h=>by cases h
 | .int _,_,_,_,_,_,_,h=>by cases h
 | .bool,_,_,_,_,_,_,h=>by cases h
 | .str,_,_,_,_,_,_,h=>by cases h
 | .st _,_,_,_,_,_,_,h=>by cases h
def AF (ki:IntKind) (l:List Int) (i:Nat) (v:Int):List (TV S):=(List.range l.length).map fun m=>.af true (.int ki) ((l.set i v).getD m 0)
theorem Pq (ki:IntKind) (cs:List (TV S)) (j i:Nat) (v:Int) (hi:i<(jJ ki (cs.drop j)).length) (ln:Nat→Nat):
  (cs.take j++AF ki (jJ ki (cs.drop j)) i v++cs.drop (j+(jJ ki (cs.drop j)).length)).map (TV.er ln)=(cs.map (TV.er ln)).set (j+i) (.val (.int ki v)):=by
 generalize hl:jJ ki (cs.drop j)=l at hi
 have hg:∀m,m<l.length→∃f,cs[j+m]?=some (.af f (.int ki) (l.getD m 0)):=fun m hm=>by
  have h1:(jJ ki (cs.drop j))[m]?=some (l.getD m 0):=by rw[hl,aL,ag hm];rfl
  obtain⟨f,h2⟩:=uy h1
  exact⟨f,by rwa[bi] at h2⟩
 have hjl:j+l.length≤cs.length:=by
  obtain⟨f,h⟩:=hg (l.length-1) (by omega)
  have:=(al.1 h).1
  omega
 have htl:(cs.take j).length=j:=by rw[aU];omega
 have hpl:(AF (S:=S) ki l i v).length=l.length:=by unfold AF;simp
 apply kA
 intro q
 rw[ay,dI,a5]
 by_cases h1:q<j
 ·rw[cF (by rw[aj,htl];omega),cF (by omega),a9,if_pos h1,if_neg (by omega),ay]
 ·by_cases h2:q<j+l.length
  ·obtain⟨m,rfl⟩:∃m,q=j+m:=⟨q-j,by omega⟩
   have hm:m<l.length:=by omega
   rw[cF (by rw[aj,htl,hpl];omega),cS (by omega),htl,show j+m-j=m by omega]
   unfold AF
   rw[ay,jC hm,bG,bG]
   show some (nf true (.int ki) _)=_
   rw[qJ]
   by_cases h3:m=i
   ·subst h3
    rw[if_pos rfl,if_pos (by omega),aL,cD hm]
    rfl
   ·rw[if_neg (by omega),aL,eC (fun e=>h3 e.symm),←aL]
    obtain⟨f,h4⟩:=hg m hm
    rw[ay,h4]
    exact congrArg some (qJ f ki _).symm
  ·rw[cS (by rw[aj,htl,hpl];omega),aj,htl,hpl,bi,show j+l.length+(q-(j+l.length))=q by omega,if_neg (by omega),ay]
def NI (ki:IntKind):TV S→Option Int
 | .af _ (.int k) a=>match decEq k ki with
  | isTrue _=>some a
  | isFalse _=>none
 | _=>none
theorem PM {ki:IntKind}{v:TV S}{a:Int}(h:NI ki v=some a):∃f,v=.af f (.int ki) a:=by
 unfold NI at h
 split at h
 ·rename_i f k b
  split at h
  ·rename_i e _
   subst e
   cases h
   exact⟨f,rfl⟩
  ·cases h
 ·cases h
def xU (P:Program) (ok:Nat→Bool) (s:ah S) (t:TypeId) (x y:Operand){A:Type}(k:ah S→Option A):Option A:=
 match cm s y with
 | some vy=>match Gx vy&&B3 (dL vy) with
  | true=>match decEq (kq P t) (some (dL vy).length) with
   | isTrue _=>match cm s x with
    | some (.loc h off)=>match ok h with
     | true=>match aw s.st h with
      | some (.box e m cs)=>match Nat.ble (off+(dL vy).length) cs.length with
       | true=>k (s.set h (.box e m (cs.take off++dL vy++cs.drop (off+(dL vy).length))))
       | false=>none
      | _=>none
     | false=>none
    | some (.gF h τ i j)=>match ok h with
     | true=>match aw s.st h with
      | some (.aT e m f τ' l)=>match decEq τ' τ with
       | isTrue _=>Cw s x h l i fun y=>match Nat.beq (dL vy).length (S.sz τ') with
        | true=>match j with
         | 0=>match Bx τ' vy with
          | some (fy,a)=>k (s.set h (.aT e m (f&&fy) τ' (l.set i a)))
          | none=>none
         | _=>none
        | false=>match τ',l,y with
         | .st n,l,⟨.st n',b⟩=>match decEq n' n with
          | isTrue hn=>match (S.dg n)[j]? with
           | some τj=>match mK τj vy with
            | some (fy,a)=>match S.put n ((S.cells n' b).set j ⟨τj,a⟩) with
             | some b'=>k (s.set h (.aT e m (f&&fy) (.st n) (l.set i b')))
             | none=>none
            | none=>none
           | none=>none
          | isFalse _=>none
         | _,_,_=>none
       | isFalse _=>none
      | some (.box e m cs)=>match τ with
       | .int ki=>match NI ki vy with
        | some v=>(bq (i<(jJ ki (cs.drop j)).length)).bind fun _=>k (s.set h (.box e m (cs.take j++AF ki (jJ ki (cs.drop j)) i v++cs.drop (j+(jJ ki (cs.drop j)).length))))
        | none=>none
       | _=>none
      | _=>none
     | false=>none
    | some (.kp h τ i j)=>match ok h with
     | true=>match aw s.st h with
      | some (.deep e m f (.dG kty) τ' a)=>Dx τ' a τ i j vy fun a'=>k (s.set h (.deep e m f (.dG kty) τ' a'))
      | _=>none
     | false=>none
    | _=>none
   | isFalse _=>none
  | false=>none
 | none=>none
theorem JC {τ:Ty}{v:TV S}{f:Bool}{a:S.D τ}(h:mK τ v=some (f,a)) (ln:Nat→Nat):vV (cJ (v.er ln)) f [dy S τ a]∧dL v=[v]:=by
 have ⟨h1,h2⟩:=CX h ln
 have hc:dL v=[v]:=by
  cases v with
  | af f' τ' a'=>
   cases τ' with
   | st n=>simp[mK,Ty.fL] at h
   | _=>rfl
  | agg l=>simp[mK] at h
  | _=>rfl
 refine⟨?_,hc⟩
 have hg:cJ (v.er ln)=[v.er ln]:=by
  cases v with
  | af f' τ' a'=>
   cases τ' with
   | st n=>simp[mK,Ty.fL] at h
   | _=>cases f' <;> rfl
  | val u=>
   unfold mK at h
   split at h
   ·rename_i e;cases e
   ·rename_i e;cases e;rfl
   ·cases h
  | _=>simp[mK] at h
 rw[hg]
 refine⟨rfl,fun j m hm=>?_⟩
 cases j with
 | zero=>cases hm;exact⟨_,rfl,h2⟩
 | succ j=>cases hm
section
variable {P:Program}{W:List Nat}{s:ah S}{ty:TypeId}{pos:String}{after:Array Edge}{guard:Option (Nat×Bool)}{A:Type}{k:ah S→Option A}{r:A}
theorem Lk {t:TypeId}{x y:Operand}{hh n i j:Nat}{e:TypeId}{m f fy:Bool}{l:List (S.D (.st n))}{b b2:S.D (.st n)}{vy:TV S}{τj:Ty}{a:S.D τj}(hl:aY s) (hx:cm s x=some (.gF hh (.st n) i j)) (hy:cm s y=some vy) (hok:Gx vy=true) (hones:B3 (dL vy)=true)
  (hsz:kq P t=some (dL vy).length) (hW:W.contains hh=true) (ho:aw s.st hh=some (.aT e m f (.st n) l)) (hb:l[i]?=some b) (hj:(S.dg n)[j]?=some τj) (ha:mK τj vy=some (fy,a)) (hp:S.put n ((S.cells n b).set j ⟨τj,a⟩)=some b2)
  (h:k (s.set hh (.aT e m (f&&fy) (.st n) (l.set i b2)))=some r):fx P W s ⟨none,.store t x y,ty,pos,after,guard⟩ k r:=by
 have hg:=uk hok s.ln
 have hil:=(al.1 hb).1
 have htot:(i+1)*S.sz (.st n)≤l.length*S.sz (.st n):=b5 _ hil
 rw[dA,Nat.one_mul] at htot
 obtain⟨hcs,ht1⟩:=JC ha s.ln
 have hlen:(S.cells n b).length=S.sz (.st n):=by
  have:=congrArg List.length (S.mJ n b)
  rw[a5] at this
  exact this
 have hjl:j<S.sz (.st n):=(al.1 hj).1
 rw[ht1] at hsz hones hg
 have hcell:=S.kD _ _ _ hp
 have hset:=EC n hb (by rw[hlen];exact hjl) hcell
 obtain⟨e2,_⟩:=kZ (o':=.aT e m (f&&fy) (.st n) (l.set i b2)) ho (by show(l.set i b2).length=l.length;exact de)
 refine .one _ (EF.Iv (f:=fy) (ms:=[dy S τj a]) (bf hx) (bf hy) (cO (dQ ho)) rfl (qy hok s.ln) hg (ny s.ln hones) (by rw[cR,a5]) (dw hsz)
  (by show i*S.sz (.st n)+j+1≤(List.flatMap (aK S (.st n)) l).length;rw[eM];omega) hW (hg▸hcs) (fun m hm=>by simp at hm;subst hm;exact vH (CX ha s.ln).1 a) rfl rfl) ?_ (hl.set ho _) ⟨rfl,rfl,rfl⟩ h
 rw[e2]
 have:(TO.aT e m (f&&fy) (.st n) (l.set i b2):TO S).er s.ln=⟨e,true,m,f&&fy,S.sz (.st n),(List.flatMap (aK S (.st n)) l).take (i*S.sz (.st n)+j)++[dy S τj a]++(List.flatMap (aK S (.st n)) l).drop (i*S.sz (.st n)+j+1),none⟩:=by
  simp only[TO.er]
  rw[hset]
 rw[this]
 exact Gh.refl _
theorem xT {ok:Nat→Bool}(hokW:∀h,ok h=true→W.contains h=true){t:TypeId}{x y:Operand}(hl:aY s) (h:xU P ok s t x y k=some r):fx P W s ⟨none,.store t x y,ty,pos,after,guard⟩ k r:=by
 unfold xU at h
 split at h
 ·rename_i vy hy
  split at h
  ·rename_i hov
   simp only[ai] at hov
   obtain⟨hok,hones⟩:=hov
   have hg:=uk hok s.ln
   split at h
   ·rename_i hsz _
    split at h
    ·rename_i hh off hx
     split at h
     ·rename_i hW
      split at h
      ·rename_i e m cs ho
       split at h
       ·rename_i hb
        have hb:=eV hb
        obtain⟨e1,_⟩:=kZ (o':=.box e m (cs.take off++dL vy++cs.drop (off+(dL vy).length))) ho rfl
        refine .one _ (EF.Lj (bf hx) (bf hy) (cO (dQ ho)) rfl (qy hok s.ln) hg (ny s.ln hones) (by rw[cR,a5]) (dw hsz) (by show _≤(TV.er.go s.ln cs).length;rw[cR,a5];exact hb) (hokW _ hW) rfl) ?_ (hl.set ho _) ⟨rfl,rfl,rfl⟩ h
        rw[e1]
        have:(TO.box e m (cs.take off++dL vy++cs.drop (off+(dL vy).length)):TO S).er s.ln={(TO.box e m cs:TO S).er s.ln with cells:=((TO.box e m cs:TO S).er s.ln).cells.take off++TV.er.go s.ln (dL vy)++((TO.box e m cs:TO S).er s.ln).cells.drop (off+(dL vy).length)}:=by
         simp only[TO.er,cR,kv,List.map_take,List.map_drop]
        rw[this]
        exact Gh.refl _
       ·cases h
      ·cases h
     ·cases h
    ·rename_i hh τ i j hx
     split at h
     ·rename_i hW
      split at h
      ·rename_i e m f τ' l ho
       split at h
       ·rename_i e1 _
        subst e1
        obtain⟨b,hb,h2⟩:=Ba hl ⟨j,hx⟩ (dQ ho) h
        replace h:=h2
        clear h2
        have hil:=(al.1 hb).1
        have htot:(i+1)*S.sz τ'≤l.length*S.sz τ':=b5 _ hil
        rw[dA,Nat.one_mul] at htot
        split at h
        ·rename_i hc
         have hc:=aa hc
         split at h
         ·split at h
          ·rename_i fy a ha
           have hcs:=DX ha s.ln
           obtain⟨e2,_⟩:=kZ (o':=.aT e m (f&&fy) τ' (l.set i a)) ho (by show(l.set i a).length=l.length;simp)
           refine .one _ (EF.Iv (f:=fy) (ms:=aK S τ' a) (bf hx) (bf hy) (cO (dQ ho)) rfl (qy hok s.ln) hg (ny s.ln hones) (by rw[cR,a5]) (dw hsz) (by show _≤(List.flatMap (aK S τ') l).length;rw[eM,hc];omega) (hokW _ hW) (hg▸hcs) (rI τ' a) rfl rfl) ?_ (hl.set ho _) ⟨rfl,rfl,rfl⟩ h
           rw[e2]
           have:(TO.aT e m (f&&fy) τ' (l.set i a):TO S).er s.ln=⟨e,true,m,f&&fy,S.sz τ',(List.flatMap (aK S τ') l).take (i*S.sz τ'+0)++aK S τ' a++(List.flatMap (aK S τ') l).drop (i*S.sz τ'+0+(dL vy).length),none⟩:=by
            simp only[TO.er]
            rw[Mz τ' hb,hc,di]
           rw[this]
           exact Gh.refl _
          ·cases h
         ·cases h
        ·rename_i hc
         split at h
         ·rename_i n l' n' b' _ _ _
          split at h
          ·rename_i hn _
           subst hn
           split at h
           ·rename_i τj hj
            split at h
            ·rename_i fy a ha
             split at h
             ·rename_i b2 hp
              have he:=‹({τ:=Ty.st n,a:=b}:bo S.α)={τ:=Ty.st n,a:=l'}›
              cases he
              exact Lk hl hx hy hok hones hsz (hokW _ hW) ho hb hj ha hp h
             ·cases h
            ·cases h
           ·cases h
          ·cases h
         ·cases h
       ·cases h
      ·rename_i e m cs ho
       split at h
       ·rename_i ki
        split at h
        ·rename_i v hiv
         obtain⟨fv,rfl⟩:=PM hiv
         ·obtain⟨_,hc,h⟩:=bind_some h
          have hc:=cj hc
          obtain⟨f0,hv0⟩:=uy (ag hc)
          rw[bi] at hv0
          have hjl:=(al.1 hv0).1
          obtain⟨e1,_⟩:=kZ (o':=.box e m (cs.take j++AF ki (jJ ki (cs.drop j)) i v++cs.drop (j+(jJ ki (cs.drop j)).length))) ho rfl
          refine .one _ (EF.Lj (bf hx) (bf hy) (cO (dQ ho)) rfl (qy hok s.ln) hg (ny s.ln hones) (by rw[cR,a5]) (dw hsz) (by
           show i*1+j+1≤(TV.er.go s.ln cs).length
           rw[cR,a5];omega) (hokW _ hW) rfl) ?_ (hl.set ho _) ⟨rfl,rfl,rfl⟩ h
          rw[e1]
          have:(TO.box e m (cs.take j++AF ki (jJ ki (cs.drop j)) i v++cs.drop (j+(jJ ki (cs.drop j)).length)):TO S).er s.ln={(TO.box e m cs:TO S).er s.ln with cells:=((TO.box e m cs:TO S).er s.ln).cells.take (i*1+j)++TV.er.go s.ln (dL (.af fv (.int ki) v:TV S))++((TO.box e m cs:TO S).er s.ln).cells.drop (i*1+j+1)}:=by
           simp only[TO.er,cR]
           rw[Pq ki cs j i v hc s.ln,cK,if_pos (by rw[a5];omega),show i*1+j=j+i by omega]
           have:(dL (.af fv (.int ki) v:TV S)).map (TV.er s.ln)=[.val (.int ki v)]:=congrArg (fun g=>[g]) (qJ fv ki v)
           rw[this]
           simp
          rw[this]
          exact Gh.refl _
        ·cases h
       ·cases h
      ·cases h
     ·cases h
    ·rename_i hh τ i j hx
     split at h
     ·rename_i hW
      split at h
      ·rename_i e m f kty τ' a ho
       obtain⟨u,n,gs,a',hsz1,hv1,hv2,h1,h2,h0,h3,h4,h5⟩:=KE h
       rw[hv2] at hsz
       obtain⟨e1,_⟩:=kZ (o':=.deep e m f (.dG kty) τ' a') ho h3
       refine .one _ (EF.DA (f:=true) (g:=.val u) (g':=.val u) (by rw[bf hx];rfl) (by rw[bf hy,hv1]) (cO (dQ ho)) rfl h1 (by rw[hsz1,dX];exact h2) rfl (by
        have:=ny s.ln hones
        rw[hv2] at this
        simpa[TV.er.go,hv1] using this) (dw hsz) (hokW _ hW)) ?_ (hl.set ho _) ⟨rfl,rfl,rfl⟩ h0
       rw[e1,hsz1,dX]
       have:(TO.deep e m f (.dG kty) τ' a':TO S).er s.ln=⟨e,true,m,f&&true,1,[],some (.deep (ij e kty (dD τ' a).1 ((dD τ' a).2.set i (n,gs.set j (.val u)))))⟩:=by
        show ap.mk _ _ _ _ _ _ (some (.deep (ij e kty (dD τ' a').1 (dD τ' a').2)))=_
        rw[h4,h5,iW]
       rw[this]
       exact Gh.refl _
      ·cases h
     ·cases h
    ·cases h
   ·cases h
  ·cases h
 ·cases h
end
end
end Go.DN
/-
 DN,part K:append.
-/
namespace Go.DN
open Go.AM
theorem bH.gh {P:Program}{W:List Nat}{s t:St}{o:Oper}{T:St→Prop}(h:Gh s t) (he:bH P W t o T):bH P W s o T:=by
 refine⟨he.1,fun N cx μ a w hr hd K Q hK=>?_⟩
 obtain⟨μ',h1,h2⟩:=h N cx μ a w hr
 refine he.2 N cx μ' a w h1 hd K Q fun μ2 s' a' w' hr' ht hst=>hK μ2 s' a' w' hr' ht ⟨hst.size,fun b hb hn=>hst.block b hb fun x k c m hx hk hm hi=>?_,fun x k' c m' b hx hk hm hi=>?_⟩
 ·obtain⟨k0,c0,m0,h3,h4,h5⟩:=h2 x k c m b hk hm hi
  exact hn x k0 c0 m0 hx h3 h4 h5
 ·rcases hst.hand x k' c m' b hx hk hm hi with ⟨h0,k,c1,m,h3,h4,h5,h5i⟩ | h3
  ·obtain⟨k0,c0,m0,h6,h7,h8⟩:=h2 h0 k c1 m b h4 h5 h5i
   exact .inl ⟨h0,k0,c0,m0,h3,h6,h7,h8⟩
  ·exact .inr h3
theorem Gh.lT {s:St}{t:Nat}(hd:Nat) (k:ap) (hg:get s.fr t=some (.val (.slice none 0 0))) (hf:fresh s hd=true) (hk:k.cells=[]) (hlp:k.lp=none):
  Gh s {fr:=(t,.aO hd k.sz 0 0)::s.fr,st:=(hd,k)::s.st,df:=s.df}:=fun N cx μ a w h=>by
 obtain⟨h1,h2,h3,h5,h6⟩:=eX hf
 obtain⟨h4,hO⟩:=h.st.vz h1 h3 (gS h6) hk hlp
 refine⟨fR μ hd none,{st:=h4,nd:=(h.nd.mono (Kept.refl _ _) (fun b _=>hO b)).fE (fun g hg y hy=>aR fun e=>by subst e;rw[lP h5 hg] at hy;cases hy),sz:=h.sz,fr:=fun t' g hg'=>?_},Gh.same fun x k1 b m hx hm=>?_⟩
 ·rw[gC] at hg'
  cases hb:Nat.beq t t' with
  | true=>
   rw[hb] at hg'
   cases hg'
   have:=aa hb
   subst this
   obtain⟨v,hv,hr⟩:=h.fr t _ hg
   cases hr with
   | aF hr=>cases hr;exact⟨_,hv,.eL hd k.sz (bu _ _ _)⟩
  | false=>
   rw[hb] at hg'
   obtain⟨v,hv,hr⟩:=h.fr t' g hg'
   refine⟨v,hv,(hr.mono (Kept.refl _ _) (fun b _=>hO b) (az _)).fE fun y hy=>aR ?_⟩
   intro e
   subst e
   rw[kL h2 hg'] at hy
   cases hy
 ·by_cases e:x=hd
  ·subst e;rw[bu] at hm;cases hm
  ·rw[aR e] at hm
   exact⟨k1,by rw[←aD k _ e];exact hx,hm⟩
section
variable {S:eB}
def JI (s:ah S) (h:Nat) (τ:Ty):TV S→Option (Bool×List (S.D τ))
 | .af f (.list τ') m=>match ik (.list τ') (.list τ) m with
  | some m=>some (f,m)
  | none=>none
 | .aO h2 τ2=>match Nat.beq h2 h with
  | true=>none
  | false=>match aw s.bg h2 with
   | some (.aT _ _ f τ' m)=>match decEq τ' τ2 with
    | isTrue _=>match ik (.list τ') (.list τ) m with
     | some m=>some (f,m)
     | none=>none
    | isFalse _=>none
   | _=>none
 | .sub h2 τ2 o n=>match Nat.beq h2 h with
  | true=>none
  | false=>match aw s.bg h2 with
   | some (.aT _ _ f τ' m)=>match decEq τ' τ2 with
    | isTrue _=>match ik (.list τ') (.list τ) m with
     | some m=>some (f,(m.drop o).take n)
     | none=>none
    | isFalse _=>none
   | _=>none
 | .val (.slice none 0 0)=>some (true,[])
 | _=>none
def JJ (s:ah S) (v:TV S){A:Type}(k:Option A):Option A:=
 match v with
 | .sub h2 τ2 o n=>match aw s.bg h2 with
  | some (.aT _ _ _ _ m)=>(bq (o+n≤m.length)).bind fun _=>k
  | _=>none
 | _=>k
def KW (P:Program) (ok:Nat→Bool) (s:ah S) (d:Nat) (t h:Nat) (τ:Ty) (vy:TV S){A:Type}(k:ah S→Option A):Option A:=
 match ok h&&(Nat.blt h 1000&&(!(TV.has.go h s.df)&&(!(gl h s.lo)&&!(eH h s.bL)))) with
 | true=>match aw s.st h with
  | some (.aT e m f τ' l)=>match decEq τ' τ with
   | isTrue _=>match P.underlying t with
    | some (.slice e')=>match decEq e e' with
     | isTrue _=>match P.info? e with
      | some i=>match i.zero with
       | some z=>match decEq i.size (S.sz τ),decEq z.cells.size (S.sz τ) with
        | isTrue _,isTrue _=>match JI s h τ' vy with
         | some (fy,ml)=>JJ s vy ((bq (List.length l+List.length ml≤maxLen∧(List.length l+List.length ml)*i.bytes≤140737488355328)).bind fun _=>
          k ((s.renew h (.aT e m (f&&(fy||τ'.fV)) τ' (l++ml))).put d (.aO h τ')))
         | none=>none
        | _,_=>none
       | none=>none
      | none=>none
     | isFalse _=>none
    | _=>none
   | isFalse _=>none
  | _=>none
 | false=>none
theorem Gh.fV {s:St}{h:Nat}{k:ap}{τ:Ty}{l:List (S.D τ)}(hs:τ.fV=true) (hk:aq s.st h=some k) (hc:k.cells=List.flatMap (aK S τ) l) (hp:k.pure=true) (hlp:k.lp=none):
  Gh s {fr:=s.fr,st:=bw s.st h {k with fresh:=true},df:=s.df}:=by
 letI:=jA S τ
 haveI:Flat (S.D τ):=⟨fun a g hg=>by
  have hg:g∈aK S τ a:=hg
  cases τ with
  | int _=>exact⟨_,cB.1 hg⟩
  | bool=>exact⟨_,cB.1 hg⟩
  | str=>exact⟨_,cB.1 hg⟩
  | list _=>cases hs
  | st _=>cases hs
  | map=>cases hs⟩
 refine Gh.of (fun N cx μ a w hr=>hr.qp (l:=l) hk hc hp hlp) fun x k' hx=>?_
 rcases cG hk hx with ⟨rfl,_⟩ | ⟨_,h2⟩
 ·exact⟨k,hk⟩
 ·exact⟨k',h2⟩
theorem JG {h:Nat}{k k':ap}{r:List (Nat×ap)}:bw ((h,k)::r) h k'=(h,k')::r:=by
 simp[bw]
theorem Gh.Rw {fr:List (Nat×G)}{r:List (Nat×ap)}{df:List G}{h:Nat}{e:TypeId}{m f fy:Bool}{n:Nat}{τ:Ty}{l:List (S.D τ)}:
  Gh ⟨fr,(h,⟨e,true,m,f&&fy,n,List.flatMap (aK S τ) l,none⟩)::r,df⟩ ⟨fr,(h,⟨e,true,m,f&&(fy||τ.fV),n,List.flatMap (aK S τ) l,none⟩)::r,df⟩:=by
 cases hs:τ.fV with
 | false=>rw[Bool.or_false];exact Gh.refl _
 | true=>
  cases f with
  | false=>exact Gh.refl _
  | true=>
   rw[Bool.or_true,Bool.true_and]
   have hk:aq ((h,(⟨e,true,m,fy,n,List.flatMap (aK S τ) l,none⟩:ap))::r) h=some ⟨e,true,m,fy,n,List.flatMap (aK S τ) l,none⟩:=by simp[aq]
   have:=Gh.fV (s:=⟨fr,(h,⟨e,true,m,fy,n,List.flatMap (aK S τ) l,none⟩)::r,df⟩) hs hk rfl rfl rfl
   rw[JG] at this
   exact this
theorem nK {τ' τ:Ty}{m:List (S.D τ')}{m':List (S.D τ)}(h:ik (α:=S.α) (.list τ') (.list τ) m=some m'):∃e:τ'=τ,e▸m=m':=by
 have:=dW h
 cases this
 exact⟨rfl,rfl⟩
theorem Ix {s:ah S}{h:Nat}{τ:Ty}{v:TV S}{f:Bool}{m:List (S.D τ)}{A:Type}{k:Option A}{r:A}(ht:JI s h τ v=some (f,m)) (hc:JJ s v k=some r):
  oF s.er.st (S.sz τ) (v.er s.ln)=some (List.flatMap (aK S τ) m,m.length,f)∧v.has h=false∧k=some r:=by
 unfold JI at ht
 split at ht
 ·rename_i f' τ' m'
  split at ht
  ·rename_i m2 hm
   cases ht
   obtain⟨e,hm⟩:=nK hm
   subst e
   cases hm
   refine⟨?_,rfl,hc⟩
   rw[sR]
   cases f <;> rfl
  ·cases ht
 ·rename_i h2 τ2
  split at ht
  ·cases ht
  ·rename_i hb
   split at ht
   ·rename_i e mm f' τ' m' ho
    split at ht
    ·rename_i e' _
     subst e'
     split at ht
     ·rename_i m2 hm
      cases ht
      obtain⟨e,hm⟩:=nK hm
      subst e
      cases hm
      refine⟨?_,hb,hc⟩
      show oF s.er.st (S.sz τ') (.aO h2 (S.sz τ') 0 (s.ln h2))=_
      simp only[oF,cO ho,TO.er]
      rw[l4 ho,eD,b6 (by rw[eM];exact az _)]
     ·cases ht
    ·cases ht
   ·cases ht
 ·rename_i h2 τ2 o n
  split at ht
  ·cases ht
  ·rename_i hb
   split at ht
   ·rename_i e mm f' τ' m' ho
    split at ht
    ·rename_i e' _
     subst e'
     split at ht
     ·rename_i m2 hm
      cases ht
      obtain⟨e,hm⟩:=nK hm
      subst e
      cases hm
      unfold JJ at hc
      dsimp only at hc
      rw[ho] at hc
      obtain⟨u,h1,h2'⟩:=bind_some hc
      have h1:=cj h1
      refine⟨?_,hb,h2'⟩
      show oF s.er.st (S.sz τ') (.aO h2 (S.sz τ') (o*S.sz τ') n)=_
      simp only[oF,cO ho,TO.er]
      rw[nJ,nI,aU,cp,dt (by omega)]
     ·cases ht
    ·cases ht
   ·cases ht
 ·cases ht
  exact⟨rfl,rfl,hc⟩
 ·cases ht
section
variable {P:Program}{W:List Nat}{s:ah S}{ty:TypeId}{pos:String}{after:Array Edge}{guard:Option (Nat×Bool)}{A:Type}{k:ah S→Option A}{r:A}
theorem Px {s:ah S}{h:Nat}{e:TypeId}{m f:Bool}{τ:Ty}{l:List (S.D τ)}:(TV.aO h τ:TV S).er (s.renew h (.aT e m f τ l)).ln=.aO h (S.sz τ) 0 l.length:=by
 show G.aO _ _ _ ((s.renew h _).ln h)=_
 rw[show(s.renew h (.aT e m f τ l)).ln h=_ from tl _ _]
 rfl
theorem Jn {ok:Nat→Bool}(hokW:∀h,ok h=true→W.contains h=true){d t h:Nat}{τ:Ty}{x y:Operand}{vy:TV S}(hl:aY s) (hx:cm s x=some (.aO h τ)) (hy:cm s y=some vy) (hk:KW P ok s d t h τ vy k=some r):
  fx P W s ⟨some d,.call ⟨.builtin .append,#[x,y],#[t,t]⟩,ty,pos,after,guard⟩ k r:=by
 unfold KW at hk
 split at hk
 ·rename_i hc
  simp only[ai,a6] at hc
  obtain⟨hW,hpn,hdf,hlo,hls⟩:=hc
  split at hk
  ·rename_i e m f τ' l ho
   split at hk
   ·rename_i e1 _
    subst e1
    split at hk
    ·rename_i e' hu
     split at hk
     ·rename_i e2 _
      subst e2
      split at hk
      ·rename_i i hi
       split at hk
       ·rename_i z hz
        split at hk
        ·rename_i hs hzs _ _
         split at hk
         ·rename_i fy ml hsr
          obtain⟨g1,g2,hk⟩:=Ix hsr hk
          obtain⟨u,hck,hk⟩:=bind_some hk
          obtain⟨c1,c2⟩:=cj hck
          letI:=jA S τ'
          have ho':=cO (dQ ho)
          have hpin:pinned h=false:=gS hpn
          have hdf':pT h s.er.df=true:=by
           show pT h (TV.er.go s.ln s.df)=true
           rw[zF,hdf];rfl
          have hinfo:(P.info? e).map (fun i=>(i.zero,i.size,i.bytes))=some (some z,S.sz τ',i.bytes):=by rw[hi,bG,hz,hs]
          have hx':ev s.er x=some (.aO h (S.sz τ') 0 l.length):=by rw[bf hx];show some (G.aO _ _ _ (s.ln h))=_;rw[l4 (dQ ho)]
          obtain⟨e1,_,_⟩:=Gd (.aT e m (f&&(fy||τ'.fV)) τ' (l++ml)) rfl hdf hlo hls
          refine .one _ (ET.append (α:=S.D τ') (m:=ml) hx' (bf hy) ho' rfl rfl rfl rfl g1 (by rw[tA];exact g2) hu hinfo hzs c1 c2 (hokW h hW) rfl hpin hdf') ?_ ((hl.renew h _ hlo hls).put _ _) ⟨rfl,rfl,rfl⟩ hk
          rw[fB,e1,Px]
          exact Gh.Rw (h:=h) (e:=e) (m:=m) (f:=f) (fy:=fy) (τ:=τ') (l:=l++ml) (n:=S.sz τ')
         ·cases hk
        ·cases hk
       ·cases hk
      ·cases hk
     ·cases hk
    ·cases hk
   ·cases hk
  ·cases hk
 ·cases hk
def ah.lT (s:ah S) (hd t:Nat) (e:TypeId) (τ:Ty):ah S:={s.add hd (.aT e true true τ []) with fr:=(t,.aO hd τ)::s.fr,last:=F7 t s.last}
theorem Br {hd t:Nat}{e:TypeId}{τ:Ty}(hl:aY s) (hx:bc s.bW t=some (.val (.slice none 0 0))) (hf:s.free hd=true):Gh s.er (s.lT hd t e τ).er∧aY (s.lT hd t e τ):=by
 obtain⟨e1,_⟩:=oo hf (.aT e true true τ ([]:List (S.D τ))) rfl
 have h1:=Gh.lT (s:=s.er) (t:=t) hd ⟨e,true,true,true,S.sz τ,[],none⟩ (eZ hx) (gk hf) rfl rfl
 have e2:(s.lT hd t e τ).er=((s.add hd (.aT e true true τ [])).put t (.aO hd τ)).er:=rfl
 refine⟨?_,(hl.add (.aT e true true τ []) hf).put t (.aO hd τ)⟩
 rw[e2,fB,e1,Gq]
 exact h1
def Oz (P:Program) (ok:Nat→Bool) (s:ah S) (d:Nat) (c:Call){A:Type}(k:ah S→Option A):Option A:=
 match c.args.toList,c.argTypes.toList with
 | [x,y],[t,t']=>match decEq t t' with
  | isTrue _=>match cm s x with
   | some (.aO h τ)=>match cm s y with
    | some vy=>KW P ok s d t h τ vy k
    | none=>none
   | some (.val (.slice none 0 0))=>match x with
    | .tmp tx=>match s.free (s.cP d) with
     | true=>match P.underlying t with
      | some (.slice e)=>match S.OG e with
       | some τ=>match cm (s.lT (s.cP d) tx e τ) y with
        | some vy=>match cm (s.lT (s.cP d) tx e τ) x with
         | some (.aO h τ2)=>KW P ok (s.lT (s.cP d) tx e τ) d t h τ2 vy k
         | _=>none
        | none=>none
       | none=>none
      | _=>none
     | false=>none
    | _=>none
   | _=>none
  | isFalse _=>none
 | _,_=>none
theorem fx.gh {s t:ah S}{o:Oper}(hg:Gh s.er t.er) (hkp:bz s t) (h:fx P W t o k r):fx P W s o k r:=by
 obtain⟨T,h1,h2⟩:=h
 exact⟨T,bH.gh hg h1,fun s' ht=>let ⟨u,a1,a2,a3,a4⟩:=h2 s' ht;⟨u,a1,a2,hkp.trans a3,a4⟩⟩
theorem Qe {ok:Nat→Bool}(hokW:∀h,ok h=true→W.contains h=true){d:Nat}{args:Array Operand}{ts:Array TypeId}(hl:aY s) (h:Oz P ok s d ⟨.builtin .append,args,ts⟩ k=some r):
  fx P W s ⟨some d,.call ⟨.builtin .append,args,ts⟩,ty,pos,after,guard⟩ k r:=by
 unfold Oz at h
 dsimp only at h
 split at h
 ·rename_i h1 h2
  have h1:=l8 h1
  have h2:=l8 h2
  subst h1;subst h2
  split at h
  ·rename_i e _
   subst e
   split at h
   ·rename_i hx
    split at h
    ·rename_i hy
     exact Jn hokW hl hx hy h
    ·cases h
   ·rename_i hx
    split at h
    ·rename_i tx
     split at h
     ·rename_i hf
      split at h
      ·split at h
       ·split at h
        ·rename_i hy
         split at h
         ·rename_i hx'
          exact fx.gh (Br hl hx hf).1 ⟨rfl,rfl,rfl⟩ (Jn hokW (Br hl hx hf).2 hx' hy h)
         ·cases h
        ·cases h
       ·cases h
      ·cases h
     ·cases h
    ·cases h
   ·cases h
  ·cases h
 ·cases h
theorem EF.OS {s:St}{d:Nat}{op:BinOp}{t t' e:TypeId}{x:Operand}{g:G}{n:Int}(hx:ev s x=some g) (hn:Kq g=some n) (ht:P.underlying t=some (.slice e)) (hop:op=.eql∨op=.neq):
  bH P W s ⟨some d,.binOp op t x (.const (.slice none 0 0)) t',ty,pos,after,guard⟩ (fun s'=>∃b:Bool,(b=true→n=0)∧s'=s.put d (.val (.bool (match op with | .eql=>b | _=>!b)))):=by
 refine⟨fun _ h=>(by cases h),?_⟩
 intro N cx μ a w hr hd K Q hK
 obtain⟨b,m,c,e1,e2,e3⟩:=aW.M7 (hr.ev hx) hn
 have hst:Step W s.st μ s.st μ w w:=⟨az _,fun _ _ _=>rfl,fun h k' c m' b hw h1 h2 hi=>.inl ⟨h,k',c,m',hw,h1,h2,hi⟩⟩
 have hb:b.isNone=true→n=0:=fun h=>e3 (Option.isNone_iff_eq_none.1 h)
 unfold Oper.wp
 rcases hop with rfl | rfl
 ·have hrun:(execOp a.eval ⟨some d,.binOp .eql t x (.const (.slice none 0 0)) t',ty,pos,after,guard⟩).run P w=.ok (.value (.bool b.isNone)) w:=by
   have:=Lw (P:=P) ht x (.const (.slice none 0 0)) b m c w
   simp only[execOp,e1,show a.eval (.const (.slice none 0 0))=.slice none 0 0 from rfl,Sem.run_bind,this,Result.andThen_ok,Sem.run_pure]
  rw[hrun]
  exact hK μ _ _ w (hr.put (d:=d) (hd d rfl) (.aF (.val _))) ⟨b.isNone,hb,rfl⟩ hst
 ·have hrun:(execOp a.eval ⟨some d,.binOp .neq t x (.const (.slice none 0 0)) t',ty,pos,after,guard⟩).run P w=.ok (.value (.bool (!b.isNone))) w:=by
   have:=Lv (P:=P) ht x (.const (.slice none 0 0)) b m c w
   simp only[execOp,e1,show a.eval (.const (.slice none 0 0))=.slice none 0 0 from rfl,Sem.run_bind,this,Result.andThen_ok,Sem.run_pure]
  rw[hrun]
  exact hK μ _ _ w (hr.put (d:=d) (hd d rfl) (.aF (.val _))) ⟨b.isNone,hb,rfl⟩ hst
noncomputable def Nr (P:Program) (s:ah S) (d:Nat) (op:BinOp) (t:TypeId) (x y:Operand){A:Type}(k:ah S→Option A):Option A:=
 match y with
 | .const (.slice none 0 0)=>match P.underlying t with
  | some (.slice _)=>match cm s x with
   | some v=>match Kp s v with
    | some n=>match op with
     | .eql=>rR n (k (s.put d (.af true .bool true))) (k (s.put d (.af true .bool false)))
     | .neq=>rR n (k (s.put d (.af true .bool false))) (k (s.put d (.af true .bool true)))
     | _=>none
    | none=>none
   | none=>none
  | _=>none
 | _=>none
theorem PD {d:Nat}{op:BinOp}{t t':TypeId}{x y:Operand}(hl:aY s) (h:Nr P s d op t x y k=some r):fx P W s ⟨some d,.binOp op t x y t',ty,pos,after,guard⟩ k r:=by
 unfold Nr at h
 split at h
 ·split at h
  ·rename_i hu
   split at h
   ·rename_i hx
    split at h
    ·rename_i hn
     have hb:∀b:Bool,(s.put d (.af true .bool b)).er=s.er.put d (.val (.bool b)):=fun b=>by rw[fB];exact congrArg _ (fX true b)
     split at h
     ·obtain⟨h1,h2⟩:=Eb h
      refine⟨_,EF.OS (bf hx) (Dq hn) hu (.inl rfl),fun s' ⟨b,hb0,e⟩=>?_⟩
      subst e
      refine⟨s.put d (.af true .bool b),by rw[hb];exact Gh.refl _,hl.put _ _,⟨rfl,rfl,rfl⟩,?_⟩
      cases b with
      | true=>exact h1 (hb0 rfl)
      | false=>exact h2
     ·obtain⟨h1,h2⟩:=Eb h
      refine⟨_,EF.OS (bf hx) (Dq hn) hu (.inr rfl),fun s' ⟨b,hb0,e⟩=>?_⟩
      subst e
      refine⟨s.put d (.af true .bool (!b)),by rw[hb];exact Gh.refl _,hl.put _ _,⟨rfl,rfl,rfl⟩,?_⟩
      cases b with
      | true=>exact h1 (hb0 rfl)
      | false=>exact h2
     ·cases h
    ·cases h
   ·cases h
  ·cases h
 ·cases h
end
end
end Go.DN
/-
 DN,part Kb:a state told in another way:less of it,aA as plain data,blocks that are written no more.
-/
namespace Go.DN
open Go.AM
def CV (st st':List (Nat×ap)) (g g':G):Prop:=∀(cx:Cx) (μ:Mu) (w:World) (v:Value),cN cx μ st w→(∀b,b<w.heap.size→¬cx.O st μ b→¬cx.O st' μ b)→
 aW (cx.O st μ) cx.base w μ g v→aW (cx.O st' μ) cx.base w μ g' v
theorem CV.rw {st st':List (Nat×ap)}{g g':G}(h:RW g g'):CV st st' g g':=fun cx μ w v _ hO hv=>h _ _ _ _ _ (hv.mono (Kept.refl _ _) hO (az _))
theorem CV.refl (st st':List (Nat×ap)) (g:G):CV st st' g g:=CV.rw (RW.refl g)
theorem CV.any (st st':List (Nat×ap)) (g:G):CV st st' g .any:=fun _ _ _ v _ _ _=>.aF (.any v)
theorem CV.fz {st st':List (Nat×ap)}{g g':G}(hd:∀x k,aq st' x=some k→∃k0,aq st x=some k0) (h:iT st st' g=some g'):CV st st' g g':=fun cx μ w v hst _ hv=>Hp hst hd hv h
def Ia (st st':List (Nat×ap)) (gs gs':List G):Prop:=gs'.length=gs.length∧∀(j:Nat) (g':G),gs'[j]?=some g'→∃g,gs[j]?=some g∧CV st st' g g'
theorem CV.agg {st st':List (Nat×ap)}{gs gs':List G}(h:Ia st st' gs gs'):CV st st' (.agg gs) (.agg gs'):=fun cx μ w v hst hO hv=>by
 cases hv with
 | aF hv=>cases hv with
  | agg _ us h1 h2=>exact .agg _ us (h1.trans h.1.symm) fun j g' v hg' hv=>(by
    obtain⟨g,hg,hw⟩:=h.2 j g' hg'
    exact hw cx μ w _ hst hO (.aF (h2 j g v hg hv)))
 | agg _ us h1 h2=>exact .agg _ us (h1.trans h.1.symm) fun j g' v hg' hv=>(by
   obtain⟨g,hg,hw⟩:=h.2 j g' hg'
   exact hw cx μ w _ hst hO (h2 j g v hg hv))
theorem CV.bj {st st':List (Nat×ap)}{gs gs':List G}(h:Ia st st' gs gs'):CV st st' (.bj gs) (.bj gs'):=fun cx μ w v hst hO hv=>by
 cases hv with
 | aF hv=>cases hv
 | bj _ us h1 h2=>exact .bj _ us (h1.trans h.1.symm) fun j g' v hg' hv=>(by
   obtain⟨g,hg,hw⟩:=h.2 j g' hg'
   exact hw cx μ w _ hst hO (h2 j g v hg hv))
theorem CV.aM {st st':List (Nat×ap)}{f:FuncId}{gs gs':List G}(h:Ia st st' gs gs'):CV st st' (.aM f gs) (.aM f gs'):=fun cx μ w v hst hO hv=>by
 cases hv with
 | aF hv=>cases hv
 | aM _ _ us h1 h2=>exact .aM f _ us (h1.trans h.1.symm) fun j g' v hg' hv=>(by
   obtain⟨g,hg,hw⟩:=h.2 j g' hg'
   exact hw cx μ w _ hst hO (h2 j g v hg hv))
structure oq (st st':List (Nat×ap)) (k k':ap):Prop where
 bM:k'.bM=k.bM
 ct:k'.ct=true→k.ct=true
 sz:k'.sz=k.sz
 lp:k'.lp=k.lp
 pure:k'.pure=k.pure
 len:k'.cells.length=k.cells.length
 cells:(k.pure=true∧k'.cells=k.cells∧(k'.fresh=true→k.fresh=true∨(k.lp=none∧∀g,g∈k.cells→∃v,g=.val v)∨∃d,k.lp=some (.deep d)∧∀(O O':Nat→Prop) (w:World) (b:Nat) (m:Mm),d.φ O w b m→d.φ O' w b m))∨(k.pure=false∧∀(j:Nat) (g':G),k'.cells[j]?=some g'→∃g,k.cells[j]?=some g∧CV st st' g g')
theorem oq.refl (st st':List (Nat×ap)) (k:ap):oq st st' k k:=by
 refine⟨rfl,id,rfl,rfl,rfl,rfl,?_⟩
 cases h:k.pure with
 | true=>exact .inl ⟨rfl,rfl,.inl⟩
 | false=>exact .inr ⟨rfl,fun j g hg=>⟨g,hg,CV.refl _ _ g⟩⟩
theorem Gh.gen {s t:St}(hfr:∀d g',get t.fr d=some g'→∃g,get s.fr d=some g∧CV s.st t.st g g') (hst:∀x k',aq t.st x=some k'→∃k,aq s.st x=some k∧oq s.st t.st k k') (hdf:s.df=t.df):Gh s t:=by
 have hdom:∀x k,aq t.st x=some k→∃k0,aq s.st x=some k0:=fun x k hk=>let ⟨k0,h1,_⟩:=hst x k hk;⟨k0,h1⟩
 refine Gh.of (fun N cx μ a w h=>?_) hdom
 have hO:∀b,b<w.heap.size→¬cx.O s.st μ b→¬cx.O t.st μ b:=fun b _ hn ho=>hn (ho.imp id fun ⟨x,k,c,m,h1,h2,hi⟩=>let ⟨k0,h3⟩:=hdom x k h1;⟨x,k0,c,m,h3,h2,hi⟩)
 have hE:∀{g g':G}{v:Value},CV s.st t.st g g'→aW (cx.O s.st μ) cx.base w μ g v→aW (cx.O t.st μ) cx.base w μ g' v:=by
  intro g g' v hz hv
  exact hz cx μ w v h.st hO hv
 refine {st:={c8:=?_,cz:=?_,bR:=?_,dZ:=?_,dY:=h.st.dY,hb:=h.st.hb,os:=h.st.os,tape:=h.st.tape,output:=h.st.output,cY:=h.st.cY},nd:=hdf▸h.nd.mono (Kept.refl _ _) hO,sz:=h.sz,fr:=fun d g' hg'=>?_}
 ·intro x k' hk'
  obtain⟨k,hk,c⟩:=hst x k' hk'
  have hb:=h.st.c8 x k hk
  cases hm:μ x with
  | none=>
   rw[hm] at hb
   exact hb.ti (by rw[hb.1];exact bl (by rw[c.len,hb.1];rfl)) c.lp c.pure
  | some bm=>
   obtain⟨b,m⟩:=bm
   rw[hm] at hb
   cases hlp:k.lp with
   | none=>
    obtain⟨cs,h1,h2,h3,h4,h5,h6⟩:=hb.cells hlp
    refine .mk (c.lp.trans hlp) (hb.kf hlp) ⟨cs,by rw[c.bM];exact h1,h2,by rw[c.len];exact h3,fun hmn=>h4 (c.ct hmn),by rw[c.sz];exact h5,fun j g' hg'=>?_⟩
    rcases c.cells with ⟨hp,e,hf⟩ | ⟨hp,e⟩
    ·rw[e] at hg'
     obtain⟨v,hv,hr⟩:=h6 j g' hg'
     refine⟨v,hv,?_⟩
     have:=hr.mono (Kept.refl _ _) hO
     unfold cv at this⊢
     rw[c.pure]
     rw[hp] at this⊢
     by_cases hk2:k'.fresh=true→k.fresh=true
     ·exact this.flag hk2
     ·rcases Classical.em (k'.fresh=true) with hq | hq
      ·rcases hf hq with hf | ⟨_,hf⟩ | ⟨d,hd,_⟩
       ·exact this.flag fun _=>hf
       rotate_left
       ·rw[hlp] at hd;cases hd
       ·obtain⟨u,rfl⟩:=hf g' (ar hg')
        revert this
        show bA _ w (.val u) v→bA _ w (.val u) v
        intro this
        cases this
        exact .val _
      ·exact absurd (fun h=>absurd h hq) hk2
    ·obtain⟨g,hg,hz⟩:=e j g' hg'
     obtain⟨v,hv,hr⟩:=h6 j g hg
     refine⟨v,hv,?_⟩
     unfold cv at hr⊢
     rw[c.pure]
     simp only[hp] at hr⊢
     exact hE hz hr
   | some kd=>
    cases kd with
    | loop lp=>
     obtain⟨D,vs,h1,h2,h3,h4,h5⟩:=(aN.loop hlp).1 hb
     refine(aN.loop (c.lp.trans hlp)).2 ⟨D,vs,h1,h2,(by cases hq:k'.ct with | false=>rfl | true=>rw[c.ct hq] at h3;cases h3),c.pure.trans h4,fun j t g' ht hg'=>?_⟩
     rcases c.cells with ⟨hp,_⟩ | ⟨_,e⟩
     ·rw[h4] at hp;cases hp
     ·obtain⟨g,hg,hz⟩:=e j g' hg'
      obtain⟨v,hv,hr⟩:=h5 j t g ht hg
      exact⟨v,hv,hE hz hr⟩
    | deep d=>
     obtain⟨h1,h2,h3,h4⟩:=((aN.deep hlp).1 hb).mono (fun _ _=>rfl) (Kept.refl _ _) hO
     refine(aN.deep (c.lp.trans hlp)).2 ⟨?_,c.pure.trans h2,bl (by rw[c.len,h3];rfl),fun hmn=>h4 (c.ct hmn)⟩
     rcases c.cells with ⟨_,_,hf⟩ | ⟨hp,_⟩
     ·cases hkf:k.fresh with
      | true=>
       rw[hkf] at h1
       cases k'.fresh with
       | true=>exact h1
       | false=>exact d.mono h1 (Kept.refl _ _) (fun x _ hn ho=>hn (.inr ho)) (fun _ _=>rfl)
      | false=>
       rw[hkf] at h1
       cases hq:k'.fresh with
       | false=>exact h1
       | true=>
        rcases hf hq with hf | ⟨hf,_⟩ | ⟨d',hd,hany⟩
        ·rw[hkf] at hf;cases hf
        ·rw[hlp] at hf;cases hf
        ·rw[hlp] at hd;cases hd;exact hany _ _ _ _ _ h1
     ·rw[h2] at hp;cases hp
 ·intro x x' k1 k2 y b m b' m' h1 h2
  obtain⟨k1',h1'⟩:=hdom x k1 h1
  obtain⟨k2',h2'⟩:=hdom x' k2 h2
  exact h.st.cz x x' k1' k2' y b m b' m' h1' h2'
 ·intro x k1 b m y h1 h2 hi
  obtain⟨k,hk,c⟩:=hst x k1 h1
  obtain⟨a1,a2,a3,a4⟩:=h.st.bR x k b m y hk h2 hi
  exact⟨a1,a2,a3,fun hm=>a4 (c.ct hm)⟩
 ·intro x k1 h1 h2
  obtain⟨k1',h1'⟩:=hdom x k1 h1
  exact h.st.dZ x k1' h1' h2
 ·obtain⟨g,hg,hz⟩:=hfr d g' hg'
  obtain⟨v,hv,hr⟩:=h.fr d g hg
  exact⟨v,hv,hE hz hr⟩
section
variable {S:eB}
def TV.fz (h:Nat) (f:Bool) (τ:Ty) (l:List (S.D τ)):TV S→TV S
 | .aO h' τ'=>match Nat.beq h' h with
  | true=>match decEq τ' τ with
   | isTrue _=>.af f (.list τ) l
   | isFalse _=>.any
  | false=>.aO h' τ'
 | .agg vs=>.agg (go h f τ l vs)
 | .bj vs=>.bj (go h f τ l vs)
 | .aM g vs=>.aM g (go h f τ l vs)
 | .sub h' τ' o n=>match Nat.beq h' h with
  | true=>.any
  | false=>.sub h' τ' o n
 | .gF h' τ' i j=>match Nat.beq h' h with
  | true=>.any
  | false=>.gF h' τ' i j
 | .loc h' o=>match Nat.beq h' h with
  | true=>.any
  | false=>.loc h' o
 | .cq h'=>match Nat.beq h' h with
  | true=>.any
  | false=>.cq h'
 | .mp h'=>match Nat.beq h' h with
  | true=>.any
  | false=>.mp h'
 | v=>v
where go (h:Nat) (f:Bool) (τ:Ty) (l:List (S.D τ)):List (TV S)→List (TV S)
 | []=>[]
 | v::r=>v.fz h f τ l::go h f τ l r
def I5 (h:Nat) (f:Bool) (τ:Ty) (l:List (S.D τ)):List (Nat×TV S)→List (Nat×TV S)
 | []=>[]
 | (t,v)::r=>(t,v.fz h f τ l)::I5 h f τ l r
def TO.fz (h:Nat) (f:Bool) (τ:Ty) (l:List (S.D τ)):TO S→TO S
 | .box e m cs=>.box e m (TV.fz.go h f τ l cs)
 | .lp p n cs=>.lp p n (TV.fz.go h f τ l cs)
 | o=>o
def xF (h:Nat) (f:Bool) (τ:Ty) (l:List (S.D τ)):List (Nat×TO S)→List (Nat×TO S)
 | []=>[]
 | (t,o)::r=>match Nat.beq t h with
  | true=>xF h f τ l r
  | false=>(t,o.fz h f τ l)::xF h f τ l r
def zE (s:ah S) (h:Nat):Option (ah S):=
 match aw s.st h with
 | some (.aT e true f τ l)=>match !(gl h s.lo)&&(!(eH h s.bL)&&(!(TV.has.go h s.df)&&(match aw s.bL h with | none=>true | some _=>false))) with
  | true=>some {s with fr:=I5 h f τ l s.fr,st:=xF h f τ l s.st,last:=yd h s.last}
  | false=>none
 | _=>none
theorem AO {h:Nat}{f:Bool}{τ:Ty}{l:List (S.D τ)}:∀{st:List (Nat×TO S)}{x:Nat}{o:TO S},aw (xF h f τ l st) x=some o→x≠h∧∃o0,aw st x=some o0∧o=o0.fz h f τ l
 | [],_,_,e=>by cases e
 | (t,o0)::r,x,o,e=>by
  simp only[xF] at e
  cases hb:Nat.beq t h with
  | true=>
   rw[hb] at e
   obtain⟨h1,o1,h2,h3⟩:=AO e
   refine⟨h1,o1,?_,h3⟩
   have:=aa hb
   subst this
   rw[jl _ _ h1];exact h2
  | false=>
   rw[hb] at e
   simp only[aw] at e⊢
   cases hx:Nat.beq t x with
   | true=>
    rw[hx] at e
    cases e
    refine⟨?_,o0,rfl,rfl⟩
    intro e
    subst e
    have:=aa hx
    subst this
    rw[aG] at hb;cases hb
   | false=>rw[hx] at e;exact AO e
theorem ES {h:Nat}{f:Bool}{τ:Ty}{l:List (S.D τ)}:∀(st:List (Nat×TO S)),aw (xF h f τ l st) h=none:=by
 intro st
 cases e:aw (xF h f τ l st) h with
 | none=>rfl
 | some o=>exact absurd rfl (AO e).1
theorem QZ (h:Nat) (f:Bool) (τ:Ty) (l:List (S.D τ)) (o:TO S):(o.fz h f τ l).len=o.len:=by cases o <;> rfl
theorem u2 {h:Nat}{f:Bool}{τ:Ty}{l:List (S.D τ)}{x:Nat}(hx:x≠h):∀{st:List (Nat×TO S)},aw (xF h f τ l st) x=(aw st x).map (TO.fz h f τ l)
 | []=>rfl
 | (t,o0)::r=>by
  simp only[xF,aw]
  cases hb:Nat.beq t h with
  | true=>
   have:=aa hb
   subst this
   have:Nat.beq t x=false:=by
    cases h2:Nat.beq t x with
    | true=>exact absurd (aa h2).symm hx
    | false=>rfl
   rw[this]
   exact u2 hx
  | false=>
   simp only[aw]
   cases Nat.beq t x with
   | true=>rfl
   | false=>exact u2 hx
theorem FG {h:Nat}{f:Bool}{τ:Ty}{l:List (S.D τ)}:∀{fr:List (Nat×TV S)}{t:Nat},bc (I5 h f τ l fr) t=(bc fr t).map (TV.fz h f τ l)
 | [],_=>rfl
 | (t',v)::r,t=>by
  simp only[I5,bc]
  cases Nat.beq t' t with
  | true=>rfl
  | false=>exact FG
theorem jV {fr fr':List (Nat×TV S)}{t:Nat}:bc (fr++fr') t=match bc fr t with | some v=>some v | none=>bc fr' t:=by
 induction fr with
 | nil=>rfl
 | cons x r ih=>
  obtain⟨k,g⟩:=x
  simp only[bx,bc]
  cases Nat.beq k t with
  | true=>rfl
  | false=>exact ih
theorem db {st st':List (Nat×TO S)}{t:Nat}:aw (st++st') t=match aw st t with | some v=>some v | none=>aw st' t:=by
 induction st with
 | nil=>rfl
 | cons x r ih=>
  obtain⟨k,g⟩:=x
  simp only[bx,aw]
  cases Nat.beq k t with
  | true=>rfl
  | false=>exact ih
mutual
theorem KA {h:Nat}{f:Bool}{τ:Ty}{l:List (S.D τ)}:∀v:TV S,v.has h=false→v.fz h f τ l=v
 | .af _ _ _,_=>rfl
 | .ptr _ _ _,_=>rfl
 | .agg vs,e=>congrArg TV.agg (vF vs e)
 | .bj vs,e=>congrArg TV.bj (vF vs e)
 | .aM g vs,e=>congrArg (TV.aM g) (vF vs e)
 | .loc h' o,e=>by simp only[TV.has] at e;simp only[TV.fz,e]
 | .gF h' _ _ _,e=>by simp only[TV.has] at e;simp only[TV.fz,e]
 | .aO h' _,e=>by simp only[TV.has] at e;simp only[TV.fz,e]
 | .sub h' _ _ _,e=>by simp only[TV.has] at e;simp only[TV.fz,e]
 | .cq h',e=>by simp only[TV.has] at e;simp only[TV.fz,e]
 | .mp h',e=>by simp only[TV.has] at e;simp only[TV.fz,e]
 | .ks _ _ _ _,_=>rfl
 | .kp _ _ _ _,_=>rfl
 | .fA _ _ _ _ _,_=>rfl
 | .val _,_=>rfl
 | .any,_=>rfl
theorem vF {h:Nat}{f:Bool}{τ:Ty}{l:List (S.D τ)}:∀vs:List (TV S),TV.has.go h vs=false→TV.fz.go h f τ l vs=vs
 | [],_=>rfl
 | v::r,e=>by
  simp only[TV.has.go,bD] at e
  simp only[TV.fz.go,KA v e.1,vF r e.2]
end
structure H8 (st st':List (Nat×ap)) (ln ln':Nat→Nat) (h:Nat) (bM:TypeId) (f:Bool) (τ:Ty) (l:List (S.D τ)):Prop where
 get:aq st h=some ⟨bM,true,true,f,S.sz τ,List.flatMap (aK S τ) l,none⟩
 gone:aq st' h=none
 Jg:∀x k,aq st' x=some k→∃k0,aq st x=some k0
 len:ln h=l.length
 xz:jv ln ln' h
theorem QY {st st':List (Nat×ap)}{ln ln':Nat→Nat}{h:Nat}{bM:TypeId}{f:Bool}{τ:Ty}{l:List (S.D τ)}(H:H8 (S:=S) st st' ln ln' h bM f τ l):iT st st' (.aO h (S.sz τ) 0 (ln h))=some ((TV.af f (.list τ) l:TV S).er ln'):=by
 rw[sR]
 simp only[iT,H.gone,H.get,H.len,eD]
 rw[b6 (by rw[eM];exact az _)]
 cases f <;> rfl
mutual
theorem OW {st st':List (Nat×ap)}{ln ln':Nat→Nat}{h:Nat}{bM:TypeId}{f:Bool}{τ:Ty}{l:List (S.D τ)}(H:H8 (S:=S) st st' ln ln' h bM f τ l):∀v:TV S,CV st st' (v.er ln) ((v.fz h f τ l).er ln')
 | .af _ _ _=>CV.refl _ _ _
 | .ptr _ _ _=>CV.refl _ _ _
 | .agg vs=>CV.agg (rH H vs)
 | .bj vs=>CV.bj (rH H vs)
 | .aM g vs=>CV.aM (rH H vs)
 | .loc h' o=>by
  simp only[TV.fz]
  cases Nat.beq h' h with
  | true=>exact CV.any _ _ _
  | false=>exact CV.refl _ _ _
 | .gF h' _ _ _=>by
  simp only[TV.fz]
  cases Nat.beq h' h with
  | true=>exact CV.any _ _ _
  | false=>exact CV.refl _ _ _
 | .aO h' τ'=>by
  simp only[TV.fz]
  cases hb:Nat.beq h' h with
  | true=>
   have:=aa hb
   subst this
   dsimp only
   split
   ·rename_i e _
    subst e
    exact CV.fz H.Jg (QY H)
   ·exact CV.any _ _ _
  | false=>
   show CV st st' (.aO h' _ 0 (ln h')) (.aO h' _ 0 (ln' h'))
   rw[H.xz h' fun e=>by subst e;rw[aG] at hb;cases hb]
   exact CV.refl _ _ _
 | .sub h' _ _ _=>by
  simp only[TV.fz]
  cases Nat.beq h' h with
  | true=>exact CV.any _ _ _
  | false=>exact CV.refl _ _ _
 | .cq h'=>by
  simp only[TV.fz]
  cases Nat.beq h' h with
  | true=>exact CV.any _ _ _
  | false=>exact CV.refl _ _ _
 | .mp h'=>by
  simp only[TV.fz]
  cases Nat.beq h' h with
  | true=>exact CV.any _ _ _
  | false=>exact CV.refl _ _ _
 | .ks _ _ _ _=>CV.refl _ _ _
 | .kp _ _ _ _=>CV.refl _ _ _
 | .fA _ _ _ _ _=>CV.refl _ _ _
 | .val _=>CV.refl _ _ _
 | .any=>CV.refl _ _ _
theorem rH {st st':List (Nat×ap)}{ln ln':Nat→Nat}{h:Nat}{bM:TypeId}{f:Bool}{τ:Ty}{l:List (S.D τ)}(H:H8 (S:=S) st st' ln ln' h bM f τ l):∀vs:List (TV S),Ia st st' (TV.er.go ln vs) (TV.er.go ln' (TV.fz.go h f τ l vs))
 | []=>⟨rfl,fun j g' hg'=>by simp[TV.fz.go,TV.er.go] at hg'⟩
 | v::r=>by
  obtain⟨h1,h2⟩:=rH H r
  refine⟨by simp only[TV.fz.go,TV.er.go,bN,h1],fun j g' hg'=>?_⟩
  simp only[TV.fz.go,TV.er.go] at hg'⊢
  cases j with
  | zero=>cases hg';exact⟨_,rfl,OW H v⟩
  | succ j=>exact h2 j g' hg'
end
theorem Q2 {st st':List (Nat×ap)}{ln ln':Nat→Nat}{h:Nat}{bM:TypeId}{f:Bool}{τ:Ty}{l:List (S.D τ)}(H:H8 (S:=S) st st' ln ln' h bM f τ l) (o:TO S):oq st st' (o.er ln) ((o.fz h f τ l).er ln'):=by
 cases o with
 | box e m cs=>exact⟨rfl,id,rfl,rfl,rfl,(rH H cs).1,.inr ⟨rfl,(rH H cs).2⟩⟩
 | aT e m f τ l=>exact oq.refl _ _ _
 | lp p n cs=>exact⟨rfl,id,rfl,rfl,rfl,(rH H cs).1,.inr ⟨rfl,(rH H cs).2⟩⟩
 | deep=>exact oq.refl _ _ _
theorem oS {k:Nat}:∀{st:List (Nat×TO S)}{x:Nat}{o:TO S},aw st x=some o→eH k st=false→o.has k=false
 | [],_,_,h,_=>by cases h
 | (t,o')::r,x,o,h,hf=>by
  simp only[eH,bD] at hf
  simp only[aw] at h
  cases hb:Nat.beq t x with
  | true=>rw[hb] at h;cases h;exact hf.1
  | false=>rw[hb] at h;exact oS h hf.2
theorem Q0 {h:Nat}{f:Bool}{τ:Ty}{l:List (S.D τ)}{o:TO S}(e:o.has h=false):o.fz h f τ l=o:=by
 cases o with
 | box e' m cs=>simp only[TO.fz];rw[vF cs e]
 | aT e m f τ l=>rfl
 | lp p n cs=>simp only[TO.fz];rw[vF cs e]
 | deep=>rfl
theorem wV {ln:Nat→Nat}:∀{fr:List (Nat×TV S)}{t:Nat}{g:G},AM.get (fZ ln fr) t=some g→∃v,bc fr t=some v∧g=v.er ln
 | [],_,_,h=>by cases h
 | (k,v)::r,t,g,h=>by
  simp only[fZ,AM.get] at h
  simp only[bc]
  cases hk:Nat.beq k t with
  | true=>rw[hk] at h;cases h;exact⟨v,rfl,rfl⟩
  | false=>rw[hk] at h;exact wV h
theorem oU {ln:Nat→Nat}:∀{st:List (Nat×TO S)}{t:Nat}{k:ap},aq (b8 ln st) t=some k→∃o,aw st t=some o∧k=o.er ln
 | [],_,_,h=>by cases h
 | (x,o)::r,t,k,h=>by
  simp only[b8,aq] at h
  simp only[aw]
  cases hk:Nat.beq x t with
  | true=>rw[hk] at h;cases h;exact⟨o,rfl,rfl⟩
  | false=>rw[hk] at h;exact oU h
theorem Gh.qV {s t:ah S}(hfr:∀d v',bc t.bW d=some v'→∃v,bc s.bW d=some v∧CV s.er.st t.er.st (v.er s.ln) (v'.er t.ln)) (hst:∀x o',aw t.bg x=some o'→∃o,aw s.bg x=some o∧oq s.er.st t.er.st (o.er s.ln) (o'.er t.ln))
  (hdf:TV.er.go s.ln s.df=TV.er.go t.ln t.df):Gh s.er t.er:=by
 refine Gh.gen (fun d g' hg'=>?_) (fun x k' hk'=>?_) hdf
 ·obtain⟨v',h1,rfl⟩:=wV hg'
  obtain⟨v,h2,h3⟩:=hfr d v' h1
  exact⟨_,eZ h2,h3⟩
 ·obtain⟨o',h1,rfl⟩:=oU hk'
  obtain⟨o,h2,h3⟩:=hst x o' h1
  exact⟨_,fJ h2,h3⟩
theorem Cq {s t:ah S}{h:Nat}(hl:aY s) (hf:zE s h=some t):Gh s.er t.er∧aY t∧bz s t:=by
 unfold zE at hf
 split at hf
 ·rename_i e f τ l ho
  split at hf
  ·rename_i hc
   simp only[ai,a6] at hc
   obtain⟨c1,c2,c3,c4⟩:=hc
   cases hf
   generalize ht:({s with fr:=I5 h f τ l s.fr,st:=xF h f τ l s.st,last:=yd h s.last}:ah S)=t
   have hlst:aw s.bL h=none:=by
    cases hq:aw s.bL h with
    | none=>rfl
    | some o=>rw[hq] at c4;cases c4
   have hgone:aw t.bg h=none:=by
    subst ht
    show aw (xF h f τ l s.st++s.bL) h=none
    rw[db,ES];exact hlst
   have hother:∀{x:Nat},x≠h→∃g:TO S→TO S,(∀o,(g o).len=o.len)∧aw t.bg x=(aw s.bg x).map g∧∀o,aw s.bg x=some o→g o=o.fz h f τ l:=by
    intro x hx
    subst ht
    show ∃g:TO S→TO S,_∧aw (xF h f τ l s.st++s.bL) x=(aw (s.st++s.bL) x).map g∧_
    refine⟨TO.fz h f τ l,QZ h f τ l,?_,fun o _=>rfl⟩
    rw[db,db,u2 hx]
    cases h1:aw s.st x with
    | some o=>rfl
    | none=>
     show aw s.bL x=(aw s.bL x).map _
     cases h2:aw s.bL x with
     | none=>rfl
     | some o=>rw[bG,Q0 (oS h2 c2)]
   have hag:jv s.ln t.ln h:=by
    intro x hx
    show bZ s.bg x=bZ t.bg x
    obtain⟨g,g1,g2,_⟩:=hother hx
    unfold bZ
    rw[g2]
    cases aw s.bg x with
    | none=>rfl
    | some o=>exact(g1 o).symm
   have H:H8 (S:=S) s.er.st t.er.st s.ln t.ln h e f τ l:={
    get:=cO (dQ ho)
    gone:=po hgone
    Jg:=fun x k hk=>by
     obtain⟨o',h1,_⟩:=oU hk
     have hx:x≠h:=fun e=>by subst e;rw[hgone] at h1;cases h1
     obtain⟨g,_,g2,_⟩:=hother hx
     rw[g2] at h1
     obtain⟨o,h2,_⟩:=au.1 h1
     exact⟨_,fJ h2⟩
    len:=l4 (dQ ho)
    xz:=hag}
   have hfrA:∀d,bc t.bW d=(bc s.bW d).map (TV.fz h f τ l):=by
    intro d
    subst ht
    show bc (I5 h f τ l s.fr++s.lo) d=(bc (s.fr++s.lo) d).map _
    rw[jV,jV,FG]
    cases bc s.fr d with
    | some v=>rfl
    | none=>
     show bc s.lo d=(bc s.lo d).map _
     cases h2:bc s.lo d with
     | none=>rfl
     | some v=>rw[bG,KA v (na h2 c1)]
   refine⟨Gh.qV (fun d v' hv'=>?_) (fun x o' ho'=>?_) ?_,?_,by subst ht;exact⟨rfl,rfl,rfl⟩⟩
   ·rw[hfrA] at hv'
    obtain⟨v,h1,rfl⟩:=au.1 hv'
    exact⟨v,h1,OW H v⟩
   ·have hx:x≠h:=fun e=>by subst e;rw[hgone] at ho';cases ho'
    obtain⟨g,_,g2,g3⟩:=hother hx
    rw[g2] at ho'
    obtain⟨o,h1,h2⟩:=au.1 ho'
    refine⟨o,h1,?_⟩
    rw[←h2,g3 o h1]
    exact Q2 H o
   ·have:t.df=s.df:=by subst ht;rfl
    rw[this]
    exact oG hag s.df c3
   ·intro d hh x hm
    have hm:(d,hh,x)∈yd h s.last:=by subst ht;exact hm
    obtain⟨h1,h2⟩:=sL hm
    obtain⟨i,bM,m,f',τ',l',a,e1,e2,e3⟩:=hl d hh x h1
    refine⟨i,bM,m,f',τ',l',a,?_,?_,e3⟩
    ·rw[hfrA,e1]
     show some ((TV.gF hh τ' i 0:TV S).fz h f τ l)=_
     rw[KA _ (by
      simp only[TV.has]
      cases hb:Nat.beq hh h with
      | false=>rfl
      | true=>exact absurd (aa hb) h2)]
    ·obtain⟨g,_,g2,g3⟩:=hother h2
     rw[g2,e2,bG,g3 _ e2];rfl
  ·cases hf
 ·cases hf
end
end Go.DN
