/-
  DN, first half: a typed interpreter over AM.
-/
import Derived.Test.YtaobkpnecfcefaaDoorMgI
import Derived.Test.YtaobkpnecfcefaaDoorMgF
set_option linter.unusedSectionVars false
set_option linter.unusedSimpArgs false
set_option linter.unusedVariables false
/-
 DN,part A:kinds of plain data,their encodings;typed values and states,and what they say of a state.
-/
namespace Go.DN
open Go.AM
structure MEnt where
 a:Int
 b:Int
 t:Nat
 f:List (Nat×List Int)
structure MDat where
 n:Nat
 es:List MEnt
 pd:Option (Option (Nat×Nat)×Nat×List Int)
inductive Ty where
 | int (k:IntKind)
 | bool
 | str
 | list (t:Ty)
 | st (n:Nat)
 | map
 | ifc
 deriving DecidableEq
@[reducible] def Ty.den (α:Nat→Type):Ty→Type
 | .int _=>Int
 | .bool=>Bool
 | .str=>ByteArray
 | .list t=>List (t.den α)
 | .st n=>α n
 | .map=>MDat
 | .ifc=>Bool
def Ty.isSt:Ty→Bool
 | .st _=>true
 | _=>false
def Ty.scal:Ty→Bool
 | .int _=>true
 | .bool=>true
 | .str=>true
 | _=>false
structure Leaf (α:Nat→Type) where
 τ:Ty
 a:τ.den α
def castT {α:Nat→Type}(τ' τ:Ty) (a:τ'.den α):Option (τ.den α):=if h:τ'=τ then some (h▸a) else none
theorem castT_some {α:Nat→Type}{τ' τ:Ty}{a:τ'.den α}{b:τ.den α}(h:castT τ' τ a=some b):(⟨τ',a⟩:Leaf α)=⟨τ,b⟩:=by
 unfold castT at h
 split at h
 ·rename_i e;subst e;cases h;rfl
 ·cases h
def encW {α:Nat→Type}(se:(n:Nat)→α n→List G):(τ:Ty)→τ.den α→List G
 | .int k,a=>[.val (.int k a)]
 | .bool,a=>[.val (.bool a)]
 | .str,a=>[.val (.string a)]
 | .list t,l=>[.sl (List.length l) (List.flatMap (encW se t) l)]
 | .st n,a=>se n a
 | .map,_=>[.val (.bool true)]
 | .ifc,b=>[.ifc b]
structure LpC where
 N:Nat
 slots:List Nat
 ps:Array Tmp
 asg:Code
 body:Code
 id:Nat
structure Sig where
 fam:Bool:=false
 rowK:TypeId→Option TypeId:=fun _=>none
 lpc:Nat→LpC:=fun _=>⟨0,[],#[],.skip,.skip,0⟩
 α:Nat→Type
 tys:Nat→List Ty
 cells:(n:Nat)→α n→List (Leaf α)
 put:(n:Nat)→List (Leaf α)→Option (α n)
 enc:(n:Nat)→α n→List G
 ty:TypeId→Option Nat
 tyS:TypeId→Option Ty
 tys_cells:∀n a,(cells n a).map Leaf.τ=tys n
 one:∀n t,t∈tys n→t.isSt=false
 pos:∀n,tys n≠[]
 put_cells:∀n l a,put n l=some a→cells n a=l
 enc_cells:∀n a,enc n a=(cells n a).flatMap (fun x=>encW enc x.τ x.a)
section
variable (S:Sig)
abbrev Sig.D (τ:Ty):Type:=τ.den S.α
abbrev Sig.L:Type:=Leaf S.α
abbrev encT (τ:Ty) (a:S.D τ):List G:=encW S.enc τ a
def Sig.sz (τ:Ty):Nat:=match τ with | .st n=>(S.tys n).length | _=>1
theorem encT_one {τ:Ty}(h:τ.isSt=false) (a:S.D τ):∃g,encT S τ a=[g]∧g.one=true:=by
 cases τ with
 | st n=>cases h
 | _=>exact⟨_,rfl,rfl⟩
theorem flatMap_one_length:∀(l:List S.L),(∀t∈l.map Leaf.τ,t.isSt=false)→(l.flatMap (fun x=>encW S.enc x.τ x.a)).length=l.length∧∀g∈l.flatMap (fun x=>encW S.enc x.τ x.a),g.one=true
 | [],_=>⟨rfl,fun g h=>by cases h⟩
 | x::r,h=>by
  obtain⟨i1,i2⟩:=flatMap_one_length r fun t ht=>h t (List.mem_cons_of_mem _ ht)
  obtain⟨g,hg,ho⟩:=encT_one S (τ:=x.τ) (h _ List.mem_cons_self) x.a
  simp only[List.flatMap_cons]
  constructor
  ·have:(encW S.enc x.τ x.a).length=1:=by show(encT S x.τ x.a).length=1;rw[hg];rfl
   simp[i1,this];omega
  ·intro g' hg'
   rcases List.mem_append.1 hg' with h1 | h1
   ·have h1:g'∈encT S x.τ x.a:=h1
    rw[hg] at h1;simp at h1;subst h1;exact ho
   ·exact i2 _ h1
theorem encT_len (τ:Ty) (a:S.D τ):(encT S τ a).length=S.sz τ:=by
 cases τ with
 | st n=>
  show(S.enc n a).length=(S.tys n).length
  have:=S.tys_cells n a
  rw[S.enc_cells n a,(flatMap_one_length S _ (fun t ht=>S.one n t (by rw[←this];exact ht))).1,←this,List.length_map]
 | _=>rfl
theorem sz_pos (τ:Ty):0<S.sz τ:=by
 cases τ with
 | st n=>exact List.length_pos_iff.2 (S.pos n)
 | _=>exact Nat.one_pos
theorem encT_ones (τ:Ty) (a:S.D τ):∀g∈encT S τ a,g.one=true:=by
 cases τ with
 | st n=>
  show ∀g∈S.enc n a,_
  have:=S.tys_cells n a
  rw[S.enc_cells n a]
  exact(flatMap_one_length S _ (fun t ht=>S.one n t (by rw[←this];exact ht))).2
 | _=>intro g hg;obtain⟨g',h1,h2⟩:=encT_one S (τ:=_) rfl a;rw[h1] at hg;simp at hg;subst hg;exact h2
@[reducible] def encI (τ:Ty):Enc (S.D τ):=⟨S.sz τ,encT S τ,encT_len S τ,sz_pos S τ,fun a=>encT_ones S τ a⟩
def cellG (τ:Ty) (a:S.D τ):G:=(encT S τ a).headD .any
theorem cellG_eq {τ:Ty}(h:τ.isSt=false) (a:S.D τ):encT S τ a=[cellG S τ a]:=by
 obtain⟨g,hg,_⟩:=encT_one S h a
 unfold cellG
 rw[hg];rfl
theorem enc_st (n:Nat) (a:S.α n):encT S (.st n) a=(S.cells n a).map fun x=>cellG S x.τ x.a:=by
 show S.enc n a=_
 have h0:=S.tys_cells n a
 have h1:∀t∈(S.cells n a).map Leaf.τ,t.isSt=false:=fun t ht=>S.one n t (by rw[←h0];exact ht)
 rw[S.enc_cells n a]
 generalize S.cells n a=l at h1
 induction l with
 | nil=>rfl
 | cons x r ih=>
  simp only[List.flatMap_cons,List.map_cons]
  rw[ih fun t ht=>h1 t (List.mem_cons_of_mem _ ht)]
  have:=cellG_eq S (τ:=x.τ) (h1 _ List.mem_cons_self) x.a
  show encT S x.τ x.a++_=_
  rw[this];rfl
end
inductive TV (S:Sig) where
 | dat (f:Bool) (τ:Ty) (a:τ.den S.α)
 | ptr (f:Bool) (τ:Ty) (a:τ.den S.α)
 | agg (l:List (TV S))
 | tup (l:List (TV S))
 | loc (h off:Nat)
 | elt (h:Nat) (τ:Ty) (i j:Nat)
 | osl (h:Nat) (τ:Ty)
 | sub (h:Nat) (τ:Ty) (o n:Nat)
 | clo (f:FuncId) (caps:List (TV S))
 | yld (h:Nat)
 | mp (h:Nat)
 | ks (h:Nat) (τ:Ty) (i n:Nat)
 | kp (h:Nat) (τ:Ty) (i j:Nat)
 | kpo (b:Bool) (h:Nat) (τ:Ty) (i j:Nat)
 | lpo (b:Bool) (h off:Nat)
 | val (v:Value)
 | any
inductive Dk where
 | fam (kty:TypeId)
 | rows (kty:TypeId) (ho:Option Nat)
 | map (q:IntKind) (kty tty:TypeId)
 deriving DecidableEq
inductive TO (S:Sig) where
 | box (ety:TypeId) (mine:Bool) (cs:List (TV S))
 | arr (ety:TypeId) (mine fresh:Bool) (τ:Ty) (l:List (τ.den S.α))
 | lp (key:Nat) (n:Int) (cs:List (TV S))
 | deep (ety:TypeId) (mine fresh:Bool) (dk:Dk) (τ:Ty) (a:τ.den S.α)
structure TSt (S:Sig) where
 fr:List (Nat×TV S)
 lo:List (Nat×TV S)
 st:List (Nat×TO S)
 lst:List (Nat×TO S)
 df:List (TV S)
 nx:Nat
 last:List (Nat×Nat×Leaf S.α)
section
variable {S:Sig}
def frB (f:Bool) (g:G):G:=bif f then frG g else g
def datG (f:Bool) (τ:Ty) (a:S.D τ):G:=
 match τ with
 | .st n=>.agg ((encT S (.st n) a).map (frB f))
 | τ=>frB f (cellG S τ a)
def ptrG (f:Bool) (τ:Ty) (a:S.D τ):G:=bif f then .fr (.ptr (encT S τ a)) else .ptr (encT S τ a)
def TV.er (ln:Nat→Nat):TV S→G
 | .dat f τ a=>datG f τ a
 | .ptr f τ a=>ptrG f τ a
 | .agg l=>.agg (go ln l)
 | .tup l=>.tup (go ln l)
 | .loc h off=>.loc h off
 | .elt h τ i j=>.loc h (i*S.sz τ+j)
 | .osl h τ=>.osl h (S.sz τ) 0 (ln h)
 | .sub h τ o n=>.osl h (S.sz τ) (o*S.sz τ) n
 | .clo f caps=>.clo f (go ln caps)
 | .yld h=>.yld h
 | .mp h=>.mref h
 | .ks h τ i n=>.ks h i (S.sz τ) n
 | .kp h τ i j=>.kp h i (j*S.sz τ)
 | .kpo b h τ i j=>bif b then .val (.pointer none) else .kp h i (j*S.sz τ)
 | .lpo b h off=>bif b then .val (.pointer none) else .loc h off
 | .val v=>.val v
 | .any=>.any
where go (ln:Nat→Nat):List (TV S)→List G
 | []=>[]
 | x::r=>x.er ln::go ln r
theorem er_go (ln:Nat→Nat) (l:List (TV S)):TV.er.go ln l=l.map (TV.er ln):=by
 induction l with
 | nil=>rfl
 | cons x r ih=>simp only[TV.er.go,List.map_cons,ih]
def jmpI (id:Nat) (n:Int):Option Code:=bif n==0 then none else bif n==1 then some (.exit id) else some .ret
def Sig.lp (S:Sig) (key:Nat) (n:Int):Lp:=⟨0,(S.lpc key).N,(S.lpc key).slots,(S.lpc key).ps,(S.lpc key).asg,(S.lpc key).body,jmpI (S.lpc key).id n⟩
def tlen:(τ:Ty)→S.D τ→Nat
 | .list _,l=>List.length l
 | _,_=>0
def TO.len:TO S→Nat
 | .arr _ _ _ _ l=>l.length
 | .deep _ _ _ _ τ a=>tlen τ a
 | _=>0
def famRows:(τ:Ty)→S.D τ→Nat×List (Nat×List G)
 | .list (.list t),ll=>(S.sz t,List.map (fun l=>(List.length l,List.flatMap (encT S t) l)) ll)
 | _,_=>(1,[])
def rowL:Leaf S.α→Nat×List G
 | ⟨.list t,l⟩=>(List.length l,List.flatMap (encT S t) l)
 | _=>(0,[])
def rowSz:List Ty→Nat
 | .list t::_=>S.sz t
 | _=>1
def rowsT:(τ:Ty)→S.D τ→Nat×Nat×List (Nat×List G)
 | .list (.st n),l=>(rowSz (S:=S) (S.tys n),(S.tys n).length,List.flatMap (fun a=>(S.cells n a).map rowL) l)
 | _,_=>(1,1,[])
def intG (q:IntKind) (l:List Int):List G:=l.map fun x=>.val (.int q x)
def MEnt.me (q:IntKind) (e:MEnt):ME:=⟨(e.a,e.b),e.t,e.f.map fun p=>(p.1,intG q p.2)⟩
def mapOf:(τ:Ty)→S.D τ→MDat
 | .map,d=>d
 | _,_=>⟨0,[],none⟩
def pdG (q:IntKind):Option (Option (Nat×Nat)×Nat×List Int)→Option (Option (Nat×Nat)×Nat×List G)
 | some (s,x,l)=>some (s,x,intG q l)
 | none=>none
def Dk.dp (e:TypeId) (τ:Ty) (a:S.D τ):Dk→Dp
 | .fam kty=>famDp e kty (famRows τ a).1 (famRows τ a).2
 | .rows kty ho=>rowsDp e kty (rowsT τ a).1 (rowsT τ a).2.1 (rowsT τ a).2.2 ho
 | .map q kty tty=>mapDp q kty tty (mapOf τ a).n ((mapOf τ a).es.map (MEnt.me q)) (pdG q (mapOf τ a).pd)
def TO.er (ln:Nat→Nat):TO S→Blk
 | .box e m cs=>⟨e,false,m,false,0,TV.er.go ln cs,none⟩
 | .arr e m f τ l=>⟨e,true,m,f,S.sz τ,List.flatMap (encT S τ) l,none⟩
 | .lp key n cs=>⟨0,false,false,false,0,TV.er.go ln cs,some (.loop (S.lp key n))⟩
 | .deep e m f dk τ a=>⟨e,true,m,f,1,[],some (.deep (dk.dp e τ a))⟩
def tget:List (Nat×TV S)→Nat→Option (TV S)
 | [],_=>none
 | (k,g)::r,t=>bif Nat.beq k t then some g else tget r t
def oget:List (Nat×TO S)→Nat→Option (TO S)
 | [],_=>none
 | (k,g)::r,t=>bif Nat.beq k t then some g else oget r t
def lnO (st:List (Nat×TO S)) (h:Nat):Nat:=match oget st h with | some o=>o.len | none=>0
def erF (ln:Nat→Nat):List (Nat×TV S)→List (Nat×G)
 | []=>[]
 | (t,v)::r=>(t,v.er ln)::erF ln r
def erS (ln:Nat→Nat):List (Nat×TO S)→List (Nat×Blk)
 | []=>[]
 | (t,o)::r=>(t,o.er ln)::erS ln r
def TSt.frA (s:TSt S):List (Nat×TV S):=s.fr++s.lo
def TSt.stA (s:TSt S):List (Nat×TO S):=s.st++s.lst
def TSt.ln (s:TSt S):Nat→Nat:=lnO s.stA
def TSt.er (s:TSt S):St:=⟨erF s.ln s.frA,erS s.ln s.stA,TV.er.go s.ln s.df⟩
structure Keep (s t:TSt S):Prop where
 lo:t.lo=s.lo
 lst:t.lst=s.lst
 df:t.df=s.df
theorem Keep.refl (s:TSt S):Keep s s:=⟨rfl,rfl,rfl⟩
theorem Keep.trans {a b c:TSt S}(h:Keep a b) (h':Keep b c):Keep a c:=⟨h'.lo.trans h.lo,h'.lst.trans h.lst,h'.df.trans h.df⟩
theorem get_erF {ln:Nat→Nat}:∀{fr:List (Nat×TV S)}{t:Nat}{v:TV S},tget fr t=some v→get (erF ln fr) t=some (v.er ln)
 | [],_,_,h=>by cases h
 | (k,g)::r,t,v,h=>by
  simp only[tget] at h
  simp only[erF,AM.get]
  cases hk:Nat.beq k t with
  | true=>rw[hk] at h;cases h;rfl
  | false=>rw[hk] at h;exact get_erF h
theorem sget_erS {ln:Nat→Nat}:∀{st:List (Nat×TO S)}{t:Nat}{o:TO S},oget st t=some o→sget (erS ln st) t=some (o.er ln)
 | [],_,_,h=>by cases h
 | (k,g)::r,t,v,h=>by
  simp only[oget] at h
  simp only[erS,sget]
  cases hk:Nat.beq k t with
  | true=>rw[hk] at h;cases h;rfl
  | false=>rw[hk] at h;exact sget_erS h
def tvK:Value→TV S
 | .int k n=>.dat true (.int k) n
 | .bool b=>.dat true .bool b
 | .string s=>.dat true .str s
 | v=>.val v
theorem tvK_er (ln:Nat→Nat) (v:Value):(tvK v:TV S).er ln=.val v:=by cases v <;> rfl
def tev (s:TSt S):Operand→Option (TV S)
 | .tmp t=>tget s.frA t
 | .const v=>some (tvK v)
 | .func f=>some (.clo f [])
 | .global _=>none
theorem tev_ok {s:TSt S}{x:Operand}{v:TV S}(h:tev s x=some v):ev s.er x=some (v.er s.ln):=by
 cases x with
 | tmp t=>exact get_erF h
 | const v'=>cases h;simp only[ev,tvK_er]
 | func f=>cases h;rfl
 | global _=>cases h
def rmS (d:Nat):List (Nat×Nat×Leaf S.α)→List (Nat×Nat×Leaf S.α)
 | []=>[]
 | x::r=>bif Nat.beq x.1 d then rmS d r else x::rmS d r
def rmH (h:Nat):List (Nat×Nat×Leaf S.α)→List (Nat×Nat×Leaf S.α)
 | []=>[]
 | x::r=>bif Nat.beq x.2.1 h then rmH h r else x::rmH h r
theorem rmS_mem {d:Nat}{y:Nat×Nat×Leaf S.α}:∀{l:List (Nat×Nat×Leaf S.α)},y∈rmS d l→y∈l∧y.1≠d
 | [],h=>by cases h
 | x::r,h=>by
  simp only[rmS] at h
  cases hb:Nat.beq x.1 d with
  | true=>rw[hb] at h;obtain⟨h1,h2⟩:=rmS_mem h;exact⟨List.mem_cons_of_mem _ h1,h2⟩
  | false=>
   rw[hb] at h
   rcases List.mem_cons.1 h with e | h
   ·subst e
    exact⟨List.mem_cons_self,fun e=>by rw[e,Nat.beq_refl] at hb;cases hb⟩
   ·obtain⟨h1,h2⟩:=rmS_mem h;exact⟨List.mem_cons_of_mem _ h1,h2⟩
theorem rmH_mem {d:Nat}{y:Nat×Nat×Leaf S.α}:∀{l:List (Nat×Nat×Leaf S.α)},y∈rmH d l→y∈l∧y.2.1≠d
 | [],h=>by cases h
 | x::r,h=>by
  simp only[rmH] at h
  cases hb:Nat.beq x.2.1 d with
  | true=>rw[hb] at h;obtain⟨h1,h2⟩:=rmH_mem h;exact⟨List.mem_cons_of_mem _ h1,h2⟩
  | false=>
   rw[hb] at h
   rcases List.mem_cons.1 h with e | h
   ·subst e
    exact⟨List.mem_cons_self,fun e=>by rw[e,Nat.beq_refl] at hb;cases hb⟩
   ·obtain⟨h1,h2⟩:=rmH_mem h;exact⟨List.mem_cons_of_mem _ h1,h2⟩
def TSt.put (s:TSt S) (d:Nat) (v:TV S):TSt S:={s with fr:=(d,v)::s.fr,last:=rmS d s.last}
def LInv (s:TSt S):Prop:=∀d h x,(d,h,x)∈s.last→∃i ety m f τ l a,tget s.frA d=some (.elt h τ i 0)∧oget s.stA h=some (.arr ety m f τ l)∧x=⟨τ,a⟩∧l[i]?=some a
theorem tget_cons_other {d t:Nat}(v:TV S) (fr:List (Nat×TV S)) (h:t≠d):tget ((d,v)::fr) t=tget fr t:=by
 simp only[tget]
 cases hb:Nat.beq d t with
 | true=>exact absurd (Nat.eq_of_beq_eq_true hb).symm h
 | false=>rfl
theorem LInv.put {s:TSt S}(h:LInv s) (d:Nat) (v:TV S):LInv (s.put d v):=by
 intro d' hh x hm
 obtain⟨h1,h2⟩:=rmS_mem hm
 obtain⟨i,ety,m,f,τ,l,a,e1,e2⟩:=h d' hh x h1
 exact⟨i,ety,m,f,τ,l,a,(tget_cons_other v s.frA h2).trans e1,e2⟩
theorem put_er (s:TSt S) (d:Nat) (v:TV S):(s.put d v).er=s.er.put d (v.er s.ln):=rfl
end
end Go.DN
/-
 DN,part B:operations that yield a value and leave the world alone.
-/
namespace Go.DN
open Go.AM
section
variable {S:Sig}
def sizP (P:Program) (t:TypeId):Option Nat:=(P.info? t).map (·.size)
def aggP (P:Program) (t:TypeId):Option Bool:=match P.underlying t with
 | some (.struct _)=>some true
 | some (.array _ _)=>some true
 | some _=>some false
 | none=>none
theorem sizP_ok {P:Program}{t:TypeId}{n:Nat}(h:sizP P t=some n):∀w,(sizeOf t).run P w=.ok n w:=by
 intro w
 unfold sizP at h
 obtain⟨i,h1,h2⟩:=Option.map_eq_some_iff.1 h
 subst h2
 simp[sizeOf,typeInfo,h1]
theorem aggP_ok {P:Program}{t:TypeId}{b:Bool}(h:aggP P t=some b):∀w,(isAgg t).run P w=.ok b w:=by
 intro w
 unfold aggP at h
 cases hu:P.underlying t with
 | none=>rw[hu] at h;cases h
 | some d=>rw[hu] at h;cases d <;> cases h <;> simp[isAgg,underlying,hu]
def binI (op:BinOp) (k:IntKind) (a b:Int):Option (TV S):=
 match op with
 | .add=>some (.dat true (.int k) (k.wrap (a+b)))
 | .sub=>some (.dat true (.int k) (k.wrap (a-b)))
 | .mul=>some (.dat true (.int k) (k.wrap (a*b)))
 | .eql=>some (.dat true .bool (a==b))
 | .neq=>some (.dat true .bool (a !=b))
 | .lss=>some (.dat true .bool (decide (a<b)))
 | .leq=>some (.dat true .bool (decide (a≤b)))
 | .gtr=>some (.dat true .bool (decide (a>b)))
 | .geq=>some (.dat true .bool (decide (a≥b)))
 | .and=>some (.dat true (.int k) (k.wrap ((BitVec.ofInt k.bits a &&& BitVec.ofInt k.bits b).toNat:Int)))
 | .or=>some (.dat true (.int k) (k.wrap ((BitVec.ofInt k.bits a ||| BitVec.ofInt k.bits b).toNat:Int)))
 | _=>none
theorem binI_ok {op:BinOp}{k:IntKind}{a b:Int}{v:TV S}(h:binI op k a b=some v) (ln:Nat→Nat):∃r,v.er ln=.val r∧binV op (.int k a) (.int k b)=some r:=by
 cases op <;> simp only[binI] at h <;> cases h <;> exact⟨_,rfl,by simp[binV]⟩
def binS (op:BinOp) (a b:ByteArray):Option (TV S):=
 match op with
 | .eql=>some (.dat true .bool (a.toList==b.toList))
 | .neq=>some (.dat true .bool (!(a.toList==b.toList)))
 | .lss=>some (.dat true .bool (Op.bytesLess a.toList b.toList))
 | _=>none
theorem binS_ok {op:BinOp}{a b:ByteArray}{v:TV S}(h:binS op a b=some v) (ln:Nat→Nat):∃r,v.er ln=.val r∧binV op (.string a) (.string b)=some r:=by
 cases op <;> simp only[binS] at h <;> cases h <;> exact⟨_,rfl,by simp[binV]⟩
def intsL (ki:IntKind):List (Leaf S.α)→Option (List Int)
 | []=>some []
 | ⟨.int k,a⟩::r=>match decEq k ki with
  | isTrue _=>match intsL ki r with
   | some l=>some (a::l)
   | none=>none
  | isFalse _=>none
 | _=>none
theorem intsL_ok {ki:IntKind}:∀{l:List (Leaf S.α)}{xs:List Int},intsL ki l=some xs→(l.map fun x=>cellG S x.τ x.a)=xs.map fun a=>.val (.int ki a)
 | [],_,h=>by cases h;rfl
 | ⟨.int k,a⟩::r,xs,h=>by
  simp only[intsL] at h
  split at h
  ·rename_i e _
   subst e
   split at h
   ·rename_i l hl
    cases h
    rw[List.map_cons,List.map_cons,intsL_ok hl]
    rfl
   ·cases h
  ·cases h
 | ⟨.bool,_⟩::_,_,h=>by cases h
 | ⟨.ifc,_⟩::_,_,h=>by cases h
 | ⟨.str,_⟩::_,_,h=>by cases h
 | ⟨.list _,_⟩::_,_,h=>by cases h
 | ⟨.st _,_⟩::_,_,h=>by cases h
theorem er_ints {f:Bool}{n:Nat}{a:S.α n}{ki:IntKind}{xs:List Int}(h:intsL ki (S.cells n a)=some xs) (ln:Nat→Nat):(TV.dat f (.st n) a:TV S).er ln=.agg (xs.map fun a=>.val (.int ki a)):=by
 show G.agg ((encT S (.st n) a).map (frB f))=_
 rw[enc_st,intsL_ok h,List.map_map]
 congr 1
 refine List.map_congr_left fun x _=>?_
 cases f <;> rfl
def intsV (ki:IntKind):List (TV S)→Option (List Int)
 | []=>some []
 | .dat _ (.int k) a::r=>match decEq k ki with
  | isTrue _=>match intsV ki r with
   | some l=>some (a::l)
   | none=>none
  | isFalse _=>none
 | _::_=>none
theorem intsV_ok {ki:IntKind}(ln:Nat→Nat):∀{l:List (TV S)}{xs:List Int},intsV ki l=some xs→TV.er.go ln l=xs.map fun a=>.val (.int ki a)
 | [],_,h=>by cases h;rfl
 | v::r,xs,h=>by
  unfold intsV at h
  split at h
  ·rename_i e;cases e
  ·rename_i f k a r' e
   cases e
   split at h
   ·rename_i e _
    subst e
    split at h
    ·rename_i l hl
     cases h
     simp only[TV.er.go,intsV_ok ln hl,List.map_cons]
     congr 1
     cases f <;> rfl
    ·cases h
   ·cases h
  ·cases h
def arrV (ki:IntKind):TV S→Option (List Int)
 | .dat _ (.st n) a=>intsL ki (S.cells n a)
 | .agg vs=>intsV ki vs
 | _=>none
theorem arrV_ok {ki:IntKind}{v:TV S}{xs:List Int}(h:arrV ki v=some xs) (ln:Nat→Nat):v.er ln=.agg (xs.map fun a=>.val (.int ki a)):=by
 unfold arrV at h
 split at h
 ·exact er_ints h ln
 ·exact congrArg G.agg (intsV_ok ln h)
 ·cases h
def arrC (P:Program) (op:BinOp) (t:TypeId) (x y:TV S){A:Type}(k:TV S→Option A):Option A:=
 match op with
 | .eql=>match P.underlying t with
  | some (.array len e)=>match P.underlying e with
   | some (.int ki)=>match arrV ki x with
    | some xs=>match arrV ki y with
     | some ys=>match decEq (sizP P e) (some 1) with
      | isTrue _=>match !(P.eqGuardType P.depth t)&&(Nat.beq xs.length len&&Nat.beq ys.length len) with
       | true=>k (.dat true .bool (eqI xs ys))
       | false=>none
      | isFalse _=>none
     | none=>none
    | none=>none
   | _=>none
  | _=>none
 | _=>none
def scalV:(τ:Ty)→S.D τ→Option Value
 | .int k,a=>some (.int k a)
 | .bool,a=>some (.bool a)
 | .str,a=>some (.string a)
 | _,_=>none
theorem scalV_ok:∀{τ:Ty}{a:S.D τ}{v:Value},scalV τ a=some v→∀f,frB f (cellG S τ a)=.val v∧datG f τ a=.val v
 | .int k,a,_,h,f=>by cases h;cases f <;> exact⟨rfl,rfl⟩
 | .bool,a,_,h,f=>by cases h;cases f <;> exact⟨rfl,rfl⟩
 | .str,a,_,h,f=>by cases h;cases f <;> exact⟨rfl,rfl⟩
 | .list _,_,_,h,_=>by cases h
 | .st _,_,_,h,_=>by cases h
 | .map,_,_,h,_=>by cases h
 | .ifc,_,_,h,_=>by cases h
def scalL:List (Leaf S.α)→Option (List Value)
 | []=>some []
 | x::r=>match scalV x.τ x.a,scalL r with
  | some v,some l=>some (v::l)
  | _,_=>none
def scalLV:List (TV S)→Option (List Value)
 | []=>some []
 | .dat _ τ a::r=>match scalV τ a,scalLV r with
  | some v,some l=>some (v::l)
  | _,_=>none
 | _::_=>none
def stV:TV S→Option (List Value)
 | .dat _ (.st n) a=>scalL (S.cells n a)
 | .agg vs=>scalLV vs
 | _=>none
theorem stV_ok {v:TV S}{us:List Value}(h:stV v=some us) (ln:Nat→Nat):v.er ln=.agg (us.map .val):=by
 unfold stV at h
 split at h
 ·rename_i f n a
  show G.agg ((encT S (.st n) a).map (frB f))=_
  rw[enc_st,List.map_map]
  congr 1
  generalize S.cells n a=l at h
  induction l generalizing us with
  | nil=>cases h;rfl
  | cons x r ih=>
   simp only[scalL] at h
   split at h
   ·rename_i hv hl
    cases h
    rw[List.map_cons,List.map_cons,←ih hl]
    congr 1
    exact(scalV_ok hv f).1
   ·cases h
 ·rename_i vs
  refine congrArg G.agg ?_
  induction vs generalizing us with
  | nil=>cases h;rfl
  | cons x r ih=>
   unfold scalLV at h
   split at h
   ·rename_i e;cases e
   ·rename_i f τ a r' e
    cases e
    split at h
    ·rename_i hv hl
     cases h
     simp only[TV.er.go,List.map_cons,←ih hl]
     congr 1
     exact(scalV_ok hv f).2
    ·cases h
   ·cases h
 ·cases h
def stC (P:Program) (op:BinOp) (t:TypeId) (x y:TV S){A:Type}(k:TV S→Option A):Option A:=
 match P.underlying t with
 | some (.struct fs)=>match stV x with
  | some us=>match stV y with
   | some vs=>match eqFs P fs.toList us vs with
    | some b=>match !(P.stoodInHeld t)&&!(P.eqGuardType P.depth t) with
     | true=>match op with
      | .eql=>k (.dat true .bool b)
      | .neq=>k (.dat true .bool (!b))
      | _=>none
     | false=>none
    | none=>none
   | none=>none
  | none=>none
 | _=>none
def eqC (P:Program) (op:BinOp) (t:TypeId) (x y:TV S){A:Type}(k:TV S→Option A):Option A:=
 match P.underlying t with
 | some (.struct _)=>stC P op t x y k
 | _=>arrC P op t x y k
def binC (P:Program) (op:BinOp) (t:TypeId) (x y:TV S){A:Type}(k:TV S→Option A):Option A:=
 match x with
 | .dat _ (.int ka) a=>match y with
  | .dat _ (.int kb) b=>match op with
   | .quo=>match decEq ka kb with
    | isTrue _=>(chk (b≠0)).bind fun _=>k (.dat true (.int ka) (ka.wrap (Int.tdiv a b)))
    | isFalse _=>none
   | .rem=>match decEq ka kb with
    | isTrue _=>(chk (b≠0)).bind fun _=>k (.dat true (.int ka) (Int.tmod a b))
    | isFalse _=>none
   | .shr=>(chk (0≤b)).bind fun _=>k (.dat true (.int ka) (Int.fdiv a (2^(min (Int.toNat b) ka.bits))))
   | .shl=>(chk (0≤b)).bind fun _=>k (.dat true (.int ka) (ka.wrap (a*2^(min (Int.toNat b) ka.bits))))
   | op=>match decEq ka kb with
    | isTrue _=>match binI op ka a b with
     | some v=>k v
     | none=>none
    | isFalse _=>none
  | _=>none
 | .dat _ .str a=>match y with
  | .dat _ .str b=>match op with
   | .add=>(chk (((a.size+b.size:Nat):Int)≤9223372036854775807)).bind fun _=>k (.dat true .str (a++b))
   | op=>match binS op a b with
    | some v=>k v
    | none=>none
  | _=>none
 | .dat _ .bool a=>match y with
  | .dat _ .bool b=>match P.underlying t with
   | some .bool=>match op with
    | .eql=>k (.dat true .bool (a==b))
    | .neq=>k (.dat true .bool (!(a==b)))
    | _=>none
   | _=>none
  | _=>none
 | .dat f (.st n) a=>eqC P op t (.dat f (.st n) a) y k
 | .agg vs=>eqC P op t (.agg vs) y k
 | _=>none
section
variable {P:Program}{s:TSt S}{dst:Option Tmp}{ty:TypeId}{pos:String}{after:Array Edge}{guard:Option (Nat×Bool)}
theorem datG_int (f:Bool) (k:IntKind) (a:Int):datG (S:=S) f (.int k) a=.val (.int k a):=by cases f <;> rfl
theorem datG_bool (f:Bool) (a:Bool):datG (S:=S) f .bool a=.val (.bool a):=by cases f <;> rfl
theorem datG_str (f:Bool) (a:ByteArray):datG (S:=S) f .str a=.val (.string a):=by cases f <;> rfl
theorem evI {x:Operand}{f:Bool}{k:IntKind}{a:Int}(h:tev s x=some (.dat f (.int k) a)):ev s.er x=some (.val (.int k a)):=by rw[tev_ok h];exact congrArg some (datG_int f k a)
theorem evB {x:Operand}{f:Bool}{a:Bool}(h:tev s x=some (.dat f .bool a)):ev s.er x=some (.val (.bool a)):=by rw[tev_ok h];exact congrArg some (datG_bool f a)
theorem evS {x:Operand}{f:Bool}{a:ByteArray}(h:tev s x=some (.dat f .str a)):ev s.er x=some (.val (.string a)):=by rw[tev_ok h];exact congrArg some (datG_str f a)
theorem arrC_ok {op:BinOp}{t t':TypeId}{x y:Operand}{vx vy:TV S}{A:Type}{k:TV S→Option A}{r:A}(hx:tev s x=some vx) (hy:tev s y=some vy) (h:arrC P op t vx vy k=some r):
  ∃v,PY P s.er ⟨dst,.binOp op t x y t',ty,pos,after,guard⟩ (v.er s.ln)∧k v=some r:=by
 unfold arrC at h
 split at h
 ·split at h
  ·rename_i hu
   split at h
   ·rename_i hue
    split at h
    ·rename_i hxs
     split at h
     ·rename_i hys
      split at h
      ·rename_i hz _
       split at h
       ·rename_i hc
        simp only[Bool.and_eq_true,Bool.not_eq_true'] at hc
        obtain⟨c1,c2,c3⟩:=hc
        exact⟨_,PY.arrEq (by rw[tev_ok hx,arrV_ok hxs]) (by rw[tev_ok hy,arrV_ok hys]) hu hue (sizP_ok hz) (Nat.eq_of_beq_eq_true c2) (Nat.eq_of_beq_eq_true c3) c1,h⟩
       ·cases h
      ·cases h
     ·cases h
    ·cases h
   ·cases h
  ·cases h
 ·cases h
theorem eqC_ok {op:BinOp}{t t':TypeId}{x y:Operand}{vx vy:TV S}{A:Type}{k:TV S→Option A}{r:A}(hx:tev s x=some vx) (hy:tev s y=some vy) (h:eqC P op t vx vy k=some r):
  ∃v,PY P s.er ⟨dst,.binOp op t x y t',ty,pos,after,guard⟩ (v.er s.ln)∧k v=some r:=by
 unfold eqC at h
 split at h
 ·unfold stC at h
  split at h
  ·rename_i hu
   split at h
   ·rename_i hxs
    split at h
    ·rename_i hys
     split at h
     ·rename_i b hb
      split at h
      ·rename_i hc
       simp only[Bool.and_eq_true,Bool.not_eq_true'] at hc
       have:=PY.stEq (s:=s.er) (dst:=dst) (ty:=ty) (pos:=pos) (after:=after) (guard:=guard) (t':=t') (by rw[tev_ok hx,stV_ok hxs]) (by rw[tev_ok hy,stV_ok hys]) hu hc.1 hc.2 hb
       split at h
       ·exact⟨.dat true .bool b,this.1,h⟩
       ·exact⟨.dat true .bool (!b),this.2,h⟩
       ·cases h
      ·cases h
     ·cases h
    ·cases h
   ·cases h
  ·cases h
 ·exact arrC_ok hx hy h
theorem binC_ok {op:BinOp}{t t':TypeId}{x y:Operand}{vx vy:TV S}{A:Type}{k:TV S→Option A}{r:A}(hx:tev s x=some vx) (hy:tev s y=some vy) (h:binC P op t vx vy k=some r):
  ∃v,PY P s.er ⟨dst,.binOp op t x y t',ty,pos,after,guard⟩ (v.er s.ln)∧k v=some r:=by
 unfold binC at h
 split at h
 ·split at h
  ·rename_i fa ka a fb kb b
   have e1:=evI hx
   have e2:=evI hy
   split at h
   ·split at h
    ·rename_i _ e _
     subst e
     obtain⟨u,hu,h⟩:=bind_some h
     exact⟨_,PY.quo e1 e2 (chk_spec hu),h⟩
    ·cases h
   ·split at h
    ·rename_i _ e _
     subst e
     obtain⟨u,hu,h⟩:=bind_some h
     exact⟨_,PY.rem e1 e2 (chk_spec hu),h⟩
    ·cases h
   ·obtain⟨u,hu,h⟩:=bind_some h
    exact⟨_,PY.shr e1 e2 (chk_spec hu),h⟩
   ·obtain⟨u,hu,h⟩:=bind_some h
    exact⟨_,PY.shl e1 e2 (chk_spec hu),h⟩
   ·split at h
    ·rename_i e _
     subst e
     split at h
     ·rename_i v hv
      obtain⟨w,h1,h2⟩:=binI_ok hv s.ln
      exact⟨v,by rw[h1];exact PY.bin e1 e2 h2,h⟩
     ·cases h
    ·cases h
  ·cases h
 ·split at h
  ·split at h
   ·obtain⟨u,hu,h⟩:=bind_some h
    exact⟨_,PY.cat (evS hx) (evS hy) (chk_spec hu),h⟩
   ·split at h
    ·rename_i v hv
     obtain⟨w,h1,h2⟩:=binS_ok hv s.ln
     exact⟨v,by rw[h1];exact PY.bin (evS hx) (evS hy) h2,h⟩
    ·cases h
  ·cases h
 ·split at h
  ·split at h
   ·rename_i hu
    split at h
    ·exact⟨_,PY.eqB (evB hx) (evB hy) hu,h⟩
    ·exact⟨_,PY.neB (evB hx) (evB hy) hu,h⟩
    ·cases h
   ·cases h
  ·cases h
 ·exact eqC_ok hx hy h
 ·exact eqC_ok hx hy h
 ·cases h
end
end
end Go.DN
/-
 DN,part C:more operations that yield a value;a value seen as plain data.
-/
namespace Go.DN
open Go.AM
def RW (g g':G):Prop:=∀(O:Nat→Prop) (base:Nat) (w:World) (μ:Mu) (v:Value),RepV O base w μ g v→RepV O base w μ g' v
theorem RW.refl (g:G):RW g g:=fun _ _ _ _ _ h=>h
theorem RW.trans {a b c:G}(h:RW a b) (h':RW b c):RW a c:=fun _ _ _ _ _ x=>h' _ _ _ _ _ (h _ _ _ _ _ x)
theorem PY.rw {P:Program}{s:St}{o:Oper}{g g':G}(h:PY P s o g) (hw:RW g g'):PY P s o g':=fun N cx μ a w hr=>
 let ⟨v,h1,h2⟩:=h N cx μ a w hr
 ⟨v,hw _ _ _ _ _ h1,h2⟩
theorem Yield.rw {P:Program}{W:List Nat}{s:St}{o:Oper}{g g':G}(h:Yield P W s o g) (hw:RW g g'):Yield P W s o g':=fun N cx μ a w hr=>
 let ⟨v,h1,h2⟩:=h N cx μ a w hr
 ⟨v,hw _ _ _ _ _ h1,h2⟩
theorem RepI.ptr_take {O:Nat→Prop}{w:World}{cs:List G}{v:Value}(n:Nat) (h:RepI O w (.ptr cs) v):RepI O w (.ptr (cs.take n)) v:=by
 cases h with
 | ptr _ b off us h1 h2 h3 h4=>
  refine .ptr _ b off us h1 h2 (fun j hj=>h3 j ?_) (fun j g hg=>h4 j g ?_)
  ·rw[List.length_take] at hj;omega
  ·rw[List.getElem?_take] at hg;split at hg
   ·exact hg
   ·cases hg
def ptrB (f:Bool) (cs:List G):G:=bif f then .fr (.ptr cs) else .ptr cs
theorem RW.ptr_take (f:Bool) (cs:List G) (n:Nat):RW (ptrB f cs) (ptrB f (cs.take n)):=by
 intro O base w μ v h
 cases f with
 | true=>cases h with
  | imm h=>cases h
  | fr h=>exact .fr (RepI.ptr_take n h)
 | false=>cases h with
  | imm h=>exact .imm (RepI.ptr_take n h)
theorem RW.nil:RW (.val (.slice none 0 0)) (.fr (.sl 0 [])):=by
 intro O base w μ v h
 cases h with
 | imm h=>cases h;exact .fr .nil
theorem RW.unfr (g:G):RW (frG g) g:=by
 intro O base w μ v h
 cases g <;> first | exact h | (cases h with
  | imm h=>cases h
  | fr h=>exact .imm h.old)
theorem RW.frB (f f':Bool) (g:G) (h:f'=true→f=true):RW (DN.frB f g) (DN.frB f' g):=by
 cases f with
 | true=>cases f' with
  | true=>exact RW.refl _
  | false=>exact RW.unfr g
 | false=>cases f' with
  | true=>cases h rfl
  | false=>exact RW.refl _
theorem RW.agg {gs gs':List G}(hl:gs'.length=gs.length) (h:∀(j:Nat) (g':G),gs'[j]?=some g'→∃g,gs[j]?=some g∧RW g g'):RW (.agg gs) (.agg gs'):=by
 intro O base w μ v hv
 cases hv with
 | imm hv=>cases hv with
  | agg _ us h1 h2=>exact .agg _ us (h1.trans hl.symm) fun j g' v hg' hv=>(by
    obtain⟨g,hg,hw⟩:=h j g' hg'
    exact hw _ _ _ _ _ (.imm (h2 j g v hg hv)))
 | agg _ us h1 h2=>exact .agg _ us (h1.trans hl.symm) fun j g' v hg' hv=>(by
   obtain⟨g,hg,hw⟩:=h j g' hg'
   exact hw _ _ _ _ _ (h2 j g v hg hv))
theorem RW.tup {gs gs':List G}(hl:gs'.length=gs.length) (h:∀(j:Nat) (g':G),gs'[j]?=some g'→∃g,gs[j]?=some g∧RW g g'):RW (.tup gs) (.tup gs'):=by
 intro O base w μ v hv
 cases hv with
 | imm hv=>cases hv
 | tup _ us h1 h2=>exact .tup _ us (h1.trans hl.symm) fun j g' v hg' hv=>(by
   obtain⟨g,hg,hw⟩:=h j g' hg'
   exact hw _ _ _ _ _ (h2 j g v hg hv))
section
variable {S:Sig}
def tas1 (τ:Ty):TV S→Option (Bool×S.D τ)
 | .dat f τ' a=>match τ'.isSt with
  | true=>none
  | false=>match castT τ' τ a with
   | some b=>some (f||τ.scal,b)
   | none=>none
 | .val (.slice none 0 0)=>match τ with
  | .list _=>some (true,[])
  | _=>none
 | _=>none
theorem tas1_ok {τ:Ty}{v:TV S}{f:Bool}{a:S.D τ}(h:tas1 τ v=some (f,a)) (ln:Nat→Nat):τ.isSt=false∧RW (v.er ln) (frB f (cellG S τ a)):=by
 unfold tas1 at h
 split at h
 ·rename_i f' τ' a'
  split at h
  ·cases h
  ·rename_i h1
   split at h
   ·rename_i b hb
    cases h
    have:=castT_some hb
    cases this
    refine⟨h1,?_⟩
    cases τ with
    | st n=>cases h1
    | _=>cases f' <;> exact RW.refl _
   ·cases h
 ·split at h
  ·cases h
   exact⟨rfl,RW.nil⟩
  ·cases h
 ·cases h
def tasL:List Ty→List (TV S)→Option (Bool×List (Leaf S.α))
 | [],[]=>some (true,[])
 | τ::ts,v::vs=>match tas1 τ v with
  | some (f,a)=>match tasL ts vs with
   | some (g,l)=>some (f&&g,⟨τ,a⟩::l)
   | none=>none
  | none=>none
 | _,_=>none
theorem tasL_ok (ln:Nat→Nat):∀{ts:List Ty}{vs:List (TV S)}{f:Bool}{l:List (Leaf S.α)},tasL ts vs=some (f,l)→
  l.length=vs.length∧∀(j:Nat) (x:Leaf S.α),l[j]?=some x→∃v,vs[j]?=some v∧RW (v.er ln) (frB f (cellG S x.τ x.a))
 | [],[],_,_,h=>by cases h;exact⟨rfl,fun j x h=>by simp at h⟩
 | τ::ts,v::vs,f,l,h=>by
  simp only[tasL] at h
  split at h
  ·rename_i f1 a h1
   split at h
   ·rename_i g l' h2
    cases h
    obtain⟨i1,i2⟩:=tasL_ok ln h2
    obtain⟨_,h3⟩:=tas1_ok h1 ln
    refine⟨by simp[i1],fun j x hx=>?_⟩
    cases j with
    | zero=>cases hx;exact⟨v,rfl,h3.trans (RW.frB _ _ _ fun h=>by simp at h;exact h.1)⟩
    | succ j=>
     obtain⟨v',h4,h5⟩:=i2 j x hx
     exact⟨v',h4,h5.trans (RW.frB _ _ _ fun h=>by simp at h;exact h.2)⟩
   ·cases h
  ·cases h
 | [],_::_,_,_,h=>by cases h
 | _::_,[],_,_,h=>by cases h
def tas (τ:Ty) (v:TV S):Option (Bool×S.D τ):=
 match v with
 | .dat f τ' a=>match castT τ' τ a with
  | some b=>some (f||τ.scal,b)
  | none=>none
 | .val (.slice none 0 0)=>match τ with
  | .list _=>some (true,[])
  | _=>none
 | .agg vs=>match τ with
  | .st n=>match tasL (S.tys n) vs with
   | some (f,l)=>match S.put n l with
    | some a=>some (f,a)
    | none=>none
   | none=>none
  | _=>none
 | _=>none
theorem tas_ok {τ:Ty}{v:TV S}{f:Bool}{a:S.D τ}(h:tas τ v=some (f,a)) (ln:Nat→Nat):RW (v.er ln) (datG f τ a):=by
 unfold tas at h
 split at h
 ·split at h
  ·rename_i f' _ _ _ b hb
   cases h
   have:=castT_some hb
   cases this
   cases τ with
   | st n=>cases f' <;> exact RW.refl _
   | _=>cases f' <;> exact RW.refl _
  ·cases h
 ·split at h
  ·cases h;exact RW.nil
  ·cases h
 ·split at h
  ·rename_i _ vs _ n
   split at h
   ·rename_i f1 l h1
    split at h
    ·rename_i a1 h2
     cases h
     obtain⟨i1,i2⟩:=tasL_ok ln h1
     have h3:=S.put_cells n l a h2
     show RW (.agg (TV.er.go ln vs)) (.agg ((encT S (.st n) a).map (frB f)))
     rw[er_go,enc_st,h3]
     refine RW.agg (by simp[i1]) fun j g' hg'=>?_
     simp only[List.getElem?_map,Option.map_map] at hg'
     obtain⟨x,hx,rfl⟩:=Option.map_eq_some_iff.1 hg'
     obtain⟨v,h4,h5⟩:=i2 j x hx
     exact⟨v.er ln,by rw[List.getElem?_map,h4];rfl,h5⟩
    ·cases h
   ·cases h
  ·cases h
 ·cases h
def split (f:Bool) (n:Nat) (a:S.α n):List (TV S):=(S.cells n a).map fun x=>.dat f x.τ x.a
theorem er_dat1 {τ:Ty}(h:τ.isSt=false) (f:Bool) (a:S.D τ) (ln:Nat→Nat):(TV.dat f τ a:TV S).er ln=frB f (cellG S τ a):=by
 cases τ with
 | st n=>cases h
 | _=>rfl
theorem cells_one (n:Nat) (a:S.α n):∀x∈S.cells n a,x.τ.isSt=false:=fun x hx=>
 S.one n _ (by rw[←S.tys_cells n a];exact List.mem_map_of_mem hx)
theorem split_er (f:Bool) (n:Nat) (a:S.α n) (ln:Nat→Nat):TV.er.go ln (split f n a)=(encT S (.st n) a).map (frB f):=by
 rw[er_go,enc_st]
 have h:=cells_one n a
 unfold split
 generalize S.cells n a=l at h
 induction l with
 | nil=>rfl
 | cons x r ih=>
  simp only[List.map_cons]
  rw[er_dat1 (h x List.mem_cons_self),ih fun y hy=>h y (List.mem_cons_of_mem _ hy)]
def tcells:TV S→List (TV S)
 | .agg l=>l
 | .dat f (.st n) a=>split f n a
 | v=>[v]
theorem tcells_er (v:TV S) (ln:Nat→Nat) (h:∀u,v=.val u→u.oneCell'=true):gcells (v.er ln)=TV.er.go ln (tcells v):=by
 have fr1:∀(f:Bool) (τ:Ty) (a:S.D τ),τ.isSt=false→gcells (frB f (cellG S τ a))=[frB f (cellG S τ a)]:=by
  intro f τ a hs
  cases τ with
  | st n=>cases hs
  | _=>cases f <;> rfl
 cases v with
 | dat f τ a=>
  cases τ with
  | st n=>exact(split_er f n a ln).symm
  | _=>exact fr1 f _ a rfl
 | agg l=>rfl
 | ptr f τ a=>cases f <;> rfl
 | val u=>exact congrArg (List.map G.val) (congrArg Array.toList (oneCell_cells (h u rfl)))
 | kpo b h τ i j=>cases b <;> rfl
 | lpo b h off=>cases b <;> rfl
 | _=>rfl
end
end Go.DN
/-
 DN,part D:the operations that yield a value and leave the world alone,as one function.
-/
namespace Go.DN
open Go.AM
section
variable {S:Sig}
def fldA (P:Program) (t:TypeId) (i:Nat) (x:TV S):Option (TV S):=
 match P.underlying t with
 | some (.struct fs)=>match fs[i]? with
  | some f=>match sizP P f.type with
   | some (z+1)=>match x with
    | .loc h off=>some (.loc h (off+f.offset))
    | .elt h τ i j=>some (.elt h τ i (j+f.offset))
    | .kp h (.list τ) i j=>some (.kp h (.list τ) i (j+f.offset))
    | .ptr fl (.st n) a=>match aggP P f.type with
     | some false=>match (S.cells n a)[f.offset]? with
      | some y=>some (.ptr fl y.τ y.a)
      | none=>none
     | some true=>match S.ty f.type with
      | some n'=>match S.put n' (((S.cells n a).drop f.offset).take (z+1)) with
       | some a'=>some (.ptr fl (.st n') a')
       | none=>none
      | none=>none
     | none=>none
    | _=>none
   | _=>none
  | none=>none
 | _=>none
def fldV (P:Program) (t:TypeId) (i:Nat) (x:TV S):Option (TV S):=
 match P.underlying t with
 | some (.struct fs)=>match fs[i]? with
  | some f=>match aggP P f.type with
   | some false=>match x with
    | .agg l=>l[f.offset]?
    | .dat fl (.st n) a=>match (S.cells n a)[f.offset]? with
     | some y=>some (.dat fl y.τ y.a)
     | none=>none
    | _=>none
   | _=>none
  | none=>none
 | _=>none
section
variable {P:Program}{s:TSt S}{dst:Option Tmp}{ty:TypeId}{pos:String}{after:Array Edge}{guard:Option (Nat×Bool)}
theorem fldV_ok {t:TypeId}{i:Nat}{x:Operand}{vx v:TV S}(hx:tev s x=some vx) (h:fldV P t i vx=some v):
  PY P s.er ⟨dst,.field t x i,ty,pos,after,guard⟩ (v.er s.ln):=by
 unfold fldV at h
 split at h
 ·rename_i fs hu
  split at h
  ·rename_i f hf
   split at h
   ·rename_i ha
    split at h
    ·rename_i l
     refine PY.fieldV (gs:=TV.er.go s.ln l) (tev_ok hx) hu hf (aggP_ok ha) ?_
     rw[er_go,List.getElem?_map,h];rfl
    ·rename_i fl n a
     split at h
     ·rename_i y hy
      cases h
      refine PY.fieldV (gs:=(encT S (.st n) a).map (frB fl)) (tev_ok hx) hu hf (aggP_ok ha) ?_
      rw[←split_er fl n a s.ln,er_go,List.getElem?_map]
      unfold split
      rw[List.getElem?_map,hy];rfl
     ·cases h
    ·cases h
   ·cases h
  ·cases h
 ·cases h
theorem er_ptr (f:Bool) (τ:Ty) (a:S.D τ) (ln:Nat→Nat):(TV.ptr f τ a:TV S).er ln=ptrB f (encT S τ a):=rfl
theorem fldA_ok {t:TypeId}{i:Nat}{x:Operand}{vx v:TV S}(hx:tev s x=some vx) (h:fldA P t i vx=some v):
  PY P s.er ⟨dst,.fieldAddr t x i,ty,pos,after,guard⟩ (v.er s.ln):=by
 unfold fldA at h
 split at h
 ·rename_i fs hu
  split at h
  ·rename_i f hf
   split at h
   ·rename_i z hz
    split at h
    ·cases h
     exact PY.field (tev_ok hx) rfl hu hf (sizP_ok hz) (by omega)
    ·cases h
     rename_i hh τ i' j
     refine PY.rw (PY.field (g':=.loc hh (i'*S.sz τ+j+f.offset)) (tev_ok hx) rfl hu hf (sizP_ok hz) (by omega)) ?_
     show RW _ (.loc hh (i'*S.sz τ+(j+f.offset)))
     rw[Nat.add_assoc]
     exact RW.refl _
    ·cases h
     rename_i hh τ i' j
     refine PY.rw (PY.field (g':=.kp hh i' (j*S.sz (.list τ)+f.offset)) (tev_ok hx) rfl hu hf (sizP_ok hz) (by omega)) ?_
     show RW _ (.kp hh i' ((j+f.offset)*S.sz (.list τ)))
     rw[show S.sz (.list τ)=1 from rfl,Nat.mul_one,Nat.mul_one]
     exact RW.refl _
    ·rename_i fl n a
     have key:∀(cs:List G) (m:Nat),((encT S (.st n) a).drop f.offset).take m=cs→PY P s.er ⟨dst,.fieldAddr t x i,ty,pos,after,guard⟩ (ptrB fl cs):=by
      intro cs m he
      subst he
      have e0:=tev_ok hx
      rw[er_ptr] at e0
      refine PY.rw (PY.field (g':=ptrB fl ((encT S (.st n) a).drop f.offset)) e0 ?_ hu hf (sizP_ok hz) (by omega)) (RW.ptr_take _ _ _)
      cases fl <;> rfl
     split at h
     ·split at h
      ·rename_i y hy
       cases h
       refine key _ 1 ?_
       rw[enc_st,cellG_eq S (cells_one n a y (List.mem_of_getElem? hy))]
       rw[←List.map_drop,←List.map_take]
       have:((S.cells n a).drop f.offset).take 1=[y]:=by
        have:=List.getElem?_eq_some_iff.1 hy
        obtain⟨h1,h2⟩:=this
        rw[List.drop_eq_getElem_cons h1,h2];rfl
       rw[this];rfl
      ·cases h
     ·split at h
      ·rename_i n' _
       split at h
       ·rename_i a' h'
        cases h
        refine key _ (z+1) ?_
        rw[enc_st,enc_st,S.put_cells _ _ _ h',List.map_take,List.map_drop]
       ·cases h
      ·cases h
     ·cases h
    ·cases h
   ·cases h
  ·cases h
 ·cases h
def slcO (h:Nat) (τ:Ty) (o n:Nat) (lo hi:Option (TV S)){A:Type}(k:TV S→Option A):Option A:=
 match lo,hi with
 | some (.dat _ (.int _) i),some (.dat _ (.int _) j)=>(chk (0≤i∧i≤j∧j≤(n:Int))).bind fun _=>k (.sub h τ (o+Int.toNat i) (Int.toNat j-Int.toNat i))
 | some (.dat _ (.int _) i),none=>(chk (0≤i∧i≤(n:Int))).bind fun _=>k (.sub h τ (o+Int.toNat i) (n-Int.toNat i))
 | none,some (.dat _ (.int _) j)=>(chk (0≤j∧j≤(n:Int))).bind fun _=>k (.sub h τ o (Int.toNat j))
 | none,none=>none
 | _,_=>none
def slcC (ln:Nat→Nat) (t:TypeId) (P:Program) (x:TV S) (lo hi:Option (TV S)){A:Type}(k:TV S→Option A):Option A:=
 match P.underlying t with
 | some (.slice e)=>match x with
  | .dat f (.list τ) l=>match decEq (sizP P e) (some (S.sz τ)) with
   | isFalse _=>none
   | isTrue _=>match lo,hi with
    | some (.dat _ (.int _) i),some (.dat _ (.int _) j)=>(chk (0≤i∧i≤j∧j≤(List.length l:Int))).bind fun _=>k (.dat f (.list τ) (lpart l i j))
    | some (.dat _ (.int _) i),none=>(chk (0≤i∧i≤(List.length l:Int))).bind fun _=>k (.dat f (.list τ) (lpart l i (List.length l:Int)))
    | none,some (.dat _ (.int _) j)=>(chk (0≤j∧j≤(List.length l:Int))).bind fun _=>k (.dat f (.list τ) (lpart l 0 j))
    | _,_=>none
  | .osl h τ=>match decEq (sizP P e) (some (S.sz τ)) with
   | isFalse _=>none
   | isTrue _=>slcO h τ 0 (ln h) lo hi k
  | .sub h τ o n=>match decEq (sizP P e) (some (S.sz τ)) with
   | isFalse _=>none
   | isTrue _=>slcO h τ o n lo hi k
  | _=>none
 | some .string=>match x with
  | .dat _ .str b=>match lo,hi with
   | some (.dat _ (.int _) i),some (.dat _ (.int _) j)=>(chk (0≤i∧i≤j∧j≤(b.size:Int))).bind fun _=>k (.dat true .str (b.extract i.toNat j.toNat))
   | some (.dat _ (.int _) i),none=>(chk (0≤i∧i≤(b.size:Int))).bind fun _=>k (.dat true .str (b.extract i.toNat b.size))
   | none,some (.dat _ (.int _) j)=>(chk (0≤j∧j≤(b.size:Int))).bind fun _=>k (.dat true .str (b.extract 0 j.toNat))
   | _,_=>none
  | _=>none
 | _=>none
theorem RepV.slcO {O:Nat→Prop}{base:Nat}{w:World}{μ:Mu}{h sz off n i j:Nat}{v:Value}(hv:RepV O base w μ (.osl h sz off n) v) (h1:i≤j) (h2:j≤n):
  ∃(a:Option Addr) (cap:Nat),v=.slice a n cap∧n≤cap∧RepV O base w μ (.osl h sz (off+i*sz) (j-i)) (sliced a i j cap sz):=by
 cases hv with
 | imm hv=>cases hv
 | onil _ _ hm=>
  obtain rfl:i=0:=by omega
  obtain rfl:j=0:=by omega
  refine⟨none,0,rfl,Nat.le_refl _,?_⟩
  simp only[sliced,Nat.zero_mul,Nat.add_zero,if_true]
  exact .onil h sz hm
 | osl _ _ _ _ b m cap hm hn hc=>
  refine⟨_,cap,rfl,hn,?_⟩
  unfold sliced
  by_cases e:cap=i
  ·rw[if_pos e]
   have hj:j-i=0:=by omega
   have hci:cap-i=0:=by omega
   rw[hj,hci]
   by_cases hpos:0<m.1
   ·have:off+i*sz=m.1:=by rw[←e];exact hc
    rw[this]
    exact .ozero h sz off b m.1 hm hpos
   ·have h5:off=0:=by omega
    have h6:i*sz=0:=by rw[←e];omega
    rw[h5,h6]
    exact .osl h sz 0 0 b m 0 hm (Nat.le_refl _) (by omega)
  ·rw[if_neg e]
   simp only[Option.map_some,Addr.add_off]
   refine .osl h sz _ _ b m _ hm (by omega) ?_
   have:i*sz+(cap-i)*sz=cap*sz:=by rw[←Nat.add_mul];congr 1;omega
   omega
 | ozero _ _ off0 b m hm hpos=>
  obtain rfl:i=0:=by omega
  obtain rfl:j=0:=by omega
  refine⟨_,0,rfl,Nat.le_refl _,?_⟩
  simp only[sliced,Nat.zero_mul,Nat.add_zero,if_true]
  exact .ozero h sz off0 b _ hm hpos
theorem er_list (f:Bool) (τ:Ty) (l:List (S.D τ)) (ln:Nat→Nat):(TV.dat f (.list τ) l:TV S).er ln=@slG _ (encI S τ) f l:=by cases f <;> rfl
def tevO (s:TSt S):Option Operand→Option (Option (TV S))
 | none=>some none
 | some x=>match tev s x with
  | some v=>some (some v)
  | none=>none
theorem tn_le {j:Int}{n:Nat}(h:j≤(n:Int)):j.toNat≤n:=by omega
theorem le_cap {j:Int}{n cap:Nat}(h:j≤(n:Int)) (h':n≤cap):j≤(cap:Int):=by omega
theorem slcO_ok {t e:TypeId}{x:Operand}{lo hi:Option Operand}{h n o:Nat}{τ:Ty}{vl vh:Option (TV S)}{A:Type}{k:TV S→Option A}{r:A}(hx:ev s.er x=some (.osl h (S.sz τ) (o*S.sz τ) n))
  (hl:tevO s lo=some vl) (hh:tevO s hi=some vh) (hu:P.underlying t=some (.slice e)) (hz:sizP P e=some (S.sz τ))
  (hk:slcO h τ o n vl vh k=some r):∃v,PY P s.er ⟨dst,.slice t x lo hi none,ty,pos,after,guard⟩ (v.er s.ln)∧k v=some r:=by
 letI:=encI S τ
 have opS:∀{o:Option Operand}{v:TV S},tevO s o=some (some v)→∃y,o=some y∧tev s y=some v:=by
  intro o v h
  cases o with
  | none=>cases h
  | some y=>
   simp only[tevO] at h
   split at h
   ·rename_i v' hv;cases h;exact⟨y,rfl,hv⟩
   ·cases h
 have opN:∀{o:Option Operand},tevO s o=some none→o=none:=by
  intro o h
  cases o with
  | none=>rfl
  | some y=>
   simp only[tevO] at h
   split at h <;> cases h
 have er:∀(i m:Nat),(TV.sub h τ (o+i) m:TV S).er s.ln=.osl h (S.sz τ) (o*S.sz τ+i*S.sz τ) m:=by
  intro i m;show G.osl h (S.sz τ) ((o+i)*S.sz τ) m=_;rw[Nat.add_mul]
 unfold slcO at hk
 split at hk
 ·obtain⟨u,hc,hk⟩:=bind_some hk
  obtain⟨y,rfl,hy⟩:=opS hl
  obtain⟨y',rfl,hy'⟩:=opS hh
  obtain⟨c1,c2,c3⟩:=chk_spec hc
  refine⟨_,?_,hk⟩
  rw[er]
  intro N cx μ a w hr
  obtain⟨ad,cap,e1,e2,e3⟩:=RepV.slcO (hr.ev hx) (Int.toNat_le_toNat c2) (tn_le c3)
  refine⟨_,e3,fun w'=>?_⟩
  simp[execOp,e1,hr.val (evI hy),hr.val (evI hy'),run_part (α:=S.D τ) (P:=P) hu (sizP_ok hz) ad n cap c1 c2 (le_cap c3 e2) w']
  rfl
 ·obtain⟨u,hc,hk⟩:=bind_some hk
  obtain⟨y,rfl,hy⟩:=opS hl
  cases opN hh
  obtain⟨c1,c2⟩:=chk_spec hc
  refine⟨_,?_,hk⟩
  rw[er]
  intro N cx μ a w hr
  obtain⟨ad,cap,e1,e2,e3⟩:=RepV.slcO (i:=Int.toNat _) (j:=n) (hr.ev hx) (tn_le c2) (Nat.le_refl _)
  refine⟨_,e3,fun w'=>?_⟩
  simp[execOp,e1,hr.val (evI hy),run_part_l (α:=S.D τ) (P:=P) hu (sizP_ok hz) ad n cap c1 c2 w']
  rfl
 ·obtain⟨u,hc,hk⟩:=bind_some hk
  cases opN hl
  obtain⟨y,rfl,hy⟩:=opS hh
  obtain⟨c1,c2⟩:=chk_spec hc
  refine⟨_,?_,hk⟩
  have:=er 0 (Int.toNat ‹_›)
  rw[Nat.add_zero] at this
  rw[this]
  intro N cx μ a w hr
  obtain⟨ad,cap,e1,e2,e3⟩:=RepV.slcO (i:=0) (j:=Int.toNat _) (hr.ev hx) (Nat.zero_le _) (tn_le c2)
  refine⟨_,e3,fun w'=>?_⟩
  simp[execOp,e1,hr.val (evI hy),run_part_h (α:=S.D τ) (P:=P) hu (sizP_ok hz) ad n cap c1 (le_cap c2 e2) w']
  rfl
 ·cases hk
 ·cases hk
theorem slcC_ok {t:TypeId}{x:Operand}{lo hi:Option Operand}{vx:TV S}{vl vh:Option (TV S)}{A:Type}{k:TV S→Option A}{r:A}(hx:tev s x=some vx) (hl:tevO s lo=some vl) (hh:tevO s hi=some vh)
  (h:slcC s.ln t P vx vl vh k=some r):∃v,PY P s.er ⟨dst,.slice t x lo hi none,ty,pos,after,guard⟩ (v.er s.ln)∧k v=some r:=by
 have opS:∀{o:Option Operand}{v:TV S},tevO s o=some (some v)→∃y,o=some y∧tev s y=some v:=by
  intro o v h
  cases o with
  | none=>cases h
  | some y=>
   simp only[tevO] at h
   split at h
   ·rename_i v' hv;cases h;exact⟨y,rfl,hv⟩
   ·cases h
 have opN:∀{o:Option Operand},tevO s o=some none→o=none:=by
  intro o h
  cases o with
  | none=>rfl
  | some y=>
   simp only[tevO] at h
   split at h <;> cases h
 unfold slcC at h
 split at h
 ·rename_i e hu
  split at h
  ·rename_i f τ l
   split at h
   ·cases h
   ·rename_i hz _
    have e0:=tev_ok hx
    rw[er_list] at e0
    split at h
    ·obtain⟨u,hc,h⟩:=bind_some h
     obtain⟨y,rfl,hy⟩:=opS hl
     obtain⟨y',rfl,hy'⟩:=opS hh
     obtain⟨c1,c2,c3⟩:=chk_spec hc
     refine⟨_,?_,h⟩
     rw[er_list]
     letI:=encI S τ;exact PY.slice (α:=S.D τ) e0 (evI hy) (evI hy') hu (sizP_ok hz) c1 c2 c3
    ·obtain⟨u,hc,h⟩:=bind_some h
     obtain⟨y,rfl,hy⟩:=opS hl
     cases opN hh
     obtain⟨c1,c2⟩:=chk_spec hc
     refine⟨_,?_,h⟩
     rw[er_list]
     letI:=encI S τ;exact PY.sliceL (α:=S.D τ) e0 (evI hy) hu (sizP_ok hz) c1 c2
    ·obtain⟨u,hc,h⟩:=bind_some h
     cases opN hl
     obtain⟨y,rfl,hy⟩:=opS hh
     obtain⟨c1,c2⟩:=chk_spec hc
     refine⟨_,?_,h⟩
     rw[er_list]
     letI:=encI S τ;exact PY.sliceH (α:=S.D τ) e0 (evI hy) hu (sizP_ok hz) c1 c2
    ·cases h
  ·split at h
   ·cases h
   ·rename_i hz _
    refine slcO_ok (n:=s.ln _) (o:=0) ?_ hl hh hu hz h
    rw[tev_ok hx,Nat.zero_mul];rfl
  ·split at h
   ·cases h
   ·rename_i hz _
    exact slcO_ok (tev_ok hx) hl hh hu hz h
  ·cases h
 ·rename_i hu
  split at h
  ·rename_i b
   have e0:=evS hx
   split at h
   ·obtain⟨u,hc,h⟩:=bind_some h
    obtain⟨y,rfl,hy⟩:=opS hl
    obtain⟨y',rfl,hy'⟩:=opS hh
    obtain⟨c1,c2,c3⟩:=chk_spec hc
    exact⟨_,PY.sliceS e0 (evI hy) (evI hy') hu c1 c2 c3,h⟩
   ·obtain⟨u,hc,h⟩:=bind_some h
    obtain⟨y,rfl,hy⟩:=opS hl
    cases opN hh
    obtain⟨c1,c2⟩:=chk_spec hc
    exact⟨_,PY.sliceSL e0 (evI hy) hu c1 c2,h⟩
   ·obtain⟨u,hc,h⟩:=bind_some h
    cases opN hl
    obtain⟨y,rfl,hy⟩:=opS hh
    obtain⟨c1,c2⟩:=chk_spec hc
    exact⟨_,PY.sliceSH e0 (evI hy) hu c1 c2,h⟩
   ·cases h
  ·cases h
 ·cases h
end
end
end Go.DN
/-
 DN,part E:the operations that yield a value,put together.
-/
namespace Go.DN
open Go.AM
section
variable {S:Sig}
def okV:TV S→Bool
 | .any=>false
 | .val u=>u.oneCell'
 | _=>true
theorem okV_gok {v:TV S}(h:okV v=true) (ln:Nat→Nat):gok (v.er ln)=true:=by
 cases v with
 | dat f τ a=>cases τ with
  | st n=>rfl
  | _=>cases f <;> rfl
 | ptr f τ a=>cases f <;> rfl
 | kpo b h τ i j=>cases b <;> rfl
 | lpo b h off=>cases b <;> rfl
 | any=>cases h
 | _=>rfl
theorem okV_cells {v:TV S}(h:okV v=true) (ln:Nat→Nat):gcells (v.er ln)=TV.er.go ln (tcells v):=tcells_er v ln fun u e=>by subst e;exact h
def tfill (places:List (Nat×Nat)) (cells:List (TV S)):List (Nat×TV S)→Option (List (TV S))
 | []=>some cells
 | (i,v)::r=>match places[i]? with
  | some (off,size)=>match okV v&&(Nat.beq (tcells v).length size&&Nat.ble (off+size) cells.length) with
   | true=>tfill places (setAt cells off (tcells v)) r
   | false=>none
  | none=>none
theorem setAt_map {α β:Type}(f:α→β):∀(xs:List α) (off:Nat) (cs:List α),(setAt cs off xs).map f=setAt (cs.map f) off (xs.map f)
 | [],_,_=>rfl
 | x::r,off,cs=>by simp only[setAt,List.map_cons,setAt_map f r,List.map_set]
theorem tfill_ok (ln:Nat→Nat) (places:List (Nat×Nat)):∀{parts:List (Nat×TV S)}{cells out:List (TV S)},tfill places cells parts=some out→
  gfill (places[·]?) (TV.er.go ln cells) (parts.map fun x=>(x.1,x.2.er ln))=some (TV.er.go ln out)
 | [],_,_,h=>by cases h;rfl
 | (i,v)::r,cells,out,h=>by
  simp only[tfill] at h
  split at h
  ·rename_i off size hp
   split at h
   ·rename_i hc
    simp only[Bool.and_eq_true] at hc
    obtain⟨h1,h2,h3⟩:=hc
    have h4:=okV_gok h1 ln
    have h5:=okV_cells h1 ln
    have ih:=tfill_ok ln places h
    simp only[List.map_cons,gfill,hp]
    have h6:(gcells (v.er ln)).length=(tcells v).length:=by rw[h5,er_go,List.length_map]
    have h7:(TV.er.go ln cells).length=cells.length:=by rw[er_go,List.length_map]
    rw[h4,h6,h7,h2,h3,h5]
    simp only[Bool.and_self]
    have h8:setAt (TV.er.go ln cells) off (TV.er.go ln (tcells v))=TV.er.go ln (setAt cells off (tcells v)):=by
     simp only[er_go,setAt_map]
    rw[h8]
    exact ih
   ·cases h
  ·cases h
def tevp (s:TSt S):List (Nat×Operand)→Option (List (Nat×TV S))
 | []=>some []
 | (i,x)::r=>match tev s x with
  | some v=>match tevp s r with
   | some vs=>some ((i,v)::vs)
   | none=>none
  | none=>none
theorem tevp_ok {s:TSt S}:∀{l:List (Nat×Operand)}{vs:List (Nat×TV S)},tevp s l=some vs→evp s.er l=some (vs.map fun x=>(x.1,x.2.er s.ln))
 | [],_,h=>by cases h;rfl
 | (i,x)::r,vs,h=>by
  simp only[tevp] at h
  split at h
  ·rename_i v hv
   split at h
   ·rename_i vs' hr
    cases h
    simp only[evp,tev_ok hv,tevp_ok hr,List.map_cons]
   ·cases h
  ·cases h
def tevs (s:TSt S):List Operand→Option (List (TV S))
 | []=>some []
 | x::r=>match tev s x with
  | some v=>match tevs s r with
   | some vs=>some (v::vs)
   | none=>none
  | none=>none
theorem tevs_ok {s:TSt S}:∀{l:List Operand}{vs:List (TV S)},tevs s l=some vs→l.map (ev s.er)=(TV.er.go s.ln vs).map some∧evA s.er l=some (TV.er.go s.ln vs)
 | [],_,h=>by cases h;exact⟨rfl,rfl⟩
 | x::r,vs,h=>by
  simp only[tevs] at h
  split at h
  ·rename_i v hv
   split at h
   ·rename_i vs' hr
    cases h
    obtain⟨i1,i2⟩:=tevs_ok hr
    exact⟨by simp only[List.map_cons,TV.er.go,tev_ok hv,i1],by simp only[TV.er.go,evA,tev_ok hv,i2]⟩
   ·cases h
  ·cases h
def lenV (s:TSt S):TV S→Option Int
 | .dat _ (.list _) l=>some (List.length l:Int)
 | .osl h _=>match oget s.stA h with
  | some (.arr _ _ _ _ l)=>some (List.length l:Int)
  | some (.deep _ _ _ _ τ a)=>some (tlen τ a:Int)
  | _=>none
 | .ks _ _ _ n=>some (n:Int)
 | .sub _ _ _ n=>some (n:Int)
 | .val (.slice none 0 0)=>some 0
 | _=>none
def ifcT (P:Program) (t:TypeId) (v:TV S) (y:Operand):Option Bool:=
 match v with
 | .dat _ .ifc b=>match y with
  | .const .nilIface=>match P.underlying t with
   | some (.interface _)=>some b
   | _=>none
  | _=>none
 | _=>none
theorem ifcT_ok {P:Program}{t:TypeId}{v:TV S}{y:Operand}{b:Bool}(h:ifcT P t v y=some b) (ln:Nat→Nat):y=.const .nilIface∧(∃ms,P.underlying t=some (.interface ms))∧∀o:Option G,o=some (v.er ln)→o=some (.ifc b)∨o=some (.fr (.ifc b)):=by
 unfold ifcT at h
 split at h
 ·rename_i f b'
  split at h
  ·split at h
   ·rename_i hu
    cases h
    refine⟨rfl,⟨_,hu⟩,fun o ho=>?_⟩
    subst ho
    cases f
    ·exact .inl rfl
    ·exact .inr rfl
   ·cases h
  ·cases h
 ·cases h
def nilPtr (P:Program) (t:TypeId) (v:TV S) (y:Operand):Option Bool:=
 match y with
 | .const (.pointer none)=>match P.underlying t with
  | some (.pointer _)=>match v with
   | .kp _ _ _ _=>some false
   | .kpo b _ _ _ _=>some b
   | .lpo b _ _=>some b
   | .val (.pointer none)=>some true
   | .loc _ _=>some false
   | _=>none
  | _=>none
 | _=>none
theorem nilPtr_ok {P:Program}{t:TypeId}{v:TV S}{y:Operand}{b:Bool}(h:nilPtr P t v y=some b) (ln:Nat→Nat):y=.const (.pointer none)∧(∃e,P.underlying t=some (.pointer e))∧ptrNil (v.er ln)=some b:=by
 unfold nilPtr at h
 split at h
 ·split at h
  ·rename_i e hu
   refine⟨rfl,⟨e,hu⟩,?_⟩
   split at h
   ·cases h;rfl
   ·cases h;cases b <;> rfl
   ·cases h;cases b <;> rfl
   ·cases h;rfl
   ·cases h;rfl
   ·cases h
  ·cases h
 ·cases h
def isPartB (s:TSt S) (x:Operand):Option Operand→Option Operand→Bool
 | some _,some _=>match tev s x with
  | some (.sub h _ _ _)=>match oget s.stA h with
   | some (.arr _ _ _ _ _)=>true
   | _=>false
  | _=>false
 | _,_=>false
def slcB (P:Program) (s:TSt S) (t:TypeId) (x:Operand) (lo hi:Option Operand){A:Type}(k:TV S→Option A):Option A:=
 none
def slc3 (P:Program) (s:TSt S) (t:TypeId) (x lo hi mx:Operand){A:Type}(k:TV S→Option A):Option A:=
 none
def pyC (P:Program) (s:TSt S) (op:Op){A:Type}(k:TV S→Option (Leaf S.α)→Option A):Option A:=
 match op with
 | .move x=>match tev s x with
  | some v=>k v none
  | none=>none
 | .assign x=>match tev s x with
  | some v=>k v none
  | none=>none
 | .pick c x y=>match tev s c with
  | some (.dat _ .bool b)=>match b with
   | true=>match tev s x with
    | some v=>k v none
    | none=>none
   | false=>match tev s y with
    | some v=>k v none
    | none=>none
  | _=>none
 | .binOp op t x y _=>match tev s x with
  | some vx=>match nilPtr P t vx y with
   | some b=>match op with
    | .eql=>k (.dat true .bool b) none
    | .neq=>k (.dat true .bool (!b)) none
    | _=>none
   | none=>match ifcT P t vx y with
    | some b=>match op with
     | .eql=>k (.dat true .bool (!b)) none
     | .neq=>k (.dat true .bool b) none
     | _=>none
    | none=>match tev s y with
     | some vy=>binC P op t vx vy fun v=>k v none
     | none=>none
  | none=>none
 | .unOp op _ x=>match op with
  | .not=>match tev s x with
   | some (.dat _ .bool b)=>k (.dat true .bool (!b)) none
   | _=>none
  | .neg=>match tev s x with
   | some (.dat _ (.int ki) a)=>k (.dat true (.int ki) (ki.wrap (0-a))) none
   | _=>none
  | _=>none
 | .convert t t' x=>match P.underlying t with
  | some _=>match P.underlying t' with
   | some (.int ki)=>match tev s x with
    | some (.dat _ (.int _) a)=>k (.dat true (.int ki) (ki.wrap a)) none
    | _=>none
   | some .string=>match tev s x with
    | some (.dat _ .str a)=>k (.dat true .str a) none
    | _=>none
   | _=>none
  | none=>none
 | .extract x i=>match tev s x with
  | some (.tup l)=>match l[i]? with
   | some v=>k v none
   | none=>none
  | _=>none
 | .field t x i=>match tev s x with
  | some vx=>match fldV P t i vx with
   | some v=>k v none
   | none=>none
  | none=>none
 | .fieldAddr t x i=>match tev s x with
  | some vx=>match fldA P t i vx with
   | some v=>k v none
   | none=>none
  | none=>none
 | .indexAddr t x y=>match P.underlying t with
  | some (.slice e)=>match tev s y with
   | some (.dat _ (.int _) i)=>match tev s x with
    | some (.dat f (.list τ) l)=>match decEq (sizP P e) (some (S.sz τ)) with
     | isTrue _=>(idx l i).bind fun a=>k (.ptr f τ a) none
     | isFalse _=>none
    | some (.osl h τ)=>match decEq (sizP P e) (some (S.sz τ)) with
     | isTrue _=>match oget s.stA h with
      | some (.arr _ _ _ τ' l)=>match decEq τ' τ with
       | isTrue _=>(idx l i).bind fun a=>k (.elt h τ i.toNat 0) (some ⟨τ',a⟩)
       | isFalse _=>none
      | some (.deep _ _ _ _ τ' a)=>(chk (0≤i∧i<(tlen τ' a:Int))).bind fun _=>k (.elt h τ i.toNat 0) none
      | _=>none
     | isFalse _=>none
    | some (.sub h τ o n)=>match decEq (sizP P e) (some (S.sz τ)) with
     | isTrue _=>match oget s.stA h with
      | some (.arr _ _ _ τ' l)=>match decEq τ' τ with
       | isTrue _=>(chk (0≤i∧i<(n:Int))).bind fun _=>(l[o+i.toNat]?).bind fun a=>k (.elt h τ (o+i.toNat) 0) (some ⟨τ',a⟩)
       | isFalse _=>none
      | some (.box _ _ _)=>(chk (0≤i∧i<(n:Int))).bind fun _=>k (.elt h τ (o+i.toNat) 0) none
      | _=>none
     | isFalse _=>none
    | some (.ks h τ j n)=>match decEq (sizP P e) (some (S.sz τ)) with
     | isTrue _=>(chk (0≤i∧i<(n:Int))).bind fun _=>k (.kp h τ j i.toNat) none
     | isFalse _=>none
    | _=>none
   | _=>none
  | some (.array n e)=>match tev s y with
   | some (.dat _ (.int _) i)=>match tev s x with
    | some (.loc h off)=>match P.underlying e with
     | some (.int ki)=>match decEq (sizP P e) (some 1) with
      | isTrue _=>(chk (0≤i∧i<(n:Int))).bind fun _=>k (.elt h (.int ki) i.toNat off) none
      | isFalse _=>none
     | _=>none
    | _=>none
   | _=>none
  | _=>none
 | .index t x y=>match P.underlying t with
  | some .string=>match tev s x with
   | some (.dat _ .str b)=>match tev s y with
    | some (.dat _ (.int _) i)=>(bidx b i).bind fun c=>k (.dat true (.int .u8) (c.toNat:Int)) none
    | _=>none
   | _=>none
  | _=>none
 | .slice t x lo hi none=>match isPartB s x lo hi with
  | true=>slcB P s t x lo hi fun v=>k v none
  | false=>match tev s x with
   | some vx=>match tevO s lo with
    | some vl=>match tevO s hi with
     | some vh=>slcC s.ln t P vx vl vh fun v=>k v none
     | none=>none
    | none=>none
   | none=>none
 | .slice t x (some lo) (some hi) (some mx)=>slc3 P s t x lo hi mx fun v=>k v none
 | .makeFunc (.func f) first caps=>match first.toList with
  | []=>match tevs s caps.toList with
   | some vs=>match bnds.contains f with
    | false=>k (.clo f vs) none
    | true=>none
   | none=>none
  | [x]=>match caps.toList with
   | []=>match tev s x with
    | some v=>match bnds.contains f with
     | true=>k (.clo f [v]) none
     | false=>none
    | none=>none
   | _=>none
  | _=>none
 | .nilCheck x=>match tev s x with
  | some v=>match v with
   | .loc _ _=>k v none
   | .elt _ _ _ _=>k v none
   | .ptr _ _ _=>k v none
   | .clo _ _=>k v none
   | .kp _ _ _ _=>k v none
   | .kpo b h τ i j=>(chk (b=false)).bind fun _=>k (.kp h τ i j) none
   | _=>none
  | none=>none
 | .call c=>match c.callee with
  | .builtin .len=>match c.args.toList,c.argTypes.toList with
   | [x],[t]=>match P.underlying t with
    | some (.slice _)=>match tev s x with
     | some v=>match lenV s v with
      | some n=>k (.dat true (.int .i64) n) none
      | none=>none
     | none=>none
    | some .string=>match tev s x with
     | some (.dat _ .str b)=>k (.dat true (.int .i64) (b.size:Int)) none
     | _=>none
    | _=>none
   | _,_=>none
  | .builtin .min=>match c.args.toList with
   | [x,y]=>match tev s x,tev s y with
    | some (.dat _ (.int ki) a),some (.dat _ (.int _) b)=>k (.dat true (.int ki) (if b<a then b else a)) none
    | _,_=>none
   | _=>none
  | .builtin .max=>match c.args.toList with
   | [x,y]=>match tev s x,tev s y with
    | some (.dat _ (.int ki) a),some (.dat _ (.int _) b)=>k (.dat true (.int ki) (if b>a then b else a)) none
    | _,_=>none
   | _=>none
  | _=>none
 | .build t parts=>match P.underlying t with
  | some (.struct fs)=>match (P.info? t).bind (·.zero) with
   | some z=>match fs.toList.mapM (fun f=>(P.info? f.type).map fun i=>(f.offset,i.size)) with
    | some places=>match tevp s parts.toList with
     | some vs=>match tfill places (z.cells.toList.map tvK) vs with
      | some out=>k (.agg out) none
      | none=>none
     | none=>none
    | none=>none
   | none=>none
  | _=>none
 | _=>none
def LastOk (s:TSt S) (v:TV S):Option (Leaf S.α)→Prop
 | none=>True
 | some x=>∃h i ety m f τ l a,v=.elt h τ i 0∧oget s.stA h=some (.arr ety m f τ l)∧x=⟨τ,a⟩∧l[i]?=some a
def TSt.putL (s:TSt S) (d:Nat) (v:TV S):Option (Leaf S.α)→TSt S
 | none=>s.put d v
 | some x=>match v with
  | .elt h _ _ _=>{s with fr:=(d,v)::s.fr,last:=(d,h,x)::rmS d s.last}
  | _=>s.put d v
theorem putL_er (s:TSt S) (d:Nat) (v:TV S) (x:Option (Leaf S.α)):(s.putL d v x).er=s.er.put d (v.er s.ln):=by
 cases x with
 | none=>rfl
 | some x=>cases v <;> rfl
theorem putL_keep (s:TSt S) (d:Nat) (v:TV S) (x:Option (Leaf S.α)):Keep s (s.putL d v x):=by
 cases x with
 | none=>exact⟨rfl,rfl,rfl⟩
 | some x=>cases v <;> exact⟨rfl,rfl,rfl⟩
theorem putL_ok {s:TSt S}(hl:LInv s) (d:Nat){v:TV S}{x:Option (Leaf S.α)}(h:LastOk s v x):LInv (s.putL d v x):=by
 cases x with
 | none=>exact hl.put d v
 | some x=>
  obtain⟨hh,i,ety,m,f,τ,l,a,e1,e2,e3,e4⟩:=h
  subst e1
  intro d' h' x' hm
  rcases List.mem_cons.1 hm with e | hm
  ·cases e
   exact⟨i,ety,m,f,τ,l,a,by simp only[TSt.putL,TSt.frA,List.cons_append,tget,Nat.beq_refl,cond_true],e2,e3,e4⟩
  ·obtain⟨i',ety',m',f',τ',l',a',q1,q2⟩:=hl.put d (.elt hh τ i 0) d' h' x' hm
   exact⟨i',ety',m',f',τ',l',a',q1,q2⟩
section
variable {P:Program}{s:TSt S}{dst:Option Tmp}{ty:TypeId}{pos:String}{after:Array Edge}{guard:Option (Nat×Bool)}
theorem ln_arr {h:Nat}{e:TypeId}{m f:Bool}{τ:Ty}{l:List (S.D τ)}(ho:oget s.stA h=some (.arr e m f τ l)):s.ln h=l.length:=by
 unfold TSt.ln lnO
 rw[ho];rfl
theorem ln_deep {h:Nat}{e:TypeId}{m f:Bool}{dk:Dk}{τ:Ty}{a:S.D τ}(ho:oget s.stA h=some (.deep e m f dk τ a)):s.ln h=tlen τ a:=by
 unfold TSt.ln lnO
 rw[ho];rfl
theorem lenV_ok {v:TV S}{n:Int}(h:lenV s v=some n):lenG (v.er s.ln)=some n:=by
 unfold lenV at h
 split at h
 ·rename_i f τ l
  cases h
  cases f <;> rfl
 ·split at h
  ·rename_i ho
   cases h
   show some ((s.ln _:Nat):Int)=_
   rw[ln_arr ho]
  ·rename_i ho
   cases h
   show some ((s.ln _:Nat):Int)=_
   rw[ln_deep ho]
  ·cases h
 ·cases h;rfl
 ·cases h;rfl
 ·cases h;rfl
 ·cases h
theorem toList1 {α:Type}{a:Array α}{x:α}(h:a.toList=[x]):a=#[x]:=by cases a;simp at h;subst h;rfl
theorem toList2 {α:Type}{a:Array α}{x y:α}(h:a.toList=[x,y]):a=#[x,y]:=by cases a;simp at h;subst h;rfl
theorem toList0 {α:Type}{a:Array α}(h:a.toList=[]):a=#[]:=by cases a;simp at h;subst h;rfl
theorem encs_subT {τ:Ty}{l:List (S.D τ)}{i:Int}{a:S.D τ}(h:idx l i=some a):((List.flatMap (encT S τ) l).drop (i.toNat*S.sz τ)).take (S.sz τ)=encT S τ a:=
 @encs_sub _ (encI S τ) _ _ _ h
theorem idxA_ok {t e:TypeId}{x y:Operand}{f:Bool}{τ:Ty}{l:List (S.D τ)}{ki:IntKind}{fi:Bool}{i:Int}{a:S.D τ}(hx:tev s x=some (.dat f (.list τ) l)) (hy:tev s y=some (.dat fi (.int ki) i))
  (hu:P.underlying t=some (.slice e)) (hz:sizP P e=some (S.sz τ)) (ha:idx l i=some a):
  PY P s.er ⟨dst,.indexAddr t x y,ty,pos,after,guard⟩ ((TV.ptr f τ a:TV S).er s.ln):=by
 obtain⟨h0,h1,h2⟩:=idx_spec ha
 have e0:=tev_ok hx
 rw[er_ptr,←encs_subT ha]
 refine PY.rw (PY.index (g':=ptrB f ((List.flatMap (encT S τ) l).drop (i.toNat*S.sz τ))) (n:=l.length) e0 (evI hy) ?_ h0 h1 hu (sizP_ok hz)) (RW.ptr_take _ _ _)
 cases f <;> rfl
theorem slcB_ok {t:TypeId}{x:Operand}{lo hi:Option Operand}{A:Type}{k:TV S→Option A}{r:A}(h:slcB P s t x lo hi k=some r):
  ∃v,PY P s.er ⟨dst,.slice t x lo hi none,ty,pos,after,guard⟩ (v.er s.ln)∧k v=some r:=by
 unfold slcB at h
 cases h
theorem slc3_ok {t:TypeId}{x lo hi mx:Operand}{A:Type}{k:TV S→Option A}{r:A}(h:slc3 P s t x lo hi mx k=some r):
  ∃v,PY P s.er ⟨dst,.slice t x (some lo) (some hi) (some mx),ty,pos,after,guard⟩ (v.er s.ln)∧k v=some r:=by
 unfold slc3 at h
 cases h
theorem pyC_ok {op:Op}{A:Type}{k:TV S→Option (Leaf S.α)→Option A}{r:A}(h:pyC P s op k=some r):
  ∃v x,PY P s.er ⟨dst,op,ty,pos,after,guard⟩ (v.er s.ln)∧LastOk s v x∧k v x=some r:=by
 unfold pyC at h
 split at h
 ·split at h
  ·rename_i hv
   exact⟨_,none,PY.move (tev_ok hv),trivial,h⟩
  ·cases h
 ·split at h
  ·rename_i hv
   exact⟨_,none,PY.assign (tev_ok hv),trivial,h⟩
  ·cases h
 ·split at h
  ·rename_i hc
   split at h
   ·split at h
    ·rename_i hv
     exact⟨_,none,PY.pickT (evB hc) (tev_ok hv),trivial,h⟩
    ·cases h
   ·split at h
    ·rename_i hv
     exact⟨_,none,PY.pickF (evB hc) (tev_ok hv),trivial,h⟩
    ·cases h
  ·cases h
 ·split at h
  ·rename_i hx
   split at h
   ·rename_i b hb
    obtain⟨e1,⟨e,hu⟩,e2⟩:=nilPtr_ok hb s.ln
    subst e1
    split at h
    ·exact⟨_,none,PY.ptrEq (tev_ok hx) e2 hu,trivial,h⟩
    ·exact⟨_,none,PY.ptrNe (tev_ok hx) e2 hu,trivial,h⟩
    ·cases h
   split at h
   ·rename_i b hb
    obtain⟨e1,⟨ms,hu⟩,e2⟩:=ifcT_ok hb s.ln
    subst e1
    have hx':=e2 _ (tev_ok hx)
    split at h
    ·refine⟨.dat true .bool (b==false),none,PY.ifcNil (b:=b) false rfl hx' hu,trivial,?_⟩
     have:(b==false)=!b:=by cases b <;> rfl
     rw[this];exact h
    ·refine⟨.dat true .bool (b==true),none,PY.ifcNil (b:=b) true rfl hx' hu,trivial,?_⟩
     have:(b==true)=b:=by cases b <;> rfl
     rw[this];exact h
    ·cases h
   split at h
   ·rename_i hy
    obtain⟨v,h1,h2⟩:=binC_ok (dst:=dst) (ty:=ty) (pos:=pos) (after:=after) (guard:=guard) hx hy h
    exact⟨v,none,h1,trivial,h2⟩
   ·cases h
  ·cases h
 ·split at h
  ·split at h
   ·rename_i hx
    exact⟨_,none,PY.un (evB hx) rfl,trivial,h⟩
   ·cases h
  ·split at h
   ·rename_i hx
    exact⟨_,none,PY.un (evI hx) rfl,trivial,h⟩
   ·cases h
  ·cases h
 ·split at h
  ·rename_i hu
   split at h
   ·rename_i hu'
    split at h
    ·rename_i hx
     exact⟨_,none,PY.conv (evI hx) hu hu',trivial,h⟩
    ·cases h
   ·rename_i hu'
    split at h
    ·rename_i hx
     exact⟨_,none,PY.convS (evS hx) hu hu',trivial,h⟩
    ·cases h
   ·cases h
  ·cases h
 ·split at h
  ·rename_i l hx
   split at h
   ·rename_i v hv
    refine⟨v,none,PY.extract (tev_ok hx) ?_,trivial,h⟩
    rw[er_go,List.getElem?_map,hv];rfl
   ·cases h
  ·cases h
 ·split at h
  ·rename_i hx
   split at h
   ·rename_i hv
    exact⟨_,none,fldV_ok hx hv,trivial,h⟩
   ·cases h
  ·cases h
 ·split at h
  ·rename_i hx
   split at h
   ·rename_i hv
    exact⟨_,none,fldA_ok hx hv,trivial,h⟩
   ·cases h
  ·cases h
 ·split at h
  ·rename_i hu
   split at h
   ·rename_i hy
    split at h
    ·rename_i hx
     split at h
     ·rename_i hz _
      obtain⟨a,ha,h⟩:=bind_some h
      exact⟨_,none,idxA_ok hx hy hu hz ha,trivial,h⟩
     ·cases h
    ·rename_i hh τ hx
     split at h
     ·rename_i hz _
      split at h
      ·rename_i e m f τ' l ho
       split at h
       ·rename_i e' _
        subst e'
        obtain⟨a,ha,h⟩:=bind_some h
        obtain⟨h0,h1,h2⟩:=idx_spec ha
        refine⟨_,some ⟨τ',a⟩,?_,⟨hh,_,e,m,f,τ',l,a,rfl,ho,rfl,h2⟩,h⟩
        refine PY.index (n:=s.ln hh) (tev_ok hx) (evI hy) ?_ h0 (by rw[ln_arr ho];exact h1) hu (sizP_ok hz)
        show(if S.sz τ'=S.sz τ' then _ else _)=_
        rw[if_pos rfl,Nat.zero_add];rfl
       ·cases h
      ·rename_i e m f dk τ' a ho
       obtain⟨u,hc,h⟩:=bind_some h
       obtain⟨c1,c2⟩:=chk_spec hc
       refine⟨_,none,?_,trivial,h⟩
       refine PY.index (n:=s.ln hh) (tev_ok hx) (evI hy) ?_ c1 (by rw[ln_deep ho];exact c2) hu (sizP_ok hz)
       show(if S.sz τ=S.sz τ then _ else _)=_
       rw[if_pos rfl,Nat.zero_add];rfl
      ·cases h
     ·cases h
    ·rename_i hh τ o n hx
     split at h
     ·rename_i hz _
      split at h
      ·rename_i e m f τ' l ho
       split at h
       ·rename_i e' _
        subst e'
        obtain⟨u,hc,h⟩:=bind_some h
        obtain⟨c1,c2⟩:=chk_spec hc
        obtain⟨a,ha,h⟩:=bind_some h
        refine⟨_,some ⟨τ',a⟩,?_,⟨hh,_,e,m,f,τ',l,a,rfl,ho,rfl,ha⟩,h⟩
        refine PY.index (n:=n) (tev_ok hx) (evI hy) ?_ c1 c2 hu (sizP_ok hz)
        show(if S.sz τ'=S.sz τ' then _ else _)=_
        rw[if_pos rfl]
        show _=some (G.loc hh ((o+_)*S.sz τ'+0),n)
        rw[Nat.add_mul,Nat.add_zero]
       ·cases h
      ·obtain⟨u,hc,h⟩:=bind_some h
       obtain⟨c1,c2⟩:=chk_spec hc
       refine⟨_,none,?_,trivial,h⟩
       refine PY.index (n:=n) (tev_ok hx) (evI hy) ?_ c1 c2 hu (sizP_ok hz)
       show(if S.sz τ=S.sz τ then _ else _)=_
       rw[if_pos rfl]
       show _=some (G.loc hh ((o+_)*S.sz τ+0),n)
       rw[Nat.add_mul,Nat.add_zero]
      ·cases h
     ·cases h
    ·rename_i hh τ j n hx
     split at h
     ·rename_i hz _
      obtain⟨u,hc,h⟩:=bind_some h
      obtain⟨c1,c2⟩:=chk_spec hc
      refine⟨_,none,?_,trivial,h⟩
      refine PY.index (n:=n) (tev_ok hx) (evI hy) ?_ c1 c2 hu (sizP_ok hz)
      show(if S.sz τ=S.sz τ then _ else _)=_
      rw[if_pos rfl,Nat.zero_add];rfl
     ·cases h
    ·cases h
   ·cases h
  ·rename_i n e hu
   split at h
   ·rename_i hy
    split at h
    ·rename_i hh off hx
     split at h
     ·rename_i ki hki
      split at h
      ·rename_i hz _
       obtain⟨u,hc,h⟩:=bind_some h
       obtain⟨c1,c2⟩:=chk_spec hc
       refine⟨_,none,?_,trivial,h⟩
       have:=PY.indexArr (P:=P) (dst:=dst) (ty:=ty) (pos:=pos) (after:=after) (guard:=guard) (tev_ok hx) (evI hy) c1 c2 hu (sizP_ok hz)
       simpa[TV.er,Sig.sz] using this
      ·cases h
     ·cases h
    ·cases h
   ·cases h
  ·cases h
 ·split at h
  ·rename_i hu
   split at h
   ·rename_i hx
    split at h
    ·rename_i hy
     obtain⟨c,hc,h⟩:=bind_some h
     obtain⟨h0,h1⟩:=bidx_spec hc
     exact⟨_,none,PY.strIndex (evS hx) (evI hy) h0 h1 hu,trivial,h⟩
    ·cases h
   ·cases h
  ·cases h
 ·split at h
  ·obtain⟨v,h1,h2⟩:=slcB_ok (dst:=dst) (ty:=ty) (pos:=pos) (after:=after) (guard:=guard) h
   exact⟨v,none,h1,trivial,h2⟩
  ·split at h
   ·rename_i hx
    split at h
    ·rename_i hl
     split at h
     ·rename_i hh
      obtain⟨v,h1,h2⟩:=slcC_ok (dst:=dst) (ty:=ty) (pos:=pos) (after:=after) (guard:=guard) hx hl hh h
      exact⟨v,none,h1,trivial,h2⟩
     ·cases h
    ·cases h
   ·cases h
 ·obtain⟨v,h1,h2⟩:=slc3_ok (dst:=dst) (ty:=ty) (pos:=pos) (after:=after) (guard:=guard) h
  exact⟨v,none,h1,trivial,h2⟩
 ·split at h
  ·rename_i hf
   have:=toList0 hf
   subst this
   split at h
   ·rename_i vs hv
    split at h
    ·rename_i hb
     exact⟨_,none,PY.makeFunc hb (tevs_ok hv).1,trivial,h⟩
    ·cases h
   ·cases h
  ·rename_i x hf
   have:=toList1 hf
   subst this
   split at h
   ·rename_i hc
    have:=toList0 hc
    subst this
    split at h
    ·rename_i v hv
     split at h
     ·rename_i hb
      exact⟨_,none,PY.makeBound hb (tev_ok hv),trivial,h⟩
     ·cases h
    ·cases h
   ·cases h
  ·cases h
 ·split at h
  ·rename_i v hx
   split at h
   ·exact⟨_,none,PY.nilCheck (tev_ok hx) rfl,trivial,h⟩
   ·exact⟨_,none,PY.nilCheck (tev_ok hx) rfl,trivial,h⟩
   ·rename_i f τ a
    exact⟨_,none,PY.nilCheck (tev_ok hx) (by cases f <;> rfl),trivial,h⟩
   ·exact⟨_,none,PY.nilCheck (tev_ok hx) rfl,trivial,h⟩
   ·exact⟨_,none,PY.nilCheckK (tev_ok hx),trivial,h⟩
   ·rename_i b hh τ i j
    obtain⟨u,hc,h⟩:=bind_some h
    obtain rfl:=chk_spec hc
    exact⟨_,none,PY.nilCheckK (tev_ok hx),trivial,h⟩
   ·cases h
  ·cases h
 ·rename_i c
  obtain⟨cal,args,ats⟩:=c
  dsimp only at h
  split at h
  ·split at h
   ·rename_i h1 h2
    have h1:=toList1 h1
    have h2:=toList1 h2
    subst h1;subst h2
    split at h
    ·rename_i hu
     split at h
     ·rename_i hx
      split at h
      ·rename_i hn
       exact⟨_,none,PY.len (tev_ok hx) (lenV_ok hn) hu,trivial,h⟩
      ·cases h
     ·cases h
    ·rename_i hu
     split at h
     ·rename_i hx
      exact⟨_,none,PY.lenS (evS hx) hu,trivial,h⟩
     ·cases h
    ·cases h
   ·cases h
  ·split at h
   ·rename_i h1
    have h1:=toList2 h1
    subst h1
    split at h
    ·rename_i hx hy
     exact⟨_,none,PY.min2 (evI hx) (evI hy),trivial,h⟩
    ·cases h
   ·cases h
  ·split at h
   ·rename_i h1
    have h1:=toList2 h1
    subst h1
    split at h
    ·rename_i hx hy
     exact⟨_,none,PY.max2 (evI hx) (evI hy),trivial,h⟩
    ·cases h
   ·cases h
  ·cases h
 ·split at h
  ·rename_i hu
   split at h
   ·rename_i z hz
    split at h
    ·rename_i places hp
     split at h
     ·rename_i vs hv
      split at h
      ·rename_i out ho
       refine⟨.agg out,none,PY.build (z:=z) hu ?_ hp (tevp_ok hv) ?_,trivial,h⟩
       ·cases hq:P.info? _ with
        | none=>rw[hq] at hz;cases hz
        | some iq=>rw[hq] at hz;exact congrArg some hz
       ·have:=tfill_ok s.ln places ho
        rw[er_go] at this
        rw[←this]
        congr 1
        rw[List.map_map]
        exact List.map_congr_left fun v _=>(tvK_er _ v).symm
      ·cases h
     ·cases h
    ·cases h
   ·cases h
  ·cases h
 ·cases h
end
end
end Go.DN
/-
 DN,part F:loads.
-/
namespace Go.DN
open Go.AM
section
variable {S:Sig}
def lget (x:Operand) (h:Nat):List (Nat×Nat×Leaf S.α)→Option (Leaf S.α)
 | []=>none
 | (d,h',y)::r=>match x with
  | .tmp t=>bif Nat.beq d t&&Nat.beq h' h then some y else lget x h r
  | _=>none
theorem lget_mem {x:Operand}{h:Nat}{y:Leaf S.α}:∀{l:List (Nat×Nat×Leaf S.α)},lget x h l=some y→∃t,x=.tmp t∧(t,h,y)∈l
 | [],e=>by cases e
 | (d,h',y')::r,e=>by
  simp only[lget] at e
  split at e
  ·rename_i t
   cases hb:(Nat.beq d t&&Nat.beq h' h) with
   | true=>
    rw[hb] at e
    cases e
    simp only[Bool.and_eq_true] at hb
    obtain⟨h1,h2⟩:=hb
    have h1:=Nat.eq_of_beq_eq_true h1
    have h2:=Nat.eq_of_beq_eq_true h2
    subst h1;subst h2
    exact⟨_,rfl,List.mem_cons_self⟩
   | false=>
    rw[hb] at e
    obtain⟨t',h1,h2⟩:=lget_mem e
    exact⟨t',h1,List.mem_cons_of_mem _ h2⟩
  ·cases e
def elemC (s:TSt S) (x:Operand) (h:Nat){τ:Ty}(l:List (S.D τ)) (i:Nat){A:Type}(k:Leaf S.α→Option A):Option A:=
 match lget x h s.last with
 | some y=>k y
 | none=>(l[i]?).bind fun a=>k ⟨τ,a⟩
def famRowC {A:Type}:(τ:Ty)→S.D τ→Ty→Nat→(Ty→Nat→Option A)→Option A
 | .list (.list t),ll,τ,i,k=>match decEq τ (.list t) with
  | isTrue _=>(ll[i]?).bind fun r=>k t (List.length r)
  | isFalse _=>none
 | _,_,_,_,_=>none
theorem famRowC_ok {A:Type}{r0:A}:∀{τ':Ty}{a:S.D τ'}{τ:Ty}{i:Nat}{k:Ty→Nat→Option A},famRowC τ' a τ i k=some r0→
  ∃t n gs,τ=.list t∧(famRows τ' a).1=S.sz t∧(famRows τ' a).2[i]?=some (n,gs)∧k t n=some r0
 | .list (.list t),ll,τ,i,k,h=>by
  simp only[famRowC] at h
  split at h
  ·rename_i e _
   obtain⟨r,h1,h2⟩:=bind_some h
   exact⟨t,List.length r,_,e,rfl,by show(List.map _ ll)[i]?=_;rw[List.getElem?_map,h1];rfl,h2⟩
  ·cases h
 | .list (.int _),_,_,_,_,h=>by cases h
 | .list .bool,_,_,_,_,h=>by cases h
 | .list .ifc,_,_,_,_,h=>by cases h
 | .list .str,_,_,_,_,h=>by cases h
 | .list (.st _),_,_,_,_,h=>by cases h
 | .int _,_,_,_,_,h=>by cases h
 | .bool,_,_,_,_,h=>by cases h
 | .ifc,_,_,_,_,h=>by cases h
 | .str,_,_,_,_,h=>by cases h
 | .st _,_,_,_,_,h=>by cases h
 | .map,_,_,_,_,h=>by cases h
 | .list .map,_,_,_,_,h=>by cases h
def famCellC {A:Type}:(τ:Ty)→S.D τ→Ty→Nat→Nat→(TV S→Option A)→Option A
 | .list (.list t),ll,τ,i,j,k=>match t.scal with
  | true=>match decEq τ t with
   | isTrue _=>(ll[i]?).bind fun r=>(r[j]?).bind fun x=>k (.dat true t x)
   | isFalse _=>none
  | false=>none
 | _,_,_,_,_,_=>none
theorem famCellC_ok {A:Type}{r0:A}:∀{τ':Ty}{a:S.D τ'}{τ:Ty}{i j:Nat}{k:TV S→Option A},famCellC τ' a τ i j k=some r0→
  ∃(t:Ty) (x:S.D t) (n:Nat) (gs:List G),τ=t∧t.scal=true∧(famRows τ' a).2[i]?=some (n,gs)∧gs[j*S.sz t]?=some (cellG S t x)∧k (.dat true t x)=some r0
 | .list (.list t),ll,τ,i,j,k,h=>by
  simp only[famCellC] at h
  split at h
  ·rename_i hs
   split at h
   ·rename_i e _
    obtain⟨r,h1,h⟩:=bind_some h
    obtain⟨x,h2,h⟩:=bind_some h
    have hst:t.isSt=false:=by cases t <;> first | rfl | cases hs
    refine⟨t,x,List.length r,List.flatMap (encT S t) r,e,hs,by show(List.map _ ll)[i]?=_;rw[List.getElem?_map,h1];rfl,?_,h⟩
    have:=@encs_get _ (encI S t) r j x h2 0 (sz_pos S t)
    exact this.trans (by show(encT S t x)[0]?=_;rw[cellG_eq S hst];rfl)
   ·cases h
  ·cases h
 | .list (.int _),_,_,_,_,_,h=>by cases h
 | .list .bool,_,_,_,_,_,h=>by cases h
 | .list .ifc,_,_,_,_,_,h=>by cases h
 | .list .str,_,_,_,_,_,h=>by cases h
 | .list (.st _),_,_,_,_,_,h=>by cases h
 | .int _,_,_,_,_,_,h=>by cases h
 | .bool,_,_,_,_,_,h=>by cases h
 | .ifc,_,_,_,_,_,h=>by cases h
 | .str,_,_,_,_,_,h=>by cases h
 | .st _,_,_,_,_,_,h=>by cases h
 | .map,_,_,_,_,_,h=>by cases h
 | .list .map,_,_,_,_,_,h=>by cases h
def intsB (ki:IntKind):List (TV S)→List Int
 | .dat _ (.int k) a::r=>match decEq k ki with
  | isTrue _=>a::intsB ki r
  | isFalse _=>[]
 | _=>[]
theorem intsB_get {ki:IntKind}:∀{cs:List (TV S)}{i:Nat}{a:Int},(intsB ki cs)[i]?=some a→∃f,cs[i]?=some (.dat f (.int ki) a)
 | [],i,a,h=>by simp[intsB] at h
 | v::r,i,a,h=>by
  unfold intsB at h
  split at h
  ·rename_i f k b r' e
   cases e
   split at h
   ·rename_i e _
    subst e
    cases i with
    | zero=>cases h;exact⟨f,rfl⟩
    | succ i=>exact intsB_get (cs:=r) (i:=i) (by simpa using h)
   ·simp at h
  ·simp at h
def ksB (q:IntKind) (h0:Nat):List (TV S)→List (Nat×Nat)
 | .ks h τ z n::r=>match decEq τ (.int q) with
  | isTrue _=>match decEq h h0 with
   | isTrue _=>(z,n)::ksB q h0 r
   | isFalse _=>[]
  | isFalse _=>[]
 | _=>[]
theorem ksB_get {q:IntKind}{h0:Nat}:∀{cs:List (TV S)}{i:Nat}{a:Nat×Nat},(ksB q h0 cs)[i]?=some a→cs[i]?=some (.ks h0 (.int q) a.1 a.2)
 | [],i,a,h=>by simp[ksB] at h
 | v::r,i,a,h=>by
  unfold ksB at h
  split at h
  ·rename_i h1 τ z n r' e
   cases e
   split at h
   ·rename_i e _
    subst e
    split at h
    ·rename_i e _
     subst e
     cases i with
     | zero=>cases h;rfl
     | succ i=>exact ksB_get (cs:=r) (i:=i) (by simpa using h)
    ·simp at h
   ·simp at h
  ·simp at h
def ksH:List (TV S)→Option Nat
 | .ks h _ _ _::_=>some h
 | _=>none
def mrowF (i:Nat):List (Nat×List Int)→Option (List Int)
 | []=>none
 | (x,l)::r=>match l with
  | []=>mrowF i r
  | a::l'=>bif Nat.beq x i then some (a::l') else mrowF i r
def mrow (i:Nat):List MEnt→Option (List Int)
 | []=>none
 | e::r=>match mrowF i e.f with
  | some l=>some l
  | none=>mrow i r
def mcell (es:List MEnt) (z j:Nat):Option Int:=(mrow z es).bind fun l=>l[j]?
theorem rowF_me (q:IntKind) (i:Nat):∀f:List (Nat×List Int),rowF i (f.map fun p=>(p.1,intG q p.2))=(mrowF i f).map (intG q)
 | []=>rfl
 | (x,l)::r=>by
  cases l with
  | nil=>exact rowF_me q i r
  | cons a l'=>
   show(bif Nat.beq x i then some (intG q (a::l')) else rowF i (r.map _))=(bif Nat.beq x i then some (a::l') else mrowF i r).map (intG q)
   cases Nat.beq x i with
   | true=>rfl
   | false=>exact rowF_me q i r
theorem rowM_me (q:IntKind) (i:Nat):∀es:List MEnt,rowM i (es.map (MEnt.me q))=(mrow i es).map (intG q)
 | []=>rfl
 | e::r=>by
  simp only[List.map_cons,rowM,mrow]
  rw[show(MEnt.me q e).f=e.f.map fun p=>(p.1,intG q p.2) from rfl,rowF_me]
  cases mrowF i e.f with
  | some l=>rfl
  | none=>exact rowM_me q i r
def mtgt:List MEnt→Nat→Option MEnt
 | [],_=>none
 | e::r,t=>bif Nat.beq e.t t then some e else mtgt r t
def mfld (es:List MEnt) (t j:Nat):Option (Nat×List Int):=(mtgt es t).bind fun e=>e.f[j]?
theorem tgt_me (q:IntKind) (t:Nat):∀es:List MEnt,tgt (es.map (MEnt.me q)) t=(mtgt es t).map (MEnt.me q)
 | []=>rfl
 | e::r=>by
  simp only[List.map_cons,tgt,List.find?_cons,mtgt]
  cases h:Nat.beq e.t t with
  | true=>simp[MEnt.me,h]
  | false=>
   have:=tgt_me q t r
   simp only[tgt] at this
   simp[MEnt.me,h] at this⊢
   exact this
theorem mfld_ok {es:List MEnt}{t j z:Nat}{l:List Int}(h:mfld es t j=some (z,l)) (q:IntKind):∃e,tgt (es.map (MEnt.me q)) t=some e∧e.f[j]?=some (z,intG q l):=by
 obtain⟨e,h1,h2⟩:=bind_some h
 refine⟨MEnt.me q e,by rw[tgt_me,h1];rfl,?_⟩
 show(e.f.map fun p=>(p.1,intG q p.2))[j]?=_
 rw[List.getElem?_map,h2];rfl
theorem intG_len (q:IntKind) (l:List Int):(intG q l).length=l.length:=by unfold intG;simp
def lookC {A:Type}(P:Program) (W:List Nat) (s:TSt S) (t:TypeId) (x y:Operand) (k:TV S→Option A):Option A:=
 none
def ylC (P:Program) (W:List Nat) (s:TSt S) (op:Op){A:Type}(k:TV S→Option A):Option A:=
 match op with
 | .convert t t' x=>match tev s x with
  | some (.osl h (.int .u8))=>match W.contains h with
   | true=>none
   | false=>match oget s.stA h with
    | some (.arr _ _ _ (.int .u8) l)=>match P.underlying t with
     | some (.slice e)=>match P.underlying e with
      | some (.int .u8)=>match P.underlying t' with
       | some .string=>k (.dat true .str (strOf l))
       | _=>none
      | _=>none
     | _=>none
    | _=>none
  | _=>none
 | .load t x=>match aggP P t with
  | some false=>match tev s x with
   | some (.ptr f τ a)=>match τ.isSt with
    | false=>k (.dat f τ a)
    | true=>none
   | some (.loc h off)=>match W.contains h with
    | true=>none
    | false=>match oget s.stA h with
     | some (.box _ _ cs)=>match cs[off]? with
      | some v=>k v
      | none=>none
     | _=>none
   | some (.elt h τ i j)=>match W.contains h with
    | true=>none
    | false=>match oget s.stA h with
     | some (.arr _ _ f τ' l)=>match decEq τ' τ with
      | isTrue _=>elemC s x h l i fun y=>match y with
       | ⟨.st n,a⟩=>match (S.cells n a)[j]? with
        | some z=>k (.dat f z.τ z.a)
        | none=>none
       | y=>match j with
        | 0=>k (.dat f y.τ y.a)
        | _=>none
      | isFalse _=>none
     | some (.deep _ _ _ (.fam _) τ' a)=>match j with
      | 0=>famRowC τ' a τ i fun t n=>k (.ks h t i n)
      | _=>none
     | some (.box _ _ cs)=>match τ with
      | .int ki=>(chk (i<(intsB ki (cs.drop j)).length)).bind fun _=>k (.dat true (.int ki) ((intsB ki (cs.drop j)).getD i 0))
      | .list (.int q)=>match ksH (cs.drop j) with
       | some h1=>(chk (i<(ksB q h1 (cs.drop j)).length)).bind fun _=>k (.ks h1 (.int q) ((ksB q h1 (cs.drop j)).getD i (0,0)).1 ((ksB q h1 (cs.drop j)).getD i (0,0)).2)
       | none=>none
      | _=>none
     | _=>none
   | some (.kp h τ i j)=>match W.contains h with
    | true=>none
    | false=>match oget s.stA h with
     | some (.deep _ _ _ (.fam _) τ' a)=>famCellC τ' a τ i j k
     | some (.deep _ _ _ (.map q _ _) .map d)=>match τ with
      | .list _=>(mfld d.es i j).bind fun p=>k (.ks h (.int q) p.1 (List.length p.2))
      | .int q'=>match decEq q' q with
       | isTrue _=>(mcell d.es i j).bind fun x=>k (.dat true (.int q) x)
       | isFalse _=>none
      | _=>none
     | _=>none
   | _=>none
  | some true=>match sizP P t with
   | some z=>match tev s x with
    | some (.ptr f (.st n) a)=>match Nat.beq z (S.tys n).length with
     | true=>k (.dat f (.st n) a)
     | false=>none
    | some (.loc h off)=>match W.contains h with
     | true=>none
     | false=>match oget s.stA h with
      | some (.box _ _ cs)=>match Nat.ble (off+z) cs.length with
       | true=>k (.agg ((cs.drop off).take z))
       | false=>none
      | _=>none
    | some (.elt h τ i j)=>match W.contains h with
     | true=>none
     | false=>match oget s.stA h with
      | some (.arr _ _ f τ' l)=>match decEq τ' τ with
       | isTrue _=>match j with
        | 0=>match Nat.beq z (S.sz τ) with
         | true=>match τ with
          | .st _=>elemC s x h l i fun y=>k (.dat f y.τ y.a)
          | _=>none
         | false=>none
        | j+1=>none
       | isFalse _=>none
      | _=>none
    | _=>none
   | none=>none
  | none=>none
 | .lookup t x y true=>lookC P W s t x y k
 | _=>none
section
variable {P:Program}{W:List Nat}{s:TSt S}{dst:Option Tmp}{ty:TypeId}{pos:String}{after:Array Edge}{guard:Option (Nat×Bool)}
theorem elemC_ok {x:Operand}{h i:Nat}{ety:TypeId}{m f:Bool}{τ:Ty}{l:List (S.D τ)}{A:Type}{k:Leaf S.α→Option A}{r:A}(hl:LInv s) (hx:∃j,tev s x=some (.elt h τ i j)) (ho:oget s.stA h=some (.arr ety m f τ l))
  (hk:elemC s x h l i k=some r):∃a,l[i]?=some a∧k ⟨τ,a⟩=some r:=by
 unfold elemC at hk
 split at hk
 ·rename_i y hla
  obtain⟨t,e0,hm⟩:=lget_mem hla
  subst e0
  obtain⟨i',ety',m',f',τ',l',a,e1,e2,e3,e4⟩:=hl t h y hm
  rw[ho] at e2
  cases e2
  obtain⟨j,hx⟩:=hx
  simp only[tev] at hx
  rw[e1] at hx
  cases hx
  subst e3
  exact⟨a,e4,hk⟩
 ·exact bind_some hk
theorem sget_st {h:Nat}{o:TO S}(ho:oget s.stA h=some o):sget s.er.st h=some (o.er s.ln):=sget_erS ho
theorem out_arr (ety:TypeId) (m f:Bool) (τ:Ty) (l:List (S.D τ)) (ln:Nat→Nat){g:G}(hg:g.one=true) (hf:∀g',g≠.fr g'):((TO.arr ety m f τ l:TO S).er ln).out g=frB f g:=by
 cases g <;> first | rfl | (cases f <;> rfl)
theorem cell_nofr (τ:Ty) (a:S.D τ):∀g∈encT S τ a,∀g',g≠.fr g':=by
 intro g hg g' e
 subst e
 cases τ with
 | st n=>
  rw[enc_st] at hg
  obtain⟨x,hx,e⟩:=List.mem_map.1 hg
  have h2:=cells_one n a _ hx
  obtain⟨τx,ax⟩:=x
  cases τx with
  | st _=>cases h2
  | _=>cases e
 | _=>simp[encT,encW] at hg
theorem lookC_ok {t:TypeId}{x y:Operand}{A:Type}{k:TV S→Option A}{r:A}(h:lookC P W s t x y k=some r):
  ∃v,Yield P W s.er ⟨dst,.lookup t x y true,ty,pos,after,guard⟩ (v.er s.ln)∧k v=some r:=by
 unfold lookC at h
 cases h
theorem ylC_ok {op:Op}{A:Type}{k:TV S→Option A}{r:A}(hl:LInv s) (h:ylC P W s op k=some r):
  ∃v,Yield P W s.er ⟨dst,op,ty,pos,after,guard⟩ (v.er s.ln)∧k v=some r:=by
 unfold ylC at h
 split at h
 ·rename_i t t' x
  split at h
  ·rename_i hh hx
   split at h
   ·cases h
   ·rename_i hW
    split at h
    ·rename_i e m f l ho
     split at h
     ·rename_i e0 hu
      split at h
      ·rename_i he
       split at h
       ·rename_i hu'
        refine⟨_,?_,h⟩
        have hx':ev s.er x=some (.osl hh 1 0 (List.length l)):=by rw[tev_ok hx];show some (G.osl _ _ _ (s.ln hh))=_;rw[ln_arr ho];rfl
        refine YL.bytesStr hx' (sget_st ho) rfl ?_ rfl hu he hu' hW
        show List.flatMap (encT S (.int .u8)) l=_
        clear hx'
        generalize (show List Int from l)=l'
        induction l' with
        | nil=>rfl
        | cons x r ih=>rw[List.flatMap_cons,ih];rfl
       ·cases h
      ·cases h
     ·cases h
    ·cases h
  ·cases h
 ·rename_i t x
  split at h
  ·rename_i ha
   split at h
   ·rename_i f τ a hx
    split at h
    ·rename_i hs
     refine⟨_,?_,h⟩
     rw[er_dat1 hs]
     have e0:=tev_ok hx
     rw[er_ptr] at e0
     have e1:(encT S τ a)[0]?=some (cellG S τ a):=by rw[cellG_eq S hs];rfl
     cases f with
     | true=>exact YL.ptrF e0 e1 (aggP_ok ha) rfl
     | false=>exact YL.ptr e0 e1 (aggP_ok ha)
    ·cases h
   ·rename_i hh off hx
    split at h
    ·cases h
    ·rename_i hW
     split at h
     ·rename_i e m cs ho
      split at h
      ·rename_i v hv
       refine⟨v,?_,h⟩
       refine YL.loadN (tev_ok hx) (sget_st ho) ?_ (aggP_ok ha) hW rfl
       show(TV.er.go s.ln cs)[off]?=_
       rw[er_go,List.getElem?_map,hv];rfl
      ·cases h
     ·cases h
   ·rename_i hh τ i j hx
    split at h
    ·cases h
    ·rename_i hW
     split at h
     ·rename_i e m f τ' l ho
      split at h
      ·rename_i e1 _
       subst e1
       obtain⟨a,ha',h2⟩:=elemC_ok hl ⟨j,hx⟩ ho h
       replace h:=h2
       clear h2
       have key:∀(g:G),(encT S τ' a)[j]?=some g→Yield P W s.er ⟨dst,.load t x,ty,pos,after,guard⟩ (frB f g):=by
        intro g hg
        have hm:=List.mem_of_getElem? hg
        refine YL.load (k:=(TO.arr e m f τ' l:TO S).er s.ln) (g:=g) (tev_ok hx) (sget_st ho) ?_ (aggP_ok ha) hW (out_arr e m f τ' l _ (encT_ones S τ' a g hm) (cell_nofr τ' a g hm))
        have hj:j<S.sz τ':=by have:=(List.getElem?_eq_some_iff.1 hg).1;rw[encT_len] at this;exact this
        have:=@encs_get _ (encI S τ') l i a ha' j hj
        show(List.flatMap (encT S τ') l)[i*S.sz τ'+j]?=_
        exact this.trans hg
       split at h
       ·rename_i n a' he
        cases he
        split at h
        ·rename_i z hz
         refine⟨_,?_,h⟩
         rw[er_dat1 (cells_one n _ z (List.mem_of_getElem? hz))]
         exact key _ (by rw[enc_st,List.getElem?_map,hz];rfl)
        ·cases h
       ·rename_i hns
        split at h
        ·refine⟨_,?_,h⟩
         have hs:τ'.isSt=false:=by
          cases τ' with
          | st n=>exact absurd rfl (hns n a)
          | _=>rfl
         rw[er_dat1 hs]
         exact key _ (by rw[cellG_eq S hs];rfl)
        ·cases h
      ·cases h
     ·rename_i e m f kty τ' a ho
      split at h
      ·obtain⟨t',n,gs,e1,e2,e3,h2⟩:=famRowC_ok h
       subst e1
       refine⟨_,?_,h2⟩
       have:=YL.famRow (P:=P) (W:=W) (dst:=dst) (ty:=ty) (pos:=pos) (after:=after) (guard:=guard) (t:=t) (x:=x) (h:=hh) (i:=i) (by rw[tev_ok hx];simp[TV.er,Sig.sz]) (sget_st ho) rfl e3 (aggP_ok ha) hW
       rw[e2] at this
       exact this
      ·cases h
     ·rename_i e m cs ho
      split at h
      ·rename_i ki
       obtain⟨_,hc,h⟩:=bind_some h
       have hc:=chk_spec hc
       refine⟨_,?_,h⟩
       obtain⟨f,hv⟩:=intsB_get (List.getElem?_eq_getElem hc)
       rw[List.getElem?_drop] at hv
       have:=YL.loadN (P:=P) (W:=W) (dst:=dst) (ty:=ty) (pos:=pos) (after:=after) (guard:=guard) (t:=t) (g:=.val (.int ki (intsB ki (cs.drop j))[i])) (tev_ok hx) (sget_st ho) (by
        show(TV.er.go s.ln cs)[i*1+j]?=_
        rw[er_go,List.getElem?_map,show i*1+j=j+i by omega,hv]
        exact congrArg some (datG_int f ki _)) (aggP_ok ha) hW rfl
       rw[List.getD_eq_getElem?_getD,List.getElem?_eq_getElem hc]
       exact this
      ·rename_i q
       split at h
       ·rename_i h1 _
        obtain⟨_,hc,h⟩:=bind_some h
        have hc:=chk_spec hc
        refine⟨_,?_,h⟩
        have hv:=ksB_get (List.getElem?_eq_getElem hc)
        rw[List.getElem?_drop] at hv
        have:=YL.loadN (P:=P) (W:=W) (dst:=dst) (ty:=ty) (pos:=pos) (after:=after) (guard:=guard) (t:=t) (g:=.ks h1 (ksB q h1 (cs.drop j))[i].1 1 (ksB q h1 (cs.drop j))[i].2) (tev_ok hx) (sget_st ho) (by
         show(TV.er.go s.ln cs)[i*1+j]?=_
         rw[er_go,List.getElem?_map,show i*1+j=j+i by omega,hv]
         rfl) (aggP_ok ha) hW rfl
        rw[List.getD_eq_getElem?_getD,List.getElem?_eq_getElem hc]
        exact this
       ·cases h
      ·cases h
     ·cases h
   ·rename_i hh τ i j hx
    split at h
    ·cases h
    ·rename_i hW
     split at h
     ·rename_i e m f kty τ' a ho
      obtain⟨t',x',n,gs,e1,e2,e3,e4,h2⟩:=famCellC_ok h
      subst e1
      refine⟨_,?_,h2⟩
      have:=YL.famCell (P:=P) (W:=W) (dst:=dst) (ty:=ty) (pos:=pos) (after:=after) (guard:=guard) (t:=t) (x:=x) (tev_ok hx) (sget_st ho) rfl e3 e4 (aggP_ok ha) hW
      have e5:∀b,frF b (cellG S τ x')=(TV.dat true τ x':TV S).er s.ln:=by
       intro b
       cases τ with
       | list _=>cases e2
       | st _=>cases e2
       | ifc=>cases e2
       | _=>rfl
      rw[e5] at this
      exact this
     ·rename_i e m f q kty tty d ho
      split at h
      ·rename_i τ
       obtain⟨⟨z,l⟩,h1,h⟩:=bind_some h
       refine⟨_,?_,h⟩
       obtain⟨e',h2,h3⟩:=mfld_ok h1 q
       have:=YL.mapFld (P:=P) (W:=W) (dst:=dst) (ty:=ty) (pos:=pos) (after:=after) (guard:=guard) (t:=t) (x:=x) (h:=hh) (tt:=i) (off:=j) (q:=q) (kty:=kty) (tty:=tty) (n:=d.n) (pd:=pdG q d.pd) (by rw[tev_ok hx];simp[TV.er,Sig.sz]) (sget_st ho) rfl h2 h3 (aggP_ok ha) hW
       rw[intG_len] at this
       exact this
      ·rename_i q'
       split at h
       ·rename_i e' _
        subst e'
        obtain⟨x',hc,h⟩:=bind_some h
        obtain⟨l,h1,h2⟩:=bind_some hc
        refine⟨_,?_,h⟩
        have:=YL.mapCell (P:=P) (W:=W) (dst:=dst) (ty:=ty) (pos:=pos) (after:=after) (guard:=guard) (t:=t) (x:=x) (h:=hh) (z:=i) (off:=j) (q:=q') (kty:=kty) (tty:=tty) (n:=d.n) (pd:=pdG q' d.pd) (es:=d.es.map (MEnt.me q')) (gs:=intG q' l) (u:=.int q' x')
         (by rw[tev_ok hx];simp[TV.er,Sig.sz]) (sget_st ho) rfl (by rw[rowM_me,h1];rfl) (by unfold intG;rw[List.getElem?_map,h2];rfl) (aggP_ok ha) hW
        rw[er_dat1 rfl]
        exact this
       ·cases h
      ·cases h
     ·cases h
   ·cases h
  ·rename_i ha
   split at h
   ·rename_i z hz
    split at h
    ·rename_i f n a hx
     split at h
     ·rename_i hc
      have hc:=Nat.eq_of_beq_eq_true hc
      refine⟨_,?_,h⟩
      have e0:=tev_ok hx
      rw[er_ptr] at e0
      have hlen:(encT S (.st n) a).length=z:=by rw[encT_len,hc];rfl
      show Yield P W s.er _ (.agg ((encT S (.st n) a).map (frB f)))
      cases f with
      | true=>
       have:=YL.ptrAggF (P:=P) (W:=W) (dst:=dst) (ty:=ty) (pos:=pos) (after:=after) (guard:=guard) (sz:=z) e0 (by omega) (aggP_ok ha) (sizP_ok hz)
       rw[List.take_of_length_le (by omega)] at this
       exact this
      | false=>
       have:=YL.ptrAgg (P:=P) (W:=W) (dst:=dst) (ty:=ty) (pos:=pos) (after:=after) (guard:=guard) (sz:=z) e0 (by omega) (aggP_ok ha) (sizP_ok hz)
       rw[List.take_of_length_le (by omega)] at this
       have e2:(encT S (.st n) a).map (frB false)=encT S (.st n) a:=by
        have:(frB false)=(id:G→G):=rfl
        rw[this,List.map_id]
       rw[e2]
       exact this
     ·cases h
    ·rename_i hh off hx
     split at h
     ·cases h
     ·rename_i hW
      split at h
      ·rename_i e m cs ho
       split at h
       ·rename_i hc
        refine⟨_,?_,h⟩
        have:=YL.loadAgg (P:=P) (W:=W) (dst:=dst) (ty:=ty) (pos:=pos) (after:=after) (guard:=guard) (sz:=z) (tev_ok hx) (sget_st ho) rfl (aggP_ok ha) (sizP_ok hz)
         (by show off+z≤(TV.er.go s.ln cs).length;rw[er_go,List.length_map];exact Nat.le_of_ble_eq_true hc) hW
        show Yield P W s.er _ (.agg (TV.er.go s.ln ((cs.drop off).take z)))
        rw[er_go,List.map_take,List.map_drop,←er_go]
        exact this
       ·cases h
      ·cases h
    ·rename_i hh τ i j hx
     split at h
     ·cases h
     ·rename_i hW
      split at h
      ·rename_i e m f τ' l ho
       split at h
       ·rename_i e1 _
        subst e1
        split at h
        ·split at h
         ·rename_i hc
          have hc:=Nat.eq_of_beq_eq_true hc
          split at h
          ·rename_i n _ _ _ _ _
           obtain⟨a,ha',h⟩:=elemC_ok hl ⟨_,hx⟩ ho h
           refine⟨_,?_,h⟩
           have hil:=(List.getElem?_eq_some_iff.1 ha').1
           have:=YL.loadAggP (P:=P) (W:=W) (dst:=dst) (ty:=ty) (pos:=pos) (after:=after) (guard:=guard) (sz:=z) (tev_ok hx) (sget_st ho) (aggP_ok ha) (sizP_ok hz)
            (by
             show i*S.sz _+0+z≤(List.flatMap (encT S _) l).length
             have:=@encs_length _ (encI S (.st n)) l
             rw[show(List.flatMap (encT S (.st n)) l).length=_ from this,hc]
             show i*S.sz _+0+S.sz _≤l.length*S.sz _
             have:(i+1)*S.sz (.st n)≤l.length*S.sz (.st n):=Nat.mul_le_mul_right _ hil
             rw[Nat.add_mul,Nat.one_mul] at this
             omega) hW
           show Yield P W s.er _ (.agg ((encT S (.st n) a).map (frB f)))
           have e3:((List.flatMap (encT S (.st n)) l).drop (i*S.sz (.st n)+0)).take z=encT S (.st n) a:=by
            rw[hc,Nat.add_zero]
            exact @encs_sub _ (encI S (.st n)) l (i:Int) a (by unfold idx;rw[if_pos (by omega)];simpa using ha')
           have e4:((List.drop (i*S.sz (.st n)+0) (List.flatMap (encT S (.st n)) l)).take z).map (((TO.arr e m f (.st n) l:TO S).er s.ln).out)=(encT S (.st n) a).map (frB f):=by
            rw[e3]
            exact List.map_congr_left fun g hg=>out_arr e m f (.st n) l _ (encT_ones S _ a g hg) (cell_nofr _ a g hg)
           rw[←e4]
           exact this
          ·cases h
         ·cases h
        ·cases h
       ·cases h
      ·cases h
    ·cases h
   ·cases h
  ·cases h
 ·exact lookC_ok h
 ·cases h
end
end
end Go.DN
/-
 DN,part G:which handles are named;new ones;objects that change.
-/
namespace Go.DN
open Go.AM
section
variable {S:Sig}
def TV.has (k:Nat):TV S→Bool
 | .loc h _=>Nat.beq h k
 | .elt h _ _ _=>Nat.beq h k
 | .osl h _=>Nat.beq h k
 | .sub h _ _ _=>Nat.beq h k
 | .agg l=>go k l
 | .tup l=>go k l
 | .clo _ l=>go k l
 | .yld h=>Nat.beq h k
 | .mp h=>Nat.beq h k
 | .ks h _ _ _=>Nat.beq h k
 | .kp h _ _ _=>Nat.beq h k
 | .kpo b h _ _ _=>Nat.beq h k&&!b
 | .lpo b h _=>Nat.beq h k&&!b
 | _=>false
where go (k:Nat):List (TV S)→Bool
 | []=>false
 | x::r=>x.has k||go k r
theorem cell_noH (k:Nat) (f:Bool) (τ:Ty) (a:S.D τ) (h:τ.isSt=false):(frB f (cellG S τ a)).hasH k=false:=by
 cases τ with
 | st n=>cases h
 | _=>cases f <;> rfl
theorem datG_noH (k:Nat) (f:Bool) (τ:Ty) (a:S.D τ):(datG f τ a).hasH k=false:=by
 cases τ with
 | st n=>
  show G.hasH.go k ((encT S (.st n) a).map (frB f))=false
  rw[enc_st]
  have:=cells_one n a
  generalize S.cells n a=l at this
  induction l with
  | nil=>rfl
  | cons x r ih=>
   simp only[List.map_cons,G.hasH.go,cell_noH k f x.τ x.a (this x List.mem_cons_self),Bool.false_or]
   exact ih fun y hy=>this y (List.mem_cons_of_mem _ hy)
 | _=>cases f <;> rfl
mutual
theorem has_er (ln:Nat→Nat) (k:Nat):∀v:TV S,(v.er ln).hasH k=v.has k
 | .dat f τ a=>datG_noH k f τ a
 | .ptr f τ a=>by cases f <;> rfl
 | .agg l=>has_go ln k l
 | .tup l=>has_go ln k l
 | .clo _ l=>has_go ln k l
 | .loc _ _=>rfl
 | .elt _ _ _ _=>rfl
 | .osl _ _=>rfl
 | .sub _ _ _ _=>rfl
 | .yld _=>rfl
 | .mp _=>rfl
 | .ks _ _ _ _=>rfl
 | .kp _ _ _ _=>rfl
 | .kpo b h _ _ _=>by
  cases b with
  | true=>show false=(Nat.beq h k&&false);rw[Bool.and_false]
  | false=>show Nat.beq h k=(Nat.beq h k&&true);rw[Bool.and_true]
 | .lpo b h _=>by
  cases b with
  | true=>show false=(Nat.beq h k&&false);rw[Bool.and_false]
  | false=>show Nat.beq h k=(Nat.beq h k&&true);rw[Bool.and_true]
 | .val _=>rfl
 | .any=>rfl
theorem has_go (ln:Nat→Nat) (k:Nat):∀l:List (TV S),G.hasH.go k (TV.er.go ln l)=TV.has.go k l
 | []=>rfl
 | x::r=>by simp only[TV.er.go,G.hasH.go,TV.has.go,has_er ln k x,has_go ln k r]
end
mutual
theorem er_congr {ln ln':Nat→Nat}:∀v:TV S,(∀k,v.has k=true→ln k=ln' k)→v.er ln=v.er ln'
 | .dat f τ a,_=>rfl
 | .ptr f τ a,_=>rfl
 | .agg l,h=>congrArg G.agg (er_congrL l h)
 | .tup l,h=>congrArg G.tup (er_congrL l h)
 | .clo f l,h=>congrArg (G.clo f) (er_congrL l h)
 | .loc _ _,_=>rfl
 | .elt _ _ _ _,_=>rfl
 | .osl h τ,hh=>congrArg (G.osl h (S.sz τ) 0) (hh h (Nat.beq_refl h))
 | .sub _ _ _ _,_=>rfl
 | .yld _,_=>rfl
 | .mp _,_=>rfl
 | .ks _ _ _ _,_=>rfl
 | .kp _ _ _ _,_=>rfl
 | .kpo _ _ _ _ _,_=>rfl
 | .lpo _ _ _,_=>rfl
 | .val _,_=>rfl
 | .any,_=>rfl
theorem er_congrL {ln ln':Nat→Nat}:∀l:List (TV S),(∀k,TV.has.go k l=true→ln k=ln' k)→TV.er.go ln l=TV.er.go ln' l
 | [],_=>rfl
 | x::r,h=>by
  simp only[TV.er.go]
  rw[er_congr x fun k hk=>h k (by simp[TV.has.go,hk]),er_congrL r fun k hk=>h k (by simp[TV.has.go,hk])]
end
def frHas (k:Nat):List (Nat×TV S)→Bool
 | []=>false
 | (_,v)::r=>v.has k||frHas k r
def TO.has (k:Nat):TO S→Bool
 | .box _ _ cs=>TV.has.go k cs
 | .arr ..=>false
 | .lp _ _ cs=>TV.has.go k cs
 | .deep ..=>false
def stHas (k:Nat):List (Nat×TO S)→Bool
 | []=>false
 | (_,o)::r=>o.has k||stHas k r
def TSt.free (s:TSt S) (k:Nat):Bool:=(match oget s.stA k with | none=>true | some _=>false)&&(!(frHas k s.frA)&&(!(stHas k s.stA)&&(!(TV.has.go k s.df)&&Nat.blt k 500)))
theorem frNo_er (ln:Nat→Nat) (k:Nat):∀fr:List (Nat×TV S),frNo k (erF ln fr)=!(frHas k fr)
 | []=>rfl
 | (_,v)::r=>by simp only[erF,frNo,frHas,has_er,frNo_er ln k r,Bool.not_or]
theorem sget_er_none {ln:Nat→Nat}:∀{st:List (Nat×TO S)}{t:Nat},oget st t=none→sget (erS ln st) t=none
 | [],_,_=>rfl
 | (k,g)::r,t,h=>by
  simp only[oget] at h
  simp only[erS,sget]
  cases hk:Nat.beq k t with
  | true=>rw[hk] at h;cases h
  | false=>rw[hk] at h;exact sget_er_none h
theorem stNo_er (ln:Nat→Nat) (k:Nat):∀st:List (Nat×TO S),stHas k st=false→stNo k (erS ln st)=true
 | [],_=>rfl
 | (_,o)::r,h=>by
  simp only[stHas,Bool.or_eq_false_iff] at h
  simp only[erS,stNo,Bool.and_eq_true,stNo_er ln k r h.2,and_true]
  cases o with
  | box e m cs=>simp only[TO.er,has_go,Bool.false_or];have:=h.1;simp only[TO.has] at this;simp[this]
  | arr e m f τ l=>rfl
  | lp l n cs=>simp only[TO.er,has_go,Bool.false_or];have:=h.1;simp only[TO.has] at this;simp[this]
  | deep=>rfl
theorem dfNo_er (ln:Nat→Nat) (k:Nat):∀l:List (TV S),dfNo k (TV.er.go ln l)=!(TV.has.go k l)
 | []=>rfl
 | x::r=>by simp only[TV.er.go,dfNo,TV.has.go,has_er,dfNo_er ln k r,Bool.not_or]
theorem free_spec {s:TSt S}{k:Nat}(h:s.free k=true):oget s.stA k=none∧frHas k s.frA=false∧stHas k s.stA=false∧TV.has.go k s.df=false∧Nat.blt k 500=true:=by
 unfold TSt.free at h
 simp only[Bool.and_eq_true,Bool.not_eq_true'] at h
 obtain⟨h1,h2,h3,h4,h5⟩:=h
 refine⟨?_,h2,h3,h4,h5⟩
 split at h1
 ·assumption
 ·cases h1
theorem free_fresh {s:TSt S}{k:Nat}(h:s.free k=true):fresh s.er k=true:=by
 obtain⟨h1,h2,h3,h4,h5⟩:=free_spec h
 unfold fresh
 have e1:=sget_er_none (ln:=s.ln) h1
 have e2:=frNo_er s.ln k s.frA
 rw[h2] at e2
 have e3:=stNo_er s.ln k s.stA h3
 have e4:=dfNo_er s.ln k s.df
 rw[h4] at e4
 have e5:Nat.blt k 1000=true:=by simp only[Nat.blt_eq] at h5⊢;omega
 simp only[Bool.and_eq_true]
 exact⟨by show(sget (erS s.ln s.stA) k).isNone=true;rw[e1];rfl,e2,e3,e4,e5⟩
theorem frHas_get {k:Nat}:∀{fr:List (Nat×TV S)}{t:Nat}{v:TV S},tget fr t=some v→frHas k fr=false→v.has k=false
 | [],_,_,h,_=>by cases h
 | (t',v')::r,t,v,h,hf=>by
  simp only[frHas,Bool.or_eq_false_iff] at hf
  simp only[tget] at h
  cases hk:Nat.beq t' t with
  | true=>rw[hk] at h;cases h;exact hf.1
  | false=>rw[hk] at h;exact frHas_get h hf.2
theorem tev_has {s:TSt S}{x:Operand}{v:TV S}{k:Nat}(h:tev s x=some v) (hf:frHas k s.frA=false):v.has k=false:=by
 cases x with
 | tmp t=>exact frHas_get h hf
 | const u=>cases h;cases u <;> rfl
 | func f=>cases h;rfl
 | global _=>cases h
def AgreeLn (ln ln':Nat→Nat) (k:Nat):Prop:=∀j,j≠k→ln j=ln' j
theorem erF_agree {ln ln':Nat→Nat}{k:Nat}(h:AgreeLn ln ln' k):∀fr:List (Nat×TV S),frHas k fr=false→erF ln fr=erF ln' fr
 | [],_=>rfl
 | (t,v)::r,hf=>by
  simp only[frHas,Bool.or_eq_false_iff] at hf
  simp only[erF,erF_agree h r hf.2]
  rw[er_congr v fun j hj=>h j fun e=>by subst e;rw[hf.1] at hj;cases hj]
theorem go_agree {ln ln':Nat→Nat}{k:Nat}(h:AgreeLn ln ln' k) (l:List (TV S)) (hf:TV.has.go k l=false):TV.er.go ln l=TV.er.go ln' l:=
 er_congrL l fun j hj=>h j fun e=>by subst e;rw[hf] at hj;cases hj
theorem er_agree {ln ln':Nat→Nat}{k:Nat}(h:AgreeLn ln ln' k) (v:TV S) (hf:v.has k=false):v.er ln=v.er ln':=
 er_congr v fun j hj=>h j fun e=>by subst e;rw[hf] at hj;cases hj
theorem TO.er_agree {ln ln':Nat→Nat}{k:Nat}(h:AgreeLn ln ln' k) (o:TO S) (hf:o.has k=false):o.er ln=o.er ln':=by
 cases o with
 | box e m cs=>simp only[TO.er,go_agree h cs hf]
 | arr e m f τ l=>rfl
 | lp l n cs=>simp only[TO.er,go_agree h cs hf]
 | deep=>rfl
theorem erS_agree {ln ln':Nat→Nat}{k:Nat}(h:AgreeLn ln ln' k):∀st:List (Nat×TO S),stHas k st=false→erS ln st=erS ln' st
 | [],_=>rfl
 | (t,o)::r,hf=>by
  simp only[stHas,Bool.or_eq_false_iff] at hf
  simp only[erS,erS_agree h r hf.2,TO.er_agree h o hf.1]
theorem lnO_cons {st:List (Nat×TO S)}(k:Nat) (o:TO S):AgreeLn (lnO st) (lnO ((k,o)::st)) k:=by
 intro j hj
 unfold lnO
 simp only[oget]
 have:Nat.beq k j=false:=by
  cases h:Nat.beq k j with
  | false=>rfl
  | true=>exact absurd (Nat.eq_of_beq_eq_true h).symm hj
 rw[this];rfl
theorem lnO_same {st:List (Nat×TO S)}(k:Nat) (o:TO S):lnO ((k,o)::st) k=o.len:=by
 unfold lnO
 simp only[oget,Nat.beq_refl,cond_true]
def TSt.add (s:TSt S) (k:Nat) (o:TO S):TSt S:={s with st:=(k,o)::s.st,nx:=bif Nat.beq k s.nx then k+1 else s.nx}
def TSt.hnd (s:TSt S) (d:Nat):Nat:=bif s.free d then d else s.nx
theorem add_er {s:TSt S}{k:Nat}(h:s.free k=true) (o:TO S) (ho:o.has k=false):(s.add k o).er={fr:=s.er.fr,st:=(k,o.er s.ln)::s.er.st,df:=s.er.df}∧AgreeLn s.ln (s.add k o).ln k:=by
 obtain⟨h1,h2,h3,h4,h5⟩:=free_spec h
 have hag:AgreeLn s.ln (s.add k o).ln k:=lnO_cons k o
 refine⟨?_,hag⟩
 show St.mk (erF (s.add k o).ln s.frA) (erS (s.add k o).ln ((k,o)::s.stA)) (TV.er.go (s.add k o).ln s.df)=St.mk _ _ _
 rw[←erF_agree hag s.frA h2,←go_agree hag s.df h4]
 simp only[erS]
 rw[←erS_agree hag s.stA h3,←TO.er_agree hag o ho]
 rfl
def oset:List (Nat×TO S)→Nat→TO S→List (Nat×TO S)
 | [],_,_=>[]
 | (k,g)::r,t,o=>bif Nat.beq k t then(k,o)::r else(k,g)::oset r t o
theorem oget_oset_same {st:List (Nat×TO S)}{h:Nat}{o o':TO S}(ho:oget st h=some o):oget (oset st h o') h=some o':=by
 induction st with
 | nil=>cases ho
 | cons x r ih=>
  obtain⟨y,g⟩:=x
  simp only[oget,oset] at ho⊢
  cases hy:Nat.beq y h with
  | true=>simp[oget,hy]
  | false=>simp only[hy,cond_false] at ho⊢;simp only[oget,hy,cond_false];exact ih ho
theorem oget_oset_other {st:List (Nat×TO S)}{h h':Nat}{o:TO S}(hne:h'≠h):oget (oset st h o) h'=oget st h':=by
 induction st with
 | nil=>rfl
 | cons x r ih=>
  obtain⟨y,g⟩:=x
  simp only[oget,oset]
  cases hy:Nat.beq y h with
  | true=>
   have:y=h:=Nat.eq_of_beq_eq_true hy
   subst this
   have h2:Nat.beq y h'=false:=by
    cases h3:Nat.beq y h' with
    | false=>rfl
    | true=>exact absurd (Nat.eq_of_beq_eq_true h3).symm hne
   simp[oget,h2]
  | false=>simp only[cond_false,oget,ih]
theorem lnO_oset {st:List (Nat×TO S)}{h:Nat}{o o':TO S}(ho:oget st h=some o) (hl:o'.len=o.len):lnO (oset st h o')=lnO st:=by
 funext j
 unfold lnO
 by_cases e:j=h
 ·subst e;rw[oget_oset_same ho,ho];exact hl
 ·rw[oget_oset_other e]
theorem erS_oset (ln:Nat→Nat):∀(st:List (Nat×TO S)) (h:Nat) (o:TO S),erS ln (oset st h o)=sset (erS ln st) h (o.er ln)
 | [],_,_=>rfl
 | (k,g)::r,h,o=>by
  simp only[oset,erS,sset]
  cases Nat.beq k h with
  | true=>rfl
  | false=>simp only[cond_false,erS,erS_oset ln r h o]
def TSt.set (s:TSt S) (h:Nat) (o:TO S):TSt S:={s with st:=oset s.st h o,last:=rmH h s.last}
theorem oget_app {st st':List (Nat×TO S)}{h:Nat}{o:TO S}(ho:oget st h=some o):oget (st++st') h=some o:=by
 induction st with
 | nil=>cases ho
 | cons x r ih=>
  obtain⟨k,g⟩:=x
  simp only[List.cons_append,oget] at ho⊢
  cases hb:Nat.beq k h with
  | true=>rw[hb] at ho;exact ho
  | false=>rw[hb] at ho;exact ih ho
theorem oset_app {st st':List (Nat×TO S)}{h:Nat}{o o':TO S}(ho:oget st h=some o):oset (st++st') h o'=oset st h o'++st':=by
 induction st with
 | nil=>cases ho
 | cons x r ih=>
  obtain⟨k,g⟩:=x
  simp only[List.cons_append,oget,oset] at ho⊢
  cases hb:Nat.beq k h with
  | true=>rfl
  | false=>rw[hb] at ho;simp only[cond_false,List.cons_append];rw[ih ho]
theorem stA_of {s:TSt S}{h:Nat}{o:TO S}(ho:oget s.st h=some o):oget s.stA h=some o:=oget_app ho
theorem set_er {s:TSt S}{h:Nat}{o o':TO S}(ho:oget s.st h=some o) (hl:o'.len=o.len):(s.set h o').er={fr:=s.er.fr,st:=sset s.er.st h (o'.er s.ln),df:=s.er.df}∧(s.set h o').ln=s.ln:=by
 have e0:(s.set h o').stA=oset s.stA h o':=(oset_app ho).symm
 have e:(s.set h o').ln=s.ln:=by show lnO (s.set h o').stA=lnO s.stA;rw[e0];exact lnO_oset (stA_of ho) hl
 refine⟨?_,e⟩
 show St.mk (erF (s.set h o').ln s.frA) (erS (s.set h o').ln (s.set h o').stA) (TV.er.go (s.set h o').ln s.df)=_
 rw[e,e0,erS_oset]
 rfl
def TV.kill (k:Nat) (v:TV S):TV S:=match v.has k with | true=>.any | false=>v
def killF (k:Nat):List (Nat×TV S)→List (Nat×TV S)
 | []=>[]
 | (t,v)::r=>(t,v.kill k)::killF k r
def TO.kill (k:Nat):TO S→TO S
 | .box e m cs=>.box e m (cs.map (TV.kill k))
 | .lp l n cs=>.lp l n (cs.map (TV.kill k))
 | o=>o
def killS (k:Nat):List (Nat×TO S)→List (Nat×TO S)
 | []=>[]
 | (t,o)::r=>(t,o.kill k)::killS k r
theorem kill_er (ln:Nat→Nat) (k:Nat) (v:TV S):(v.kill k).er ln=killG k (v.er ln):=by
 unfold TV.kill killG
 rw[has_er]
 cases v.has k <;> rfl
theorem kill_has (k:Nat) (v:TV S):(v.kill k).has k=false:=by
 unfold TV.kill
 cases h:v.has k with
 | true=>rfl
 | false=>exact h
theorem killF_er (ln:Nat→Nat) (k:Nat):∀fr:List (Nat×TV S),erF ln (killF k fr)=killFr k (erF ln fr)
 | []=>rfl
 | (t,v)::r=>by simp only[killF,erF,killFr,kill_er,killF_er ln k r]
theorem killF_has (k:Nat):∀fr:List (Nat×TV S),frHas k (killF k fr)=false
 | []=>rfl
 | (t,v)::r=>by simp only[killF,frHas,kill_has,killF_has k r,Bool.or_self]
theorem kill_goHas (k:Nat):∀cs:List (TV S),TV.has.go k (cs.map (TV.kill k))=false
 | []=>rfl
 | v::r=>by simp only[List.map_cons,TV.has.go,kill_has,kill_goHas k r,Bool.or_self]
theorem kill_goEr (ln:Nat→Nat) (k:Nat) (cs:List (TV S)):TV.er.go ln (cs.map (TV.kill k))=(TV.er.go ln cs).map (killG k):=by
 rw[er_go,er_go,List.map_map,List.map_map]
 exact List.map_congr_left fun v _=>kill_er ln k v
theorem killS_er (ln:Nat→Nat) (k:Nat):∀st:List (Nat×TO S),erS ln (killS k st)=killSt k (erS ln st)
 | []=>rfl
 | (t,o)::r=>by
  simp only[killS,erS,killSt,killS_er ln k r]
  congr 2
  cases o with
  | box e m cs=>simp only[TO.kill,TO.er,kill_goEr];rfl
  | arr e m f τ l=>rfl
  | lp l n cs=>simp only[TO.kill,TO.er,kill_goEr];rfl
  | deep=>rfl
theorem killS_has (k:Nat):∀st:List (Nat×TO S),stHas k (killS k st)=false
 | []=>rfl
 | (t,o)::r=>by
  simp only[killS,stHas,killS_has k r,Bool.or_false]
  cases o with
  | box e m cs=>exact kill_goHas k cs
  | arr e m f τ l=>rfl
  | lp l n cs=>exact kill_goHas k cs
  | deep=>rfl
theorem oget_killS {k h:Nat}:∀{st:List (Nat×TO S)},oget (killS k st) h=(oget st h).map (TO.kill k)
 | []=>rfl
 | (t,o)::r=>by
  simp only[killS,oget]
  cases Nat.beq t h with
  | true=>rfl
  | false=>exact oget_killS
theorem kill_len (k:Nat) (o:TO S):(o.kill k).len=o.len:=by cases o <;> rfl
theorem lnO_killS (k:Nat) (st:List (Nat×TO S)):lnO (killS k st)=lnO st:=by
 funext j
 unfold lnO
 rw[oget_killS]
 cases oget st j with
 | none=>rfl
 | some o=>exact kill_len k o
def TSt.renew (s:TSt S) (k:Nat) (o:TO S):TSt S:={s with fr:=killF k s.fr,st:=(k,o)::killS k s.st,last:=rmH k s.last}
theorem kill_id {k:Nat}{v:TV S}(h:v.has k=false):v.kill k=v:=by unfold TV.kill;rw[h]
theorem killF_id {k:Nat}:∀{fr:List (Nat×TV S)},frHas k fr=false→killF k fr=fr
 | [],_=>rfl
 | (t,v)::r,h=>by
  simp only[frHas,Bool.or_eq_false_iff] at h
  simp only[killF,kill_id h.1,killF_id h.2]
theorem killL_id {k:Nat}:∀{l:List (TV S)},TV.has.go k l=false→l.map (TV.kill k)=l
 | [],_=>rfl
 | v::r,h=>by
  simp only[TV.has.go,Bool.or_eq_false_iff] at h
  simp only[List.map_cons,kill_id h.1,killL_id h.2]
theorem killS_id {k:Nat}:∀{st:List (Nat×TO S)},stHas k st=false→killS k st=st
 | [],_=>rfl
 | (t,o)::r,h=>by
  simp only[stHas,Bool.or_eq_false_iff] at h
  simp only[killS,killS_id h.2]
  have:o.kill k=o:=by
   cases o with
   | box e m cs=>simp only[TO.kill];rw[killL_id h.1]
   | arr e m f τ l=>rfl
   | lp l n cs=>simp only[TO.kill];rw[killL_id h.1]
   | deep=>rfl
  rw[this]
theorem killF_app (k:Nat):∀(fr fr':List (Nat×TV S)),killF k (fr++fr')=killF k fr++killF k fr'
 | [],_=>rfl
 | (t,v)::r,fr'=>by simp only[List.cons_append,killF,killF_app k r fr']
theorem killS_app (k:Nat):∀(st st':List (Nat×TO S)),killS k (st++st')=killS k st++killS k st'
 | [],_=>rfl
 | (t,v)::r,st'=>by simp only[List.cons_append,killS,killS_app k r st']
theorem renew_er {s:TSt S}{k:Nat}(o:TO S) (ho:o.has k=false) (hd:TV.has.go k s.df=false) (hlo:frHas k s.lo=false) (hls:stHas k s.lst=false):(s.renew k o).er={fr:=killFr k s.er.fr,st:=(k,o.er s.ln)::killSt k s.er.st,df:=s.er.df}∧AgreeLn s.ln (s.renew k o).ln k∧(s.renew k o).ln k=o.len:=by
 have hag:AgreeLn s.ln (s.renew k o).ln k:=by
  have:=lnO_cons (st:=killS k s.stA) k o
  rw[lnO_killS] at this
  have e:(s.renew k o).stA=(k,o)::killS k s.stA:=by
   show(k,o)::(killS k s.st++s.lst)=_
   unfold TSt.stA
   rw[killS_app,killS_id hls]
  show AgreeLn (lnO s.stA) (lnO (s.renew k o).stA) k
  rw[e]
  exact this
 have e1:(s.renew k o).stA=(k,o)::killS k s.stA:=by
  show(k,o)::(killS k s.st++s.lst)=_
  unfold TSt.stA
  rw[killS_app,killS_id hls]
 have e2:(s.renew k o).frA=killF k s.frA:=by
  show killF k s.fr++s.lo=_
  unfold TSt.frA
  rw[killF_app,killF_id hlo]
 refine⟨?_,hag,lnO_same k o⟩
 show St.mk (erF (s.renew k o).ln (s.renew k o).frA) (erS (s.renew k o).ln (s.renew k o).stA) (TV.er.go (s.renew k o).ln s.df)=St.mk _ _ _
 rw[e1,e2,←erF_agree hag _ (killF_has k s.frA),←go_agree hag s.df hd,killF_er]
 simp only[erS]
 rw[←erS_agree hag _ (killS_has k s.stA),←TO.er_agree hag o ho,killS_er]
 rfl
theorem oget_cons_other {k t:Nat}(o:TO S) (st:List (Nat×TO S)) (h:t≠k):oget ((k,o)::st) t=oget st t:=by
 simp only[oget]
 cases hb:Nat.beq k t with
 | true=>exact absurd (Nat.eq_of_beq_eq_true hb).symm h
 | false=>rfl
theorem LInv.add {s:TSt S}(h:LInv s){k:Nat}(o:TO S) (hf:s.free k=true):LInv (s.add k o):=by
 intro d hh x hm
 obtain⟨i,ety,m,f,τ,l,a,e1,e2,e3⟩:=h d hh x hm
 refine⟨i,ety,m,f,τ,l,a,e1,?_,e3⟩
 refine(oget_cons_other o s.stA ?_).trans e2
 intro e
 subst e
 rw[(free_spec hf).1] at e2
 cases e2
theorem LInv.set {s:TSt S}(h:LInv s){k:Nat}{o0:TO S}(hk:oget s.st k=some o0) (o:TO S):LInv (s.set k o):=by
 have e0:(s.set k o).stA=oset s.stA k o:=(oset_app hk).symm
 intro d hh x hm
 obtain⟨h1,h2⟩:=rmH_mem hm
 obtain⟨i,ety,m,f,τ,l,a,e1,e2,e3⟩:=h d hh x h1
 exact⟨i,ety,m,f,τ,l,a,e1,by rw[e0];exact(oget_oset_other h2).trans e2,e3⟩
theorem tget_killF {k t:Nat}{v:TV S}:∀{fr:List (Nat×TV S)},tget fr t=some v→tget (killF k fr) t=some (v.kill k)
 | [],h=>by cases h
 | (t',v')::r,h=>by
  simp only[tget,killF] at h⊢
  cases hb:Nat.beq t' t with
  | true=>rw[hb] at h;cases h;rfl
  | false=>rw[hb] at h;exact tget_killF h
theorem LInv.renew {s:TSt S}(h:LInv s) (k:Nat) (o:TO S) (hlo:frHas k s.lo=false) (hls:stHas k s.lst=false):LInv (s.renew k o):=by
 have q1:(s.renew k o).stA=(k,o)::killS k s.stA:=by
  show(k,o)::(killS k s.st++s.lst)=_
  unfold TSt.stA
  rw[killS_app,killS_id hls]
 have q2:(s.renew k o).frA=killF k s.frA:=by
  show killF k s.fr++s.lo=_
  unfold TSt.frA
  rw[killF_app,killF_id hlo]
 intro d hh x hm
 obtain⟨h1,h2⟩:=rmH_mem hm
 obtain⟨i,ety,m,f,τ,l,a,e1,e2,e3⟩:=h d hh x h1
 refine⟨i,ety,m,f,τ,l,a,?_,?_,e3⟩
 ·have:=tget_killF (k:=k) e1
  rw[q2]
  refine this.trans ?_
  unfold TV.kill TV.has
  have:Nat.beq hh k=false:=by
   cases hb:Nat.beq hh k with
   | true=>exact absurd (Nat.eq_of_beq_eq_true hb) h2
   | false=>rfl
  rw[this]
 ·rw[q1]
  refine(oget_cons_other o _ h2).trans ?_
  rw[oget_killS,e2];rfl
end
end Go.DN
/-
 DN,part H:steps of the proof alone;boxes,blocks,stores.
-/
namespace Go.DN
open Go.AM
def Gh (s t:St):Prop:=∀(N:Nat) (cx:Cx) (μ:Mu) (a:Act) (w:World),Rel N cx μ s a w→
 ∃μ',Rel N cx μ' t a w∧∀h k c m y,sget t.st h=some k→μ' h=some (c,m)→In y c m→∃k0 c0 m0,sget s.st h=some k0∧μ h=some (c0,m0)∧In y c0 m0
theorem Gh.same {s t:St}{μ μ':Mu}(h:∀h k b m,sget t.st h=some k→μ' h=some (b,m)→∃k0,sget s.st h=some k0∧μ h=some (b,m)):
  ∀h k c m y,sget t.st h=some k→μ' h=some (c,m)→In y c m→∃k0 c0 m0,sget s.st h=some k0∧μ h=some (c0,m0)∧In y c0 m0:=
 fun x k c m y h1 h2 h3=>let ⟨k0,h4,h5⟩:=h x k c m h1 h2;⟨k0,c,m,h4,h5,h3⟩
theorem Gh.refl (s:St):Gh s s:=fun _ _ μ _ _ hr=>⟨μ,hr,Gh.same fun h k b m h1 h2=>⟨k,h1,h2⟩⟩
theorem Gh.trans {a b c:St}(h:Gh a b) (h':Gh b c):Gh a c:=fun N cx μ ac w hr=>by
 obtain⟨μ1,h1,h2⟩:=h N cx μ ac w hr
 obtain⟨μ2,h3,h4⟩:=h' N cx μ1 ac w h1
 refine⟨μ2,h3,fun x k c m y h5 h6 h7=>?_⟩
 obtain⟨k0,c0,m0,h8,h9,h10⟩:=h4 x k c m y h5 h6 h7
 exact h2 x k0 c0 m0 y h8 h9 h10
theorem Gh.sub {s t:St}(h:Sub s t):Gh s t:=fun N cx μ a w hr=>⟨μ,hr.sub h,Gh.same fun x k b m h1 h2=>⟨k,h.2.1.get h1,h2⟩⟩
theorem Gh.of {s t:St}(h:∀(N:Nat) (cx:Cx) (μ:Mu) (a:Act) (w:World),Rel N cx μ s a w→Rel N cx μ t a w) (hd:∀x k,sget t.st x=some k→∃k0,sget s.st x=some k0):Gh s t:=fun N cx μ a w hr=>
 ⟨μ,h N cx μ a w hr,Gh.same fun x k b m h1 h2=>let ⟨k0,h3⟩:=hd x k h1;⟨k0,h3,h2⟩⟩
section
variable {P:Program}{N:Nat}{cx:Cx}{ops:Array Oper}{Q:Exit→St→Prop}{s t:St}
theorem GW.gh {c:Code}(h:Gh s t) (k:GW P N cx c Q t):GW P N cx c Q s:=fun μ a w hr=>by
 obtain⟨μ',h1,_⟩:=h N cx μ a w hr
 exact k μ' a w h1
theorem GL.gh {rest:List Oper}(h:Gh s t) (k:GL P N cx ops Q rest t):GL P N cx ops Q rest s:=fun μ a w hr=>by
 obtain⟨μ',h1,_⟩:=h N cx μ a w hr
 exact k μ' a w h1
theorem GH2.gh {W:List Nat}{fuel:Nat}{listed:Array Bool}(h:Gh s t) (k:GH2 P N cx ops Q W fuel listed t):GH2 P N cx ops Q W fuel listed s:=fun ws Wb μ a w hr hS hW=>by
 obtain⟨μ',h1,h2⟩:=h N cx μ a w hr
 refine k ws Wb μ' a w h1 hS fun x k c m y h3 h4 h5 h6=>?_
 obtain⟨k0,c0,m0,h7,h8,h9⟩:=h2 x k c m y h4 h5 h6
 exact hW x k0 c0 m0 y h3 h7 h8 h9
end
section
variable {S:Sig}
def EfOk (P:Program) (W:List Nat) (s:TSt S) (o:Oper){A:Type}(k:TSt S→Option A) (r:A):Prop:=
 ∃T:St→Prop,Effect P W s.er o T∧∀s',T s'→∃t:TSt S,Gh s' t.er∧LInv t∧Keep s t∧k t=some r
theorem EfOk.one {P:Program}{W:List Nat}{s:TSt S}{o:Oper}{A:Type}{k:TSt S→Option A}{r:A}{s1:St}(t:TSt S) (he:Effect P W s.er o (·=s1)) (hg:Gh s1 t.er) (hl:LInv t) (hkp:Keep s t) (hk:k t=some r):EfOk P W s o k r:=
 ⟨_,he,fun s' e=>by subst e;exact⟨t,hg,hl,hkp,hk⟩⟩
theorem go_er_has {k:Nat}(v:TV S) (h:v.has k=false):TV.has.go k (tcells v)=false:=by
 cases v with
 | dat f τ a=>
  cases τ with
  | st n=>
   show TV.has.go k (split f n a)=false
   unfold split
   generalize S.cells n a=l
   induction l with
   | nil=>rfl
   | cons x r ih=>simp only[List.map_cons,TV.has.go,TV.has,Bool.false_or];exact ih
  | _=>rfl
 | agg l=>exact h
 | _=>simpa[tcells,TV.has.go] using h
def oneV:TV S→Bool
 | .dat _ τ _=>!τ.isSt
 | .val u=>u.oneCell'
 | .agg _=>false
 | .tup _=>false
 | .any=>false
 | _=>true
theorem oneV_one {v:TV S}(h:oneV v=true) (ln:Nat→Nat):(v.er ln).one=true:=by
 cases v with
 | dat f τ a=>cases τ with
  | st n=>cases h
  | _=>cases f <;> rfl
 | ptr f τ a=>cases f <;> rfl
 | kpo b h τ i j=>cases b <;> rfl
 | lpo b h off=>cases b <;> rfl
 | val u=>exact h
 | agg l=>cases h
 | tup l=>cases h
 | any=>cases h
 | _=>rfl
def onesV:List (TV S)→Bool
 | []=>true
 | v::r=>oneV v&&onesV r
theorem onesV_ones (ln:Nat→Nat):∀{l:List (TV S)},onesV l=true→(TV.er.go ln l).all G.one=true
 | [],_=>rfl
 | v::r,h=>by
  simp only[onesV,Bool.and_eq_true] at h
  simp only[TV.er.go,List.all_cons,oneV_one h.1 ln,onesV_ones ln h.2,Bool.and_self]
section
variable {P:Program}{W:List Nat}{s:TSt S}{ty:TypeId}{pos:String}{after:Array Edge}{guard:Option (Nat×Bool)}{A:Type}{k:TSt S→Option A}{r:A}
def boxC (s:TSt S) (d:Nat) (t:TypeId) (x:Operand){A:Type}(k:TSt S→Option A):Option A:=
 match s.free (s.hnd d) with
 | true=>match tev s x with
  | some v=>match okV v with
   | true=>k ((s.add (s.hnd d) (.box t true (tcells v))).put d (.loc (s.hnd d) 0))
   | false=>none
  | none=>none
 | false=>none
theorem boxC_ok {d:Nat}{t:TypeId}{x:Operand}(hl:LInv s) (h:boxC s d t x k=some r):EfOk P W s ⟨some d,.box t x,ty,pos,after,guard⟩ k r:=by
 unfold boxC at h
 split at h
 ·rename_i hf
  split at h
  ·rename_i v hv
   split at h
   ·rename_i ho
    have hn:TV.has.go (s.hnd d) (tcells v)=false:=go_er_has v (tev_has hv (free_spec hf).2.1)
    obtain⟨e1,_⟩:=add_er hf (.box t true (tcells v)) hn
    refine .one _ (EF.box (s.hnd d) (tev_ok hv) (okV_gok ho s.ln) (free_fresh hf)) ?_ ((hl.add _ hf).put _ _) ⟨rfl,rfl,rfl⟩ h
    rw[put_er,e1]
    rw[okV_cells ho s.ln]
    exact Gh.refl _
   ·cases h
  ·cases h
 ·cases h
def allocC (P:Program) (s:TSt S) (d:Nat) (t:TypeId){A:Type}(k:TSt S→Option A):Option A:=
 match s.free (s.hnd d) with
 | true=>match (P.info? t).bind (·.zero) with
  | some z=>k ((s.add (s.hnd d) (.box t true (z.cells.toList.map tvK))).put d (.loc (s.hnd d) 0))
  | none=>none
 | false=>none
theorem tvK_goHas (k:Nat) (l:List Value):TV.has.go k (l.map (tvK (S:=S)))=false:=by
 induction l with
 | nil=>rfl
 | cons v r ih=>simp only[List.map_cons,TV.has.go,ih,Bool.or_false];cases v <;> rfl
theorem tvK_goEr (ln:Nat→Nat) (l:List Value):TV.er.go ln (l.map (tvK (S:=S)))=l.map .val:=by
 rw[er_go,List.map_map]
 exact List.map_congr_left fun v _=>tvK_er ln v
theorem zero_run {t:TypeId}{z:Value}(h:(P.info? t).bind (·.zero)=some z):∀w,(zeroValue t).run P w=.ok z w:=by
 intro w
 cases hi:P.info? t with
 | none=>rw[hi] at h;cases h
 | some i=>
  rw[hi] at h
  have h:i.zero=some z:=h
  simp[zeroValue,typeInfo,hi,h]
theorem allocC_ok {d:Nat}{t:TypeId}(hl:LInv s) (h:allocC P s d t k=some r):EfOk P W s ⟨some d,.alloc t,ty,pos,after,guard⟩ k r:=by
 unfold allocC at h
 split at h
 ·rename_i hf
  split at h
  ·rename_i z hz
   obtain⟨e1,_⟩:=add_er hf (.box t true (z.cells.toList.map tvK)) (tvK_goHas _ _)
   refine .one _ (EF.alloc (s.hnd d) (zero_run hz) (free_fresh hf)) ?_ ((hl.add _ hf).put _ _) ⟨rfl,rfl,rfl⟩ h
   rw[put_er,e1]
   simp only[TO.er,tvK_goEr]
   exact Gh.refl _
  ·cases h
 ·cases h
def zeroT (τ:Ty) (z:Value):Option (S.D τ):=
 match τ with
 | .st n=>match tas (.st n) (.agg (z.cells.toList.map tvK)) with
  | some x=>some x.2
  | none=>none
 | τ=>match tas1 τ (tvK z) with
  | some x=>match z.cells.toList with
   | [_]=>some x.2
   | _=>none
  | none=>none
theorem tas1_K {τ:Ty}{u:Value}{f:Bool}{a:S.D τ}(h:tas1 τ (tvK u)=some (f,a)):viewV u=cellG S τ a:=by
 unfold tas1 at h
 split at h
 ·rename_i f' τ' a' e
  split at h
  ·cases h
  ·split at h
   ·rename_i b hb
    cases h
    have:=castT_some hb
    cases this
    cases u <;> simp only[tvK] at e <;> cases e <;> rfl
   ·cases h
 ·rename_i e
  split at h
  ·cases h
   cases u <;> simp only[tvK] at e <;> cases e
   rfl
  ·cases h
 ·cases h
theorem tasL_K:∀{ts:List Ty}{us:List Value}{f:Bool}{l:List (Leaf S.α)},tasL ts (us.map tvK)=some (f,l)→us.map viewV=l.map fun x=>cellG S x.τ x.a
 | [],[],_,_,h=>by cases h;rfl
 | τ::ts,u::us,f,l,h=>by
  simp only[List.map_cons,tasL] at h
  split at h
  ·rename_i f1 a h1
   split at h
   ·rename_i g l' h2
    cases h
    simp only[List.map_cons,tas1_K h1,tasL_K h2]
   ·cases h
  ·cases h
 | [],_::_,_,_,h=>by cases h
 | _::_,[],_,_,h=>by cases h
theorem zeroT_ok {τ:Ty}{z:Value}{a:S.D τ}(h:zeroT τ z=some a):z.cells.toList.map viewV=encT S τ a∧z.cells.size=S.sz τ:=by
 have key:z.cells.toList.map viewV=encT S τ a:=by
  unfold zeroT at h
  split at h
  ·rename_i n
   split at h
   ·rename_i x hx
    cases h
    unfold tas at hx
    dsimp only at hx
    split at hx
    ·rename_i f l h1
     split at hx
     ·rename_i a h2
      cases hx
      rw[enc_st,S.put_cells _ _ _ h2]
      exact tasL_K h1
     ·cases hx
    ·cases hx
   ·cases h
  ·rename_i hns
   split at h
   ·rename_i x hx
    obtain⟨f,x⟩:=x
    split at h
    ·rename_i u hu
     cases h
     have hs:τ.isSt=false:=by
      cases τ with
      | st n=>exact absurd rfl (hns n)
      | _=>rfl
     have hzu:z=u:=by
      have h3:=(tas1_K hx)
      cases z with
      | agg cs=>simp[tvK,tas1] at hx
      | _=>simpa[Value.cells] using hu
     rw[hu,List.map_cons,List.map_nil,cellG_eq S hs,←hzu,tas1_K hx]
    ·cases h
   ·cases h
 refine⟨key,?_⟩
 have:=congrArg List.length key
 rw[List.length_map,encT_len,Array.length_toList] at this
 exact this
def makeC (P:Program) (s:TSt S) (d:Nat) (t:TypeId) (x y:Operand){A:Type}(k:TSt S→Option A):Option A:=
 match s.free (s.hnd d) with
 | true=>match P.underlying t with
  | some (.slice e)=>match S.tyS e with
   | some τ=>match P.info? e with
    | some i=>match i.zero with
     | some z=>match zeroT τ z with
      | some a=>match tev s x with
       | some (.dat _ (.int _) n)=>match tev s y with
        | some (.dat _ (.int _) c)=>match decEq i.size (S.sz τ) with
         | isTrue _=>(chk (0≤n∧n≤c∧(i.bytes:Int)*c≤281474976710656∧c≤9223372036854775807)).bind fun _=>
          k ((s.add (s.hnd d) (.arr e true true τ (List.replicate (Int.toNat n) a))).put d (.osl (s.hnd d) τ))
         | isFalse _=>none
        | _=>none
       | _=>none
      | none=>none
     | none=>none
    | none=>none
   | none=>none
  | _=>none
 | false=>none
theorem makeC_ok {d:Nat}{t:TypeId}{x y:Operand}(hl:LInv s) (h:makeC P s d t x y k=some r):EfOk P W s ⟨some d,.makeSlice t x y,ty,pos,after,guard⟩ k r:=by
 unfold makeC at h
 split at h
 ·rename_i hf
  split at h
  ·rename_i e hu
   split at h
   ·rename_i τ _
    split at h
    ·rename_i i hi
     split at h
     ·rename_i z hz
      split at h
      ·rename_i a ha
       split at h
       ·rename_i n hx
        split at h
        ·rename_i c hy
         split at h
         ·rename_i hs _
          obtain⟨u,hc,h⟩:=bind_some h
          obtain⟨c1,c2,c3,c4⟩:=chk_spec hc
          obtain⟨z1,z2⟩:=zeroT_ok ha
          obtain⟨e1,hag⟩:=add_er hf (.arr e true true τ (List.replicate (Int.toNat n) a)) rfl
          letI:=encI S τ
          refine .one _ (ET.makeC (α:=S.D τ) (x:=a) (sz:=S.sz τ) (bt:=i.bytes) (s.hnd d) (evI hx) (evI hy) hu (by rw[hi,Option.map_some,hz,hs]) z2 rfl z1 c1 c2 c3 c4 (free_fresh hf)) ?_ ((hl.add _ hf).put _ _) ⟨rfl,rfl,rfl⟩ h
          rw[put_er,e1]
          have e2:(TV.osl (s.hnd d) τ:TV S).er (s.add (s.hnd d) (.arr e true true τ (List.replicate (Int.toNat n) a))).ln=.osl (s.hnd d) (S.sz τ) 0 (List.replicate (Int.toNat n) a).length:=by
           show G.osl _ _ _ ((s.add (s.hnd d) _).ln (s.hnd d))=_
           rw[show(s.add (s.hnd d) (.arr e true true τ (List.replicate (Int.toNat n) a))).ln (s.hnd d)=_ from lnO_same _ _]
           rfl
          rw[e2]
          exact Gh.refl _
         ·cases h
        ·cases h
       ·cases h
      ·cases h
     ·cases h
    ·cases h
   ·cases h
  ·cases h
 ·cases h
end
end
end Go.DN
/-
 DN,part I:values as plain data,cell by cell;slices built;stores.
-/
namespace Go.DN
open Go.AM
def Pl (m:G):Prop:=(∃u,m=.val u)∨(∃n cs,m=.sl n cs)∨∃b,m=.ifc b
theorem frB_imm {O:Nat→Prop}{base:Nat}{w:World}{μ:Mu}{f:Bool}{m:G}{v:Value}(hm:Pl m) (h:RepV O base w μ (frB f m) v):RepI (bif f then Old O base else O) w m v:=by
 rcases hm with ⟨u,rfl⟩ | ⟨n,cs,rfl⟩ | ⟨b,rfl⟩
 ·have:frB f (.val u)=.val u:=by cases f <;> rfl
  rw[this] at h
  cases h with
  | imm h=>cases h;exact .val _
 ·cases f with
  | true=>cases h with
   | imm h=>cases h
   | fr h=>exact h
  | false=>cases h with
   | imm h=>exact h
 ·cases f with
  | true=>cases h with
   | imm h=>cases h
   | fr h=>exact h
  | false=>cases h with
   | imm h=>exact h
theorem Pl.one {m:G}(hm:Pl m):∀{g:G}(f:Bool),g.one=true→True:=fun _ _=>trivial
section
variable {S:Sig}
theorem cell_Pl {τ:Ty}(h:τ.isSt=false) (a:S.D τ):Pl (cellG S τ a):=by
 cases τ with
 | st n=>cases h
 | list t=>exact .inr (.inl ⟨_,_,rfl⟩)
 | ifc=>exact .inr (.inr ⟨_,rfl⟩)
 | _=>exact .inl ⟨_,rfl⟩
theorem enc_Pl (τ:Ty) (a:S.D τ):∀m∈encT S τ a,Pl m:=by
 intro m hm
 cases τ with
 | st n=>
  rw[enc_st] at hm
  obtain⟨x,hx,rfl⟩:=List.mem_map.1 hm
  exact cell_Pl (cells_one n a x hx) x.a
 | _=>rw[cellG_eq S rfl] at hm;simp at hm;subst hm;exact cell_Pl rfl a
theorem encs_Pl (τ:Ty) (l:List (S.D τ)):∀m∈List.flatMap (encT S τ) l,Pl m:=by
 intro m hm
 obtain⟨a,_,h⟩:=List.mem_flatMap.1 hm
 exact enc_Pl τ a m h
def RWs (gs:List G) (f:Bool) (ms:List G):Prop:=gs.length=ms.length∧∀(j:Nat) (m:G),ms[j]?=some m→∃g,gs[j]?=some g∧RW g (frB f m)
theorem RWs.flag {gs ms:List G}{f f':Bool}(h:RWs gs f ms) (hf:f'=true→f=true):RWs gs f' ms:=⟨h.1,fun j m hm=>let ⟨g,h1,h2⟩:=h.2 j m hm;⟨g,h1,h2.trans (RW.frB _ _ _ hf)⟩⟩
theorem RWs.append {gs ms gs' ms':List G}{f:Bool}(h:RWs gs f ms) (h':RWs gs' f ms'):RWs (gs++gs') f (ms++ms'):=by
 refine⟨by simp[h.1,h'.1],fun j m hm=>?_⟩
 rw[List.getElem?_append] at hm⊢
 rw[h.1]
 split at hm
 ·rename_i hj;rw[if_pos hj];exact h.2 j m hm
 ·rename_i hj;rw[if_neg hj];exact h'.2 _ m hm
theorem tas_cells {τ:Ty}{v:TV S}{f:Bool}{a:S.D τ}(h:tas τ v=some (f,a)) (ln:Nat→Nat):RWs (gcells (v.er ln)) f (encT S τ a):=by
 unfold tas at h
 split at h
 ·rename_i f' τ' a'
  split at h
  ·rename_i b hb
   cases h
   have:=castT_some hb
   cases this
   cases τ with
   | st n=>
    have e:(f'||(Ty.st n).scal)=f':=by cases f' <;> rfl
    rw[e]
    refine⟨by show((encT S (.st n) a).map (frB f')).length=_;rw[List.length_map],fun j m hm=>⟨frB f' m,?_,RW.refl _⟩⟩
    show((encT S (.st n) a).map (frB f'))[j]?=_
    rw[List.getElem?_map,hm];rfl
   | list t=>
    have e:(f'||(Ty.list t).scal)=f':=by cases f' <;> rfl
    rw[e,cellG_eq S rfl]
    refine⟨by cases f' <;> rfl,fun j m hm=>⟨frB f' m,?_,RW.refl _⟩⟩
    cases j with
    | zero=>cases hm;cases f' <;> rfl
    | succ j=>cases hm
   | ifc=>
    have e:(f'||Ty.ifc.scal)=f':=by cases f' <;> rfl
    rw[e,cellG_eq S rfl]
    refine⟨by cases f' <;> rfl,fun j m hm=>⟨frB f' m,?_,RW.refl _⟩⟩
    cases j with
    | zero=>cases hm;cases f' <;> rfl
    | succ j=>cases hm
   | _=>
    rw[cellG_eq S rfl]
    refine⟨by cases f' <;> rfl,fun j m hm=>⟨frB f' m,?_,?_⟩⟩
    ·cases j with
     | zero=>cases hm;cases f' <;> rfl
     | succ j=>cases hm
    ·cases j with
     | zero=>cases hm;cases f' <;> exact RW.refl _
     | succ j=>cases hm
  ·cases h
 ·split at h
  ·cases h
   refine⟨rfl,fun j m hm=>⟨.val (.slice none 0 0),?_,?_⟩⟩
   ·cases j with
    | zero=>rfl
    | succ j=>cases hm
   ·cases j with
    | zero=>cases hm;exact RW.nil
    | succ j=>cases hm
  ·cases h
 ·split at h
  ·rename_i _ vs _ n
   split at h
   ·rename_i f1 l h1
    split at h
    ·rename_i a1 h2
     cases h
     obtain⟨i1,i2⟩:=tasL_ok ln h1
     have h3:=S.put_cells n l a h2
     rw[enc_st,h3]
     show RWs (TV.er.go ln vs) _ _
     rw[er_go]
     refine⟨by simp[i1],fun j m hm=>?_⟩
     rw[List.getElem?_map] at hm
     obtain⟨x,hx,rfl⟩:=Option.map_eq_some_iff.1 hm
     obtain⟨v,h4,h5⟩:=i2 j x hx
     exact⟨v.er ln,by rw[List.getElem?_map,h4];rfl,h5⟩
    ·cases h
   ·cases h
  ·cases h
 ·cases h
theorem Gh.pure {s:St}{h:Nat}{k:Blk}{cs:List G}{f:Bool}(hk:sget s.st h=some k) (hp:k.pure=false) (hlp:k.lp=none) (hpl:∀m∈cs,Pl m) (hc:RWs k.cells f cs):
  Gh s {fr:=s.fr,st:=sset s.st h {k with pure:=true,fresh:=f,cells:=cs},df:=s.df}:=by
 refine Gh.of (fun N cx μ a w hr=>hr.restate hk rfl rfl rfl (by dsimp only;rw[hc.1];exact Nat.le_refl _) hlp hlp fun j g' hg'=>?_) fun x k1 hx=>?_
 ·obtain⟨g,h1,h2⟩:=hc.2 j g' hg'
  refine⟨g,h1,fun v hv=>?_⟩
  unfold RepC at hv⊢
  rw[hp] at hv
  exact frB_imm (hpl g' (List.mem_of_getElem? hg')) (h2 _ _ _ _ _ hv)
 ·rcases sget_sset_iff hk hx with ⟨e,_⟩ | ⟨_,h1⟩
  ·subst e;exact⟨k,hk⟩
  ·exact⟨k1,h1⟩
def tasA (τ:Ty):List (TV S)→Option (Bool×List (S.D τ))
 | []=>some (true,[])
 | v::r=>match okV v with
  | true=>match tas τ v with
   | some (f,a)=>match tasA τ r with
    | some (g,l)=>some (f&&g,a::l)
    | none=>none
   | none=>none
  | false=>none
theorem tasA_ok {τ:Ty}(ln:Nat→Nat):∀{vs:List (TV S)}{f:Bool}{l:List (S.D τ)},tasA τ vs=some (f,l)→
  okCells (S.sz τ) (TV.er.go ln vs)=true∧l.length=vs.length∧RWs ((TV.er.go ln vs).flatMap gcells) f (List.flatMap (encT S τ) l)
 | [],_,_,h=>by cases h;exact⟨rfl,rfl,rfl,fun j m h=>by simp at h⟩
 | v::r,f,l,h=>by
  simp only[tasA] at h
  split at h
  ·rename_i ho
   split at h
   ·rename_i f1 a h1
    split at h
    ·rename_i g l' h2
     cases h
     obtain⟨i1,i2,i3⟩:=tasA_ok ln h2
     have h3:=tas_cells h1 ln
     refine⟨?_,by simp[i2],?_⟩
     ·simp only[TV.er.go,okCells,Bool.and_eq_true]
      refine⟨⟨okV_gok ho ln,?_⟩,i1⟩
      rw[h3.1,encT_len];exact Nat.beq_refl _
     ·simp only[TV.er.go,List.flatMap_cons]
      exact(h3.flag fun h=>by simp at h;exact h.1).append (i3.flag fun h=>by simp at h;exact h.2)
    ·cases h
   ·cases h
  ·cases h
def partsT (s:TSt S):List (Nat×Operand)→Nat→Option (List (TV S))
 | [],_=>some []
 | (i,x)::r,j=>match Nat.beq i j with
  | true=>match tev s x with
   | some v=>match partsT s r (j+1) with
    | some vs=>some (v::vs)
    | none=>none
   | none=>none
  | false=>none
theorem partsT_ok {s:TSt S}:∀{l:List (Nat×Operand)}{j:Nat}{vs:List (TV S)},partsT s l j=some vs→evs s.er l j=some (TV.er.go s.ln vs)
 | [],_,_,h=>by cases h;rfl
 | (i,x)::r,j,vs,h=>by
  simp only[partsT] at h
  split at h
  ·rename_i hb
   split at h
   ·rename_i v hv
    split at h
    ·rename_i vs' hr
     cases h
     simp only[evs,hb,tev_ok hv,partsT_ok hr,TV.er.go]
    ·cases h
   ·cases h
  ·cases h
section
variable {P:Program}{W:List Nat}{s:TSt S}{ty:TypeId}{pos:String}{after:Array Edge}{guard:Option (Nat×Bool)}{A:Type}{k:TSt S→Option A}{r:A}
def bslC (P:Program) (s:TSt S) (d:Nat) (t:TypeId) (n:Nat) (parts:Array (Nat×Operand)){A:Type}(k:TSt S→Option A):Option A:=
 match s.free (s.hnd d) with
 | true=>match P.underlying t with
  | some (.slice e)=>match S.tyS e with
   | some τ=>match P.info? e with
    | some i=>match i.zero with
     | some _=>match decEq i.size (S.sz τ) with
      | isTrue _=>match parts.toList with
       | []=>match n with
        | 0=>k ((s.add (s.hnd d) (.arr e true true τ [])).put d (.osl (s.hnd d) τ))
        | _=>none
       | p::ps=>match partsT s (p::ps) 0 with
        | some vs=>match tasA τ vs with
         | some (f,l)=>match Nat.beq vs.length n&&(Nat.ble (n*S.sz τ) 16777216&&Nat.blt 0 n) with
          | true=>k ((s.add (s.hnd d) (.arr e true f τ l)).put d (.osl (s.hnd d) τ))
          | false=>none
         | none=>none
        | none=>none
      | isFalse _=>none
     | none=>none
    | none=>none
   | none=>none
  | _=>none
 | false=>none
theorem osl_er {s:TSt S}{h:Nat}{e:TypeId}{m f:Bool}{τ:Ty}{l:List (S.D τ)}:(TV.osl h τ:TV S).er (s.add h (.arr e m f τ l)).ln=.osl h (S.sz τ) 0 l.length:=by
 show G.osl _ _ _ ((s.add h _).ln h)=_
 rw[show(s.add h (.arr e m f τ l)).ln h=_ from lnO_same _ _]
 rfl
theorem sset_head {h:Nat}{k k':Blk}{r:List (Nat×Blk)}:sset ((h,k)::r) h k'=(h,k')::r:=by
 simp only[sset,Nat.beq_refl,cond_true]
theorem bslC_ok {d:Nat}{t:TypeId}{n:Nat}{parts:Array (Nat×Operand)}(hl:LInv s) (h:bslC P s d t n parts k=some r):EfOk P W s ⟨some d,.buildSlice t n parts,ty,pos,after,guard⟩ k r:=by
 unfold bslC at h
 split at h
 ·rename_i hf
  split at h
  ·rename_i e hu
   split at h
   ·rename_i τ _
    split at h
    ·rename_i i hi
     split at h
     ·rename_i z hz
      split at h
      ·rename_i hs _
       have hinfo:(P.info? e).map (fun i=>(i.zero,i.size,i.bytes))=some (some z,S.sz τ,i.bytes):=by rw[hi,Option.map_some,hz,hs]
       split at h
       ·rename_i hp
        have:=toList0 hp
        subst this
        split at h
        ·obtain⟨e1,_⟩:=add_er hf (.arr e true true τ ([]:List (S.D τ))) rfl
         refine .one _ (EF.buildSlice0 (s.hnd d) hu hinfo (free_fresh hf)) ?_ ((hl.add _ hf).put _ _) ⟨rfl,rfl,rfl⟩ h
         rw[put_er,e1,osl_er]
         exact Gh.refl _
        ·cases h
       ·rename_i p ps hp
        split at h
        ·rename_i vs hv
         split at h
         ·rename_i f l ht
          split at h
          ·rename_i hc
           simp only[Bool.and_eq_true] at hc
           obtain⟨c1,c2,c3⟩:=hc
           have c1:=Nat.eq_of_beq_eq_true c1
           have c2:=Nat.le_of_ble_eq_true c2
           have c3:0<n:=by simpa[Nat.blt_eq] using c3
           obtain⟨i1,i2,i3⟩:=tasA_ok s.ln ht
           obtain⟨e1,_⟩:=add_er hf (.arr e true f τ l) rfl
           refine .one _ (EF.buildSlice (sz:=S.sz τ) (z:=z) (bt:=i.bytes) (s.hnd d) (gs:=TV.er.go s.ln vs) (by rw[hp];exact partsT_ok hv) (by rw[er_go,List.length_map,c1]) hu hinfo (Nat.mul_pos c3 (sz_pos S τ)) c2 i1 (free_fresh hf)) ?_ ((hl.add _ hf).put _ _) ⟨rfl,rfl,rfl⟩ h
           rw[put_er,e1,osl_er,i2,c1]
           have:=Gh.pure (s:={fr:=(d,.osl (s.hnd d) (S.sz τ) 0 n)::s.er.fr,st:=(s.hnd d,⟨e,false,true,false,S.sz τ,(TV.er.go s.ln vs).flatMap gcells,none⟩)::s.er.st,df:=s.er.df}) (h:=s.hnd d)
            (sget_cons_same _ _ _) rfl rfl (encs_Pl τ l) i3
           rw[sset_head] at this
           exact this
          ·cases h
         ·cases h
        ·cases h
      ·cases h
     ·cases h
    ·cases h
   ·cases h
  ·cases h
 ·cases h
end
end
end Go.DN
/-
 DN,part J:stores.
-/
namespace Go.DN
open Go.AM
section
variable {P:Program}{W:List Nat}{s:St}{ty:TypeId}{pos:String}{after:Array Edge}{guard:Option (Nat×Bool)}
theorem EF.storeNP {t:TypeId}{x y:Operand}{h off sz:Nat}{k:Blk}{g:G}{gs ms cells':List G}{f:Bool}(hx:ev s x=some (.loc h off)) (hy:ev s y=some g) (hk:sget s.st h=some k) (hp:k.pure=true)
  (hok:gok g=true) (hgs:gcells g=gs) (hone:gs.all G.one=true) (hl:gs.length=sz) (hsz:∀w,(sizeOf t).run P w=.ok sz w) (hoff:off+sz≤k.cells.length) (hW:W.contains h=true)
  (hms:RWs gs f ms) (hpl:∀m∈ms,Pl m)
  (hc':k.cells.take off++ms++k.cells.drop (off+sz)=cells') (hlp:k.lp=none):
  Effect P W s ⟨none,.store t x y,ty,pos,after,guard⟩ (·={fr:=s.fr,st:=sset s.st h {k with fresh:=k.fresh&&f,cells:=cells'},df:=s.df}):=by
 refine Effect.skip rfl (fun _ h=>by cases h) ?_
 intro N cx μ a w hr
 obtain⟨b,m,e1,hm⟩:=hr.loc hx
 obtain⟨cs,h1,h2,h3,h4,hbt,h5⟩:=hr.own hk hm hlp
 obtain⟨hvl,hvc⟩:=(hr.ev hy).cells hok
 rw[hgs] at hvl hvc
 have hml:ms.length=sz:=hms.1▸hl
 have hlen:(a.eval y).cells.toList.length=sz:=by rw[Array.length_toList,hvl,hl]
 have hrun:=run_storeCells_at P b off k.ety (a.eval y).cells.toList 0 cs w h1 (by rw[hlen];omega) (fun v hv=>by
  obtain⟨j,hj⟩:=List.getElem?_of_mem hv
  have hjl:j<gs.length:=by
   have:=(List.getElem?_eq_some_iff.1 hj).1
   omega
  obtain⟨u,hu,hru⟩:=hvc j gs[j] (List.getElem?_eq_getElem hjl)
  rw[Array.getElem?_toList] at hj
  rw[hj] at hu
  cases hu
  exact hru.one (List.all_eq_true.1 hone _ (List.getElem_mem hjl)))
 rw[Nat.add_zero,hlen] at hrun
 refine⟨μ,w.setRow b (cs.toList.take off++(a.eval y).cells.toList++cs.toList.drop (off+sz)).toArray,?_,?_⟩
 ·simp only[execOp,Instr.storeAt,Instr.sureAddr,e1,storeVar,hsz,Sem.run_bind,Sem.run_pure,Result.andThen_ok]
  rw[if_neg (by rw[hvl,hl];simp)]
  rw[hrun]
  rfl
 ·subst hc'
  refine hr.write (k':={k with fresh:=k.fresh&&f,cells:=k.cells.take off++ms++k.cells.drop (off+sz)}) hk hm (setRow_heap_same h1) ?_ (setRow_size _ _ _) (fun b' hb'=>setRow_other w b b' _ hb') rfl rfl rfl id ?_ hbt ?_ W hW hlp
  ·simp only[List.size_toArray,List.length_append,List.length_take,List.length_drop,Array.length_toList,hvl,hl];omega
  ·simp only[List.length_append,List.length_take,List.length_drop,hml];omega
  ·intro j g' hg'
   have hget:∀(j:Nat),(cs.toList.take off++(a.eval y).cells.toList++cs.toList.drop (off+sz)).toArray[j]?=if j<off then cs[j]? else if j<off+sz then(a.eval y).cells[j-off]? else cs[j]?:=by
    intro j
    rw[List.getElem?_toArray,List.append_assoc,List.getElem?_append,List.length_take,Array.length_toList,Nat.min_eq_left (by omega:off≤cs.size)]
    split
    ·rename_i hj;rw[List.getElem?_take,if_pos hj,Array.getElem?_toList]
    ·rw[List.getElem?_append,hlen]
     split
     ·rename_i hj1 hj2;rw[if_pos (by omega),Array.getElem?_toList]
     ·rename_i hj1 hj2;rw[if_neg (by omega),List.getElem?_drop,Array.getElem?_toList];congr 1;omega
   dsimp only at hg'
   rw[List.append_assoc,List.getElem?_append,List.length_take,Nat.min_eq_left (by omega:off≤k.cells.length)] at hg'
   rw[hget]
   split at hg'
   ·rename_i hj
    rw[if_pos hj]
    rw[List.getElem?_take,if_pos hj] at hg'
    obtain⟨v,hv,hrv⟩:=h5 j g' hg'
    refine⟨v,hv,?_⟩
    unfold RepC at hrv⊢
    dsimp only
    rw[hp] at hrv⊢
    exact hrv.flag fun h=>by simp at h;exact h.1
   ·rename_i hj
    rw[if_neg hj]
    rw[List.getElem?_append,hml] at hg'
    split at hg'
    ·rename_i hj2
     rw[if_pos (by omega)]
     obtain⟨g0,hg0,hw0⟩:=hms.2 _ g' hg'
     obtain⟨v,hv,hrv⟩:=hvc _ g0 hg0
     refine⟨v,hv,?_⟩
     unfold RepC
     dsimp only
     rw[hp]
     exact(frB_imm (hpl g' (List.mem_of_getElem? hg')) (hw0 _ _ _ _ _ hrv)).flag fun h=>by simp at h;exact h.2
    ·rename_i hj2
     rw[if_neg (by omega)]
     rw[List.getElem?_drop] at hg'
     have:off+sz+(j-off-sz)=j:=by omega
     rw[this] at hg'
     obtain⟨v,hv,hrv⟩:=h5 j g' hg'
     refine⟨v,hv,?_⟩
     unfold RepC at hrv⊢
     dsimp only
     rw[hp] at hrv⊢
     exact hrv.flag fun h=>by simp at h;exact h.1
end
section
variable {S:Sig}
theorem encs_lengthT (τ:Ty) (l:List (S.D τ)):(List.flatMap (encT S τ) l).length=l.length*S.sz τ:=@encs_length _ (encI S τ) l
theorem encs_takeT (τ:Ty) (l:List (S.D τ)) (n:Nat):(List.flatMap (encT S τ) l).take (n*S.sz τ)=List.flatMap (encT S τ) (l.take n):=@encs_take _ (encI S τ) l n
theorem encs_dropT (τ:Ty) (l:List (S.D τ)) (n:Nat):(List.flatMap (encT S τ) l).drop (n*S.sz τ)=List.flatMap (encT S τ) (l.drop n):=@encs_drop _ (encI S τ) l n
theorem encs_appendT (τ:Ty) (l m:List (S.D τ)):List.flatMap (encT S τ) (l++m)=List.flatMap (encT S τ) l++List.flatMap (encT S τ) m:=List.flatMap_append
theorem encs_setT (τ:Ty){l:List (S.D τ)}{i:Nat}{a b:S.D τ}(hi:l[i]?=some b):List.flatMap (encT S τ) (l.set i a)=(List.flatMap (encT S τ) l).take (i*S.sz τ)++encT S τ a++(List.flatMap (encT S τ) l).drop (i*S.sz τ+S.sz τ):=by
 have hlt:=(List.getElem?_eq_some_iff.1 hi).1
 rw[List.set_eq_take_append_cons_drop,if_pos hlt,encs_appendT,List.flatMap_cons,encs_takeT]
 have:i*S.sz τ+S.sz τ=(i+1)*S.sz τ:=by rw[Nat.add_mul,Nat.one_mul]
 rw[this,encs_dropT,List.append_assoc]
theorem encs_setJ (n:Nat){l:List (S.α n)}{i j:Nat}{a b:S.α n}{x:Leaf S.α}(hi:l[i]?=some b) (hj:j<(S.cells n b).length) (ha:S.cells n a=(S.cells n b).set j x):
  List.flatMap (encT S (.st n)) (l.set i a)=(List.flatMap (encT S (.st n)) l).take (i*S.sz (.st n)+j)++[cellG S x.τ x.a]++(List.flatMap (encT S (.st n)) l).drop (i*S.sz (.st n)+j+1):=by
 have hlt:=(List.getElem?_eq_some_iff.1 hi).1
 have hlen:(S.cells n b).length=S.sz (.st n):=by
  have:=congrArg List.length (S.tys_cells n b)
  rw[List.length_map] at this
  exact this
 have hsplit:List.flatMap (encT S (.st n)) l=List.flatMap (encT S (.st n)) (l.take i)++((S.cells n b).map (fun x=>cellG S x.τ x.a)++List.flatMap (encT S (.st n)) (l.drop (i+1))):=by
  have e:l=l.take i++b::l.drop (i+1):=by
   have:=(List.getElem?_eq_some_iff.1 hi).2
   rw[←this,List.getElem_cons_drop,List.take_append_drop]
  conv=>lhs;rw[e]
  rw[encs_appendT,List.flatMap_cons]
  show _++(encT S (.st n) b++_)=_
  rw[enc_st]
 have hset:List.flatMap (encT S (.st n)) (l.set i a)=List.flatMap (encT S (.st n)) (l.take i)++((S.cells n a).map (fun x=>cellG S x.τ x.a)++List.flatMap (encT S (.st n)) (l.drop (i+1))):=by
  rw[List.set_eq_take_append_cons_drop,if_pos hlt,encs_appendT,List.flatMap_cons]
  show _++(encT S (.st n) a++_)=_
  rw[enc_st]
 have hpre:(List.flatMap (encT S (.st n)) (l.take i)).length=i*S.sz (.st n):=by
  rw[encs_lengthT,List.length_take,Nat.min_eq_left (Nat.le_of_lt hlt)]
 rw[hset,hsplit,ha]
 generalize List.flatMap (encT S (.st n)) (l.take i)=pre at hpre
 generalize List.flatMap (encT S (.st n)) (l.drop (i+1))=post
 generalize S.cells n b=cb at hj
 have e1:(pre++(cb.map (fun x=>cellG S x.τ x.a)++post)).take (i*S.sz (.st n)+j)=pre++(cb.map (fun x=>cellG S x.τ x.a)).take j:=by
  rw[List.take_append,hpre,List.take_of_length_le (by omega),List.take_append]
  have:i*S.sz (.st n)+j-i*S.sz (.st n)=j:=by omega
  rw[this]
  have:j-(cb.map (fun x=>cellG S x.τ x.a)).length=0:=by rw[List.length_map];omega
  rw[this,List.take_zero,List.append_nil]
 have e2:(pre++(cb.map (fun x=>cellG S x.τ x.a)++post)).drop (i*S.sz (.st n)+j+1)=(cb.map (fun x=>cellG S x.τ x.a)).drop (j+1)++post:=by
  rw[List.drop_append,hpre,List.drop_of_length_le (by omega),List.nil_append,List.drop_append]
  have:i*S.sz (.st n)+j+1-i*S.sz (.st n)=j+1:=by omega
  rw[this]
  have:j+1-(cb.map (fun x=>cellG S x.τ x.a)).length=0:=by rw[List.length_map];omega
  rw[this,List.drop_zero]
 rw[e1,e2,List.map_set,List.set_eq_take_append_cons_drop,if_pos (by rw[List.length_map];exact hj)]
 simp only[List.append_assoc,List.cons_append,List.nil_append]
theorem cell_scal {τ:Ty}(hs:τ.scal=true) (x:S.D τ):∃u,cellG S τ x=.val u:=by
 cases τ with
 | list _=>cases hs
 | st _=>cases hs
 | ifc=>cases hs
 | _=>exact⟨_,rfl⟩
theorem dat_scal {f:Bool}{τ:Ty}(hs:τ.scal=true){x:S.D τ}{u:Value}(hu:cellG S τ x=.val u):datG f τ x=.val u:=by
 rw[←hu]
 cases τ with
 | list _=>cases hs
 | st _=>cases hs
 | ifc=>cases hs
 | _=>cases f <;> rfl
theorem dat_scalC {f:Bool}{τ:Ty}(hs:τ.scal=true){x:S.D τ}:tcells (TV.dat f τ x:TV S)=[.dat f τ x]:=by
 cases τ with
 | list _=>cases hs
 | st _=>cases hs
 | ifc=>cases hs
 | _=>rfl
def famSetC {A:Type}:(τ':Ty)→S.D τ'→Ty→Nat→Nat→TV S→(S.D τ'→Option A)→Option A
 | .list (.list t),ll,τ,i,j,vy,k=>match t.scal with
  | true=>match decEq τ t with
   | isTrue _=>match tas1 t vy with
    | some x=>(ll[i]?).bind fun r=>(chk (j<List.length r)).bind fun _=>k (List.set ll i (List.set r j x.2))
    | none=>none
   | isFalse _=>none
  | false=>none
 | _,_,_,_,_,_,_=>none
theorem famSetC_ok {A:Type}{r0:A}:∀{τ':Ty}{a:S.D τ'}{τ:Ty}{i j:Nat}{vy:TV S}{k:S.D τ'→Option A},famSetC τ' a τ i j vy k=some r0→
  ∃(u:Value) (n:Nat) (gs:List G) (a':S.D τ'),S.sz τ=1∧(∀ln,vy.er ln=.val u)∧tcells vy=[vy]∧(famRows τ' a).2[i]?=some (n,gs)∧j<gs.length∧k a'=some r0∧tlen τ' a'=tlen τ' a∧
   (famRows τ' a').1=(famRows τ' a).1∧(famRows τ' a').2=(famRows τ' a).2.set i (n,gs.set j (.val u))
 | .list (.list t),ll,τ,i,j,vy,k,h=>by
  simp only[famSetC] at h
  split at h
  ·rename_i hs
   split at h
   ·rename_i e _
    subst e
    split at h
    ·rename_i x hx
     obtain⟨r,h1,h⟩:=bind_some h
     obtain⟨_,h2,h⟩:=bind_some h
     have h2:=chk_spec h2
     obtain⟨f,x⟩:=x
     have hst:τ.isSt=false:=by cases τ <;> first | rfl | cases hs
     have hv:∃u,cellG S τ x=.val u∧(∀ln,vy.er ln=.val u)∧tcells vy=[vy]:=by
      unfold tas1 at hx
      split at hx
      ·split at hx
       ·cases hx
       ·rename_i hns
        split at hx
        ·rename_i b hb
         cases hx
         have:=castT_some hb
         cases this
         obtain⟨u,hu⟩:=cell_scal hs x
         exact⟨u,hu,fun _=>dat_scal hs hu,dat_scalC hs⟩
        ·cases hx
      ·split at hx
       ·cases hs
       ·cases hx
      ·cases hx
     obtain⟨u,hu,hv1,hv2⟩:=hv
     have hsz:S.sz τ=1:=by cases τ <;> first | rfl | cases hs
     have hone:∀l:List (S.D τ),List.flatMap (encT S τ) l=l.map (cellG S τ):=by
      intro l
      induction l with
      | nil=>rfl
      | cons y r ih=>rw[List.flatMap_cons,ih,cellG_eq S hst];rfl
     refine⟨u,List.length r,List.flatMap (encT S τ) r,_,hsz,hv1,hv2,by show(List.map _ ll)[i]?=_;rw[List.getElem?_map,h1];rfl,?_,h,?_,rfl,?_⟩
     ·rw[hone,List.length_map];exact h2
     ·show(List.set ll i _).length=ll.length
      exact List.length_set
     ·show List.map _ (List.set ll i _)=List.set (List.map _ ll) i _
      rw[List.map_set]
      congr 1
      show(List.length (List.set r j x),List.flatMap (encT S τ) (List.set r j x))=_
      rw[List.length_set,hone,hone,List.map_set,hu]
    ·cases h
   ·cases h
  ·cases h
 | .list (.int _),_,_,_,_,_,_,h=>by cases h
 | .list .bool,_,_,_,_,_,_,h=>by cases h
 | .list .ifc,_,_,_,_,_,_,h=>by cases h
 | .list .str,_,_,_,_,_,_,h=>by cases h
 | .list (.st _),_,_,_,_,_,_,h=>by cases h
 | .int _,_,_,_,_,_,_,h=>by cases h
 | .bool,_,_,_,_,_,_,h=>by cases h
 | .ifc,_,_,_,_,_,_,h=>by cases h
 | .str,_,_,_,_,_,_,h=>by cases h
 | .st _,_,_,_,_,_,_,h=>by cases h
def putI (ki:IntKind) (l:List Int) (i:Nat) (v:Int):List (TV S):=(List.range l.length).map fun m=>.dat true (.int ki) ((l.set i v).getD m 0)
theorem putI_er (ki:IntKind) (cs:List (TV S)) (j i:Nat) (v:Int) (hi:i<(intsB ki (cs.drop j)).length) (ln:Nat→Nat):
  (cs.take j++putI ki (intsB ki (cs.drop j)) i v++cs.drop (j+(intsB ki (cs.drop j)).length)).map (TV.er ln)=(cs.map (TV.er ln)).set (j+i) (.val (.int ki v)):=by
 generalize hl:intsB ki (cs.drop j)=l at hi
 have hg:∀m,m<l.length→∃f,cs[j+m]?=some (.dat f (.int ki) (l.getD m 0)):=fun m hm=>by
  have h1:(intsB ki (cs.drop j))[m]?=some (l.getD m 0):=by rw[hl,List.getD_eq_getElem?_getD,List.getElem?_eq_getElem hm];rfl
  obtain⟨f,h2⟩:=intsB_get h1
  exact⟨f,by rwa[List.getElem?_drop] at h2⟩
 have hjl:j+l.length≤cs.length:=by
  obtain⟨f,h⟩:=hg (l.length-1) (by omega)
  have:=(List.getElem?_eq_some_iff.1 h).1
  omega
 have htl:(cs.take j).length=j:=by rw[List.length_take];omega
 have hpl:(putI (S:=S) ki l i v).length=l.length:=by unfold putI;simp
 apply List.ext_getElem?
 intro q
 rw[List.getElem?_map,List.getElem?_set,List.length_map]
 by_cases h1:q<j
 ·rw[List.getElem?_append_left (by rw[List.length_append,htl];omega),List.getElem?_append_left (by omega),List.getElem?_take,if_pos h1,if_neg (by omega),List.getElem?_map]
 ·by_cases h2:q<j+l.length
  ·obtain⟨m,rfl⟩:∃m,q=j+m:=⟨q-j,by omega⟩
   have hm:m<l.length:=by omega
   rw[List.getElem?_append_left (by rw[List.length_append,htl,hpl];omega),List.getElem?_append_right (by omega),htl,show j+m-j=m by omega]
   unfold putI
   rw[List.getElem?_map,List.getElem?_range hm,Option.map_some,Option.map_some]
   show some (datG true (.int ki) _)=_
   rw[datG_int]
   by_cases h3:m=i
   ·subst h3
    rw[if_pos rfl,if_pos (by omega),List.getD_eq_getElem?_getD,List.getElem?_set_self hm]
    rfl
   ·rw[if_neg (by omega),List.getD_eq_getElem?_getD,List.getElem?_set_ne (fun e=>h3 e.symm),←List.getD_eq_getElem?_getD]
    obtain⟨f,h4⟩:=hg m hm
    rw[List.getElem?_map,h4]
    exact congrArg some (datG_int f ki _).symm
  ·rw[List.getElem?_append_right (by rw[List.length_append,htl,hpl];omega),List.length_append,htl,hpl,List.getElem?_drop,show j+l.length+(q-(j+l.length))=q by omega,if_neg (by omega),List.getElem?_map]
def intV (ki:IntKind):TV S→Option Int
 | .dat _ (.int k) a=>match decEq k ki with
  | isTrue _=>some a
  | isFalse _=>none
 | _=>none
theorem intV_ok {ki:IntKind}{v:TV S}{a:Int}(h:intV ki v=some a):∃f,v=.dat f (.int ki) a:=by
 unfold intV at h
 split at h
 ·rename_i f k b
  split at h
  ·rename_i e _
   subst e
   cases h
   exact⟨f,rfl⟩
  ·cases h
 ·cases h
def storeC (P:Program) (ok:Nat→Bool) (s:TSt S) (t:TypeId) (x y:Operand){A:Type}(k:TSt S→Option A):Option A:=
 match tev s y with
 | some vy=>match okV vy&&onesV (tcells vy) with
  | true=>match decEq (sizP P t) (some (tcells vy).length) with
   | isTrue _=>match tev s x with
    | some (.loc h off)=>match ok h with
     | true=>match oget s.st h with
      | some (.box e m cs)=>match Nat.ble (off+(tcells vy).length) cs.length with
       | true=>k (s.set h (.box e m (cs.take off++tcells vy++cs.drop (off+(tcells vy).length))))
       | false=>none
      | _=>none
     | false=>none
    | some (.elt h τ i j)=>match ok h with
     | true=>match oget s.st h with
      | some (.arr e m f τ' l)=>match decEq τ' τ with
       | isTrue _=>elemC s x h l i fun y=>match Nat.beq (tcells vy).length (S.sz τ') with
        | true=>match j with
         | 0=>match tas τ' vy with
          | some (fy,a)=>k (s.set h (.arr e m (f&&fy) τ' (l.set i a)))
          | none=>none
         | _=>none
        | false=>match τ',l,y with
         | .st n,l,⟨.st n',b⟩=>match decEq n' n with
          | isTrue hn=>match (S.tys n)[j]? with
           | some τj=>match tas1 τj vy with
            | some (fy,a)=>match S.put n ((S.cells n' b).set j ⟨τj,a⟩) with
             | some b'=>k (s.set h (.arr e m (f&&fy) (.st n) (l.set i b')))
             | none=>none
            | none=>none
           | none=>none
          | isFalse _=>none
         | _,_,_=>none
       | isFalse _=>none
      | some (.box e m cs)=>match τ with
       | .int ki=>match intV ki vy with
        | some v=>(chk (i<(intsB ki (cs.drop j)).length)).bind fun _=>k (s.set h (.box e m (cs.take j++putI ki (intsB ki (cs.drop j)) i v++cs.drop (j+(intsB ki (cs.drop j)).length))))
        | none=>none
       | _=>none
      | _=>none
     | false=>none
    | some (.kp h τ i j)=>match ok h with
     | true=>match oget s.st h with
      | some (.deep e m f (.fam kty) τ' a)=>famSetC τ' a τ i j vy fun a'=>k (s.set h (.deep e m f (.fam kty) τ' a'))
      | _=>none
     | false=>none
    | _=>none
   | isFalse _=>none
  | false=>none
 | none=>none
theorem tas1_cells {τ:Ty}{v:TV S}{f:Bool}{a:S.D τ}(h:tas1 τ v=some (f,a)) (ln:Nat→Nat):RWs (gcells (v.er ln)) f [cellG S τ a]∧tcells v=[v]:=by
 have ⟨h1,h2⟩:=tas1_ok h ln
 have hc:tcells v=[v]:=by
  cases v with
  | dat f' τ' a'=>
   cases τ' with
   | st n=>simp[tas1,Ty.isSt] at h
   | _=>rfl
  | agg l=>simp[tas1] at h
  | _=>rfl
 refine⟨?_,hc⟩
 have hg:gcells (v.er ln)=[v.er ln]:=by
  cases v with
  | dat f' τ' a'=>
   cases τ' with
   | st n=>simp[tas1,Ty.isSt] at h
   | _=>cases f' <;> rfl
  | val u=>
   unfold tas1 at h
   split at h
   ·rename_i e;cases e
   ·rename_i e;cases e;rfl
   ·cases h
  | _=>simp[tas1] at h
 rw[hg]
 refine⟨rfl,fun j m hm=>?_⟩
 cases j with
 | zero=>cases hm;exact⟨_,rfl,h2⟩
 | succ j=>cases hm
section
variable {P:Program}{W:List Nat}{s:TSt S}{ty:TypeId}{pos:String}{after:Array Edge}{guard:Option (Nat×Bool)}{A:Type}{k:TSt S→Option A}{r:A}
theorem storeJ_ok {t:TypeId}{x y:Operand}{hh n i j:Nat}{e:TypeId}{m f fy:Bool}{l:List (S.D (.st n))}{b b2:S.D (.st n)}{vy:TV S}{τj:Ty}{a:S.D τj}(hl:LInv s) (hx:tev s x=some (.elt hh (.st n) i j)) (hy:tev s y=some vy) (hok:okV vy=true) (hones:onesV (tcells vy)=true)
  (hsz:sizP P t=some (tcells vy).length) (hW:W.contains hh=true) (ho:oget s.st hh=some (.arr e m f (.st n) l)) (hb:l[i]?=some b) (hj:(S.tys n)[j]?=some τj) (ha:tas1 τj vy=some (fy,a)) (hp:S.put n ((S.cells n b).set j ⟨τj,a⟩)=some b2)
  (h:k (s.set hh (.arr e m (f&&fy) (.st n) (l.set i b2)))=some r):EfOk P W s ⟨none,.store t x y,ty,pos,after,guard⟩ k r:=by
 have hg:=okV_cells hok s.ln
 have hil:=(List.getElem?_eq_some_iff.1 hb).1
 have htot:(i+1)*S.sz (.st n)≤l.length*S.sz (.st n):=Nat.mul_le_mul_right _ hil
 rw[Nat.add_mul,Nat.one_mul] at htot
 obtain⟨hcs,ht1⟩:=tas1_cells ha s.ln
 have hlen:(S.cells n b).length=S.sz (.st n):=by
  have:=congrArg List.length (S.tys_cells n b)
  rw[List.length_map] at this
  exact this
 have hjl:j<S.sz (.st n):=(List.getElem?_eq_some_iff.1 hj).1
 rw[ht1] at hsz hones hg
 have hcell:=S.put_cells _ _ _ hp
 have hset:=encs_setJ n hb (by rw[hlen];exact hjl) hcell
 obtain⟨e2,_⟩:=set_er (o':=.arr e m (f&&fy) (.st n) (l.set i b2)) ho (by show(l.set i b2).length=l.length;exact List.length_set)
 refine .one _ (EF.storeNP (f:=fy) (ms:=[cellG S τj a]) (tev_ok hx) (tev_ok hy) (sget_st (stA_of ho)) rfl (okV_gok hok s.ln) hg (onesV_ones s.ln hones) (by rw[er_go,List.length_map]) (sizP_ok hsz)
  (by show i*S.sz (.st n)+j+1≤(List.flatMap (encT S (.st n)) l).length;rw[encs_lengthT];omega) hW (hg▸hcs) (fun m hm=>by simp at hm;subst hm;exact cell_Pl (tas1_ok ha s.ln).1 a) rfl rfl) ?_ (hl.set ho _) ⟨rfl,rfl,rfl⟩ h
 rw[e2]
 have:(TO.arr e m (f&&fy) (.st n) (l.set i b2):TO S).er s.ln=⟨e,true,m,f&&fy,S.sz (.st n),(List.flatMap (encT S (.st n)) l).take (i*S.sz (.st n)+j)++[cellG S τj a]++(List.flatMap (encT S (.st n)) l).drop (i*S.sz (.st n)+j+1),none⟩:=by
  simp only[TO.er]
  rw[hset]
 rw[this]
 exact Gh.refl _
theorem storeC_ok {ok:Nat→Bool}(hokW:∀h,ok h=true→W.contains h=true){t:TypeId}{x y:Operand}(hl:LInv s) (h:storeC P ok s t x y k=some r):EfOk P W s ⟨none,.store t x y,ty,pos,after,guard⟩ k r:=by
 unfold storeC at h
 split at h
 ·rename_i vy hy
  split at h
  ·rename_i hov
   simp only[Bool.and_eq_true] at hov
   obtain⟨hok,hones⟩:=hov
   have hg:=okV_cells hok s.ln
   split at h
   ·rename_i hsz _
    split at h
    ·rename_i hh off hx
     split at h
     ·rename_i hW
      split at h
      ·rename_i e m cs ho
       split at h
       ·rename_i hb
        have hb:=Nat.le_of_ble_eq_true hb
        obtain⟨e1,_⟩:=set_er (o':=.box e m (cs.take off++tcells vy++cs.drop (off+(tcells vy).length))) ho rfl
        refine .one _ (EF.storeN (tev_ok hx) (tev_ok hy) (sget_st (stA_of ho)) rfl (okV_gok hok s.ln) hg (onesV_ones s.ln hones) (by rw[er_go,List.length_map]) (sizP_ok hsz) (by show _≤(TV.er.go s.ln cs).length;rw[er_go,List.length_map];exact hb) (hokW _ hW) rfl) ?_ (hl.set ho _) ⟨rfl,rfl,rfl⟩ h
        rw[e1]
        have:(TO.box e m (cs.take off++tcells vy++cs.drop (off+(tcells vy).length)):TO S).er s.ln={(TO.box e m cs:TO S).er s.ln with cells:=((TO.box e m cs:TO S).er s.ln).cells.take off++TV.er.go s.ln (tcells vy)++((TO.box e m cs:TO S).er s.ln).cells.drop (off+(tcells vy).length)}:=by
         simp only[TO.er,er_go,List.map_append,List.map_take,List.map_drop]
        rw[this]
        exact Gh.refl _
       ·cases h
      ·cases h
     ·cases h
    ·rename_i hh τ i j hx
     split at h
     ·rename_i hW
      split at h
      ·rename_i e m f τ' l ho
       split at h
       ·rename_i e1 _
        subst e1
        obtain⟨b,hb,h2⟩:=elemC_ok hl ⟨j,hx⟩ (stA_of ho) h
        replace h:=h2
        clear h2
        have hil:=(List.getElem?_eq_some_iff.1 hb).1
        have htot:(i+1)*S.sz τ'≤l.length*S.sz τ':=Nat.mul_le_mul_right _ hil
        rw[Nat.add_mul,Nat.one_mul] at htot
        split at h
        ·rename_i hc
         have hc:=Nat.eq_of_beq_eq_true hc
         split at h
         ·split at h
          ·rename_i fy a ha
           have hcs:=tas_cells ha s.ln
           obtain⟨e2,_⟩:=set_er (o':=.arr e m (f&&fy) τ' (l.set i a)) ho (by show(l.set i a).length=l.length;simp)
           refine .one _ (EF.storeNP (f:=fy) (ms:=encT S τ' a) (tev_ok hx) (tev_ok hy) (sget_st (stA_of ho)) rfl (okV_gok hok s.ln) hg (onesV_ones s.ln hones) (by rw[er_go,List.length_map]) (sizP_ok hsz) (by show _≤(List.flatMap (encT S τ') l).length;rw[encs_lengthT,hc];omega) (hokW _ hW) (hg▸hcs) (enc_Pl τ' a) rfl rfl) ?_ (hl.set ho _) ⟨rfl,rfl,rfl⟩ h
           rw[e2]
           have:(TO.arr e m (f&&fy) τ' (l.set i a):TO S).er s.ln=⟨e,true,m,f&&fy,S.sz τ',(List.flatMap (encT S τ') l).take (i*S.sz τ'+0)++encT S τ' a++(List.flatMap (encT S τ') l).drop (i*S.sz τ'+0+(tcells vy).length),none⟩:=by
            simp only[TO.er]
            rw[encs_setT τ' hb,hc,Nat.add_zero]
           rw[this]
           exact Gh.refl _
          ·cases h
         ·cases h
        ·rename_i hc
         split at h
         ·rename_i n l' n' b' _ _ _
          split at h
          ·rename_i hn _
           subst hn
           split at h
           ·rename_i τj hj
            split at h
            ·rename_i fy a ha
             split at h
             ·rename_i b2 hp
              have he:=‹({τ:=Ty.st n,a:=b}:Leaf S.α)={τ:=Ty.st n,a:=l'}›
              cases he
              exact storeJ_ok hl hx hy hok hones hsz (hokW _ hW) ho hb hj ha hp h
             ·cases h
            ·cases h
           ·cases h
          ·cases h
         ·cases h
       ·cases h
      ·rename_i e m cs ho
       split at h
       ·rename_i ki
        split at h
        ·rename_i v hiv
         obtain⟨fv,rfl⟩:=intV_ok hiv
         ·obtain⟨_,hc,h⟩:=bind_some h
          have hc:=chk_spec hc
          obtain⟨f0,hv0⟩:=intsB_get (List.getElem?_eq_getElem hc)
          rw[List.getElem?_drop] at hv0
          have hjl:=(List.getElem?_eq_some_iff.1 hv0).1
          obtain⟨e1,_⟩:=set_er (o':=.box e m (cs.take j++putI ki (intsB ki (cs.drop j)) i v++cs.drop (j+(intsB ki (cs.drop j)).length))) ho rfl
          refine .one _ (EF.storeN (tev_ok hx) (tev_ok hy) (sget_st (stA_of ho)) rfl (okV_gok hok s.ln) hg (onesV_ones s.ln hones) (by rw[er_go,List.length_map]) (sizP_ok hsz) (by
           show i*1+j+1≤(TV.er.go s.ln cs).length
           rw[er_go,List.length_map];omega) (hokW _ hW) rfl) ?_ (hl.set ho _) ⟨rfl,rfl,rfl⟩ h
          rw[e1]
          have:(TO.box e m (cs.take j++putI ki (intsB ki (cs.drop j)) i v++cs.drop (j+(intsB ki (cs.drop j)).length)):TO S).er s.ln={(TO.box e m cs:TO S).er s.ln with cells:=((TO.box e m cs:TO S).er s.ln).cells.take (i*1+j)++TV.er.go s.ln (tcells (.dat fv (.int ki) v:TV S))++((TO.box e m cs:TO S).er s.ln).cells.drop (i*1+j+1)}:=by
           simp only[TO.er,er_go]
           rw[putI_er ki cs j i v hc s.ln,List.set_eq_take_append_cons_drop,if_pos (by rw[List.length_map];omega),show i*1+j=j+i by omega]
           have:(tcells (.dat fv (.int ki) v:TV S)).map (TV.er s.ln)=[.val (.int ki v)]:=congrArg (fun g=>[g]) (datG_int fv ki v)
           rw[this]
           simp
          rw[this]
          exact Gh.refl _
        ·cases h
       ·cases h
      ·cases h
     ·cases h
    ·rename_i hh τ i j hx
     split at h
     ·rename_i hW
      split at h
      ·rename_i e m f kty τ' a ho
       obtain⟨u,n,gs,a',hsz1,hv1,hv2,h1,h2,h0,h3,h4,h5⟩:=famSetC_ok h
       rw[hv2] at hsz
       obtain⟨e1,_⟩:=set_er (o':=.deep e m f (.fam kty) τ' a') ho h3
       refine .one _ (EF.famCell (f:=true) (g:=.val u) (g':=.val u) (by rw[tev_ok hx];rfl) (by rw[tev_ok hy,hv1]) (sget_st (stA_of ho)) rfl h1 (by rw[hsz1,Nat.mul_one];exact h2) rfl (by
        have:=onesV_ones s.ln hones
        rw[hv2] at this
        simpa[TV.er.go,hv1] using this) (sizP_ok hsz) (hokW _ hW)) ?_ (hl.set ho _) ⟨rfl,rfl,rfl⟩ h0
       rw[e1,hsz1,Nat.mul_one]
       have:(TO.deep e m f (.fam kty) τ' a':TO S).er s.ln=⟨e,true,m,f&&true,1,[],some (.deep (famDp e kty (famRows τ' a).1 ((famRows τ' a).2.set i (n,gs.set j (.val u)))))⟩:=by
        show Blk.mk _ _ _ _ _ _ (some (.deep (famDp e kty (famRows τ' a').1 (famRows τ' a').2)))=_
        rw[h4,h5,Bool.and_true]
       rw[this]
       exact Gh.refl _
      ·cases h
     ·cases h
    ·cases h
   ·cases h
  ·cases h
 ·cases h
end
end
end Go.DN
/-
 DN,part K:append.
-/
namespace Go.DN
open Go.AM
theorem Effect.gh {P:Program}{W:List Nat}{s t:St}{o:Oper}{T:St→Prop}(h:Gh s t) (he:Effect P W t o T):Effect P W s o T:=by
 refine⟨he.1,fun N cx μ a w hr hd K Q hK=>?_⟩
 obtain⟨μ',h1,h2⟩:=h N cx μ a w hr
 refine he.2 N cx μ' a w h1 hd K Q fun μ2 s' a' w' hr' ht hst=>hK μ2 s' a' w' hr' ht ⟨hst.size,fun b hb hn=>hst.block b hb fun x k c m hx hk hm hi=>?_,fun x k' c m' b hx hk hm hi=>?_⟩
 ·obtain⟨k0,c0,m0,h3,h4,h5⟩:=h2 x k c m b hk hm hi
  exact hn x k0 c0 m0 hx h3 h4 h5
 ·rcases hst.hand x k' c m' b hx hk hm hi with ⟨h0,k,c1,m,h3,h4,h5,h5i⟩ | h3
  ·obtain⟨k0,c0,m0,h6,h7,h8⟩:=h2 h0 k c1 m b h4 h5 h5i
   exact .inl ⟨h0,k0,c0,m0,h3,h6,h7,h8⟩
  ·exact .inr h3
theorem Gh.adopt {s:St}{t:Nat}(hd:Nat) (k:Blk) (hg:get s.fr t=some (.val (.slice none 0 0))) (hf:fresh s hd=true) (hk:k.cells=[]) (hlp:k.lp=none):
  Gh s {fr:=(t,.osl hd k.sz 0 0)::s.fr,st:=(hd,k)::s.st,df:=s.df}:=fun N cx μ a w h=>by
 obtain⟨h1,h2,h3,h5,h6⟩:=fresh_spec hf
 obtain⟨h4,hO⟩:=h.st.newNil h1 h3 (not_pinned h6) hk hlp
 refine⟨upd μ hd none,{st:=h4,nd:=(h.nd.mono (Kept.refl _ _) (fun b _=>hO b)).remap (fun g hg y hy=>upd_other fun e=>by subst e;rw[dfNo_mem h5 hg] at hy;cases hy),sz:=h.sz,fr:=fun t' g hg'=>?_},Gh.same fun x k1 b m hx hm=>?_⟩
 ·rw[get_cons] at hg'
  cases hb:Nat.beq t t' with
  | true=>
   rw[hb] at hg'
   cases hg'
   have:=Nat.eq_of_beq_eq_true hb
   subst this
   obtain⟨v,hv,hr⟩:=h.fr t _ hg
   cases hr with
   | imm hr=>cases hr;exact⟨_,hv,.onil hd k.sz (upd_same _ _ _)⟩
  | false=>
   rw[hb] at hg'
   obtain⟨v,hv,hr⟩:=h.fr t' g hg'
   refine⟨v,hv,(hr.mono (Kept.refl _ _) (fun b _=>hO b) (Nat.le_refl _)).remap fun y hy=>upd_other ?_⟩
   intro e
   subst e
   rw[frNo_get h2 hg'] at hy
   cases hy
 ·by_cases e:x=hd
  ·subst e;rw[upd_same] at hm;cases hm
  ·rw[upd_other e] at hm
   exact⟨k1,by rw[←sget_cons_other k _ e];exact hx,hm⟩
section
variable {S:Sig}
def srcT (s:TSt S) (h:Nat) (τ:Ty):TV S→Option (Bool×List (S.D τ))
 | .dat f (.list τ') m=>match castT (.list τ') (.list τ) m with
  | some m=>some (f,m)
  | none=>none
 | .osl h2 τ2=>match Nat.beq h2 h with
  | true=>none
  | false=>match oget s.stA h2 with
   | some (.arr _ _ f τ' m)=>match decEq τ' τ2 with
    | isTrue _=>match castT (.list τ') (.list τ) m with
     | some m=>some (f,m)
     | none=>none
    | isFalse _=>none
   | _=>none
 | .sub h2 τ2 o n=>match Nat.beq h2 h with
  | true=>none
  | false=>match oget s.stA h2 with
   | some (.arr _ _ f τ' m)=>match decEq τ' τ2 with
    | isTrue _=>match castT (.list τ') (.list τ) m with
     | some m=>some (f,(m.drop o).take n)
     | none=>none
    | isFalse _=>none
   | _=>none
 | .val (.slice none 0 0)=>some (true,[])
 | _=>none
def srcC (s:TSt S) (v:TV S){A:Type}(k:Option A):Option A:=
 match v with
 | .sub h2 τ2 o n=>match oget s.stA h2 with
  | some (.arr _ _ _ _ m)=>(chk (o+n≤m.length)).bind fun _=>k
  | _=>none
 | _=>k
theorem bytesI_G (b:ByteArray):List.flatMap (encT S (.int .u8)) (bytesI b)=strG b:=by
 unfold bytesI strG
 generalize b.data.toList=l
 induction l with
 | nil=>rfl
 | cons x r ih=>rw[List.map_cons,List.flatMap_cons,ih,List.map_cons];rfl
def appS (P:Program) (ok:Nat→Bool) (s:TSt S) (d:Nat) (t t' h:Nat) (b:ByteArray){A:Type}(k:TSt S→Option A):Option A:=
 match ok h&&(Nat.blt h 1000&&(!(TV.has.go h s.df)&&(!(frHas h s.lo)&&!(stHas h s.lst)))) with
 | true=>match oget s.st h with
  | some (.arr e m f (.int .u8) l)=>match P.underlying t with
   | some (.slice e')=>match decEq e e' with
    | isTrue _=>match P.underlying t' with
     | some .string=>match (P.info? e).map (fun i=>(i.zero,i.size,i.bytes)) with
      | some (some (Value.int IntKind.u8 0),1,1)=>(chk (List.length l+b.size≤140737488355328)).bind fun _=>k ((s.renew h (.arr e m f (.int .u8) (List.append l (bytesI b)))).put d (.osl h (.int .u8)))
      | _=>none
     | _=>none
    | isFalse _=>none
   | _=>none
  | _=>none
 | false=>none
def appO (P:Program) (ok:Nat→Bool) (s:TSt S) (d:Nat) (t h:Nat) (τ:Ty) (vy:TV S){A:Type}(k:TSt S→Option A):Option A:=
 match ok h&&(Nat.blt h 1000&&(!(TV.has.go h s.df)&&(!(frHas h s.lo)&&!(stHas h s.lst)))) with
 | true=>match oget s.st h with
  | some (.arr e m f τ' l)=>match decEq τ' τ with
   | isTrue _=>match P.underlying t with
    | some (.slice e')=>match decEq e e' with
     | isTrue _=>match P.info? e with
      | some i=>match i.zero with
       | some z=>match decEq i.size (S.sz τ),decEq z.cells.size (S.sz τ) with
        | isTrue _,isTrue _=>match srcT s h τ' vy with
         | some (fy,ml)=>srcC s vy ((chk (List.length l+List.length ml≤maxLen∧(List.length l+List.length ml)*i.bytes≤140737488355328)).bind fun _=>
          k ((s.renew h (.arr e m (f&&(fy||τ'.scal)) τ' (l++ml))).put d (.osl h τ')))
         | none=>none
        | _,_=>none
       | none=>none
      | none=>none
     | isFalse _=>none
    | _=>none
   | isFalse _=>none
  | _=>none
 | false=>none
theorem Gh.scal {s:St}{h:Nat}{k:Blk}{τ:Ty}{l:List (S.D τ)}(hs:τ.scal=true) (hk:sget s.st h=some k) (hc:k.cells=List.flatMap (encT S τ) l) (hp:k.pure=true) (hlp:k.lp=none):
  Gh s {fr:=s.fr,st:=sset s.st h {k with fresh:=true},df:=s.df}:=by
 letI:=encI S τ
 haveI:Flat (S.D τ):=⟨fun a g hg=>by
  have hg:g∈encT S τ a:=hg
  cases τ with
  | int _=>exact⟨_,List.mem_singleton.1 hg⟩
  | bool=>exact⟨_,List.mem_singleton.1 hg⟩
  | str=>exact⟨_,List.mem_singleton.1 hg⟩
  | list _=>cases hs
  | st _=>cases hs
  | map=>cases hs
  | ifc=>cases hs⟩
 refine Gh.of (fun N cx μ a w hr=>hr.refresh (l:=l) hk hc hp hlp) fun x k' hx=>?_
 rcases sget_sset_iff hk hx with ⟨rfl,_⟩ | ⟨_,h2⟩
 ·exact⟨k,hk⟩
 ·exact⟨k',h2⟩
theorem sset_head' {h:Nat}{k k':Blk}{r:List (Nat×Blk)}:sset ((h,k)::r) h k'=(h,k')::r:=by
 simp[sset]
theorem Gh.scalH {fr:List (Nat×G)}{r:List (Nat×Blk)}{df:List G}{h:Nat}{e:TypeId}{m f fy:Bool}{n:Nat}{τ:Ty}{l:List (S.D τ)}:
  Gh ⟨fr,(h,⟨e,true,m,f&&fy,n,List.flatMap (encT S τ) l,none⟩)::r,df⟩ ⟨fr,(h,⟨e,true,m,f&&(fy||τ.scal),n,List.flatMap (encT S τ) l,none⟩)::r,df⟩:=by
 cases hs:τ.scal with
 | false=>rw[Bool.or_false];exact Gh.refl _
 | true=>
  cases f with
  | false=>exact Gh.refl _
  | true=>
   rw[Bool.or_true,Bool.true_and]
   have hk:sget ((h,(⟨e,true,m,fy,n,List.flatMap (encT S τ) l,none⟩:Blk))::r) h=some ⟨e,true,m,fy,n,List.flatMap (encT S τ) l,none⟩:=by simp[sget]
   have:=Gh.scal (s:=⟨fr,(h,⟨e,true,m,fy,n,List.flatMap (encT S τ) l,none⟩)::r,df⟩) hs hk rfl rfl rfl
   rw[sset_head'] at this
   exact this
theorem castT_list {τ' τ:Ty}{m:List (S.D τ')}{m':List (S.D τ)}(h:castT (α:=S.α) (.list τ') (.list τ) m=some m'):∃e:τ'=τ,e▸m=m':=by
 have:=castT_some h
 cases this
 exact⟨rfl,rfl⟩
theorem srcT_ok {s:TSt S}{h:Nat}{τ:Ty}{v:TV S}{f:Bool}{m:List (S.D τ)}{A:Type}{k:Option A}{r:A}(ht:srcT s h τ v=some (f,m)) (hc:srcC s v k=some r):
  gsrc s.er.st (S.sz τ) (v.er s.ln)=some (List.flatMap (encT S τ) m,m.length,f)∧v.has h=false∧k=some r:=by
 unfold srcT at ht
 split at ht
 ·rename_i f' τ' m'
  split at ht
  ·rename_i m2 hm
   cases ht
   obtain⟨e,hm⟩:=castT_list hm
   subst e
   cases hm
   refine⟨?_,rfl,hc⟩
   rw[er_list]
   cases f <;> rfl
  ·cases ht
 ·rename_i h2 τ2
  split at ht
  ·cases ht
  ·rename_i hb
   split at ht
   ·rename_i e mm f' τ' m' ho
    split at ht
    ·rename_i e' _
     subst e'
     split at ht
     ·rename_i m2 hm
      cases ht
      obtain⟨e,hm⟩:=castT_list hm
      subst e
      cases hm
      refine⟨?_,hb,hc⟩
      show gsrc s.er.st (S.sz τ') (.osl h2 (S.sz τ') 0 (s.ln h2))=_
      simp only[gsrc,sget_st ho,TO.er]
      rw[ln_arr ho,List.drop_zero,List.take_of_length_le (by rw[encs_lengthT];exact Nat.le_refl _)]
     ·cases ht
    ·cases ht
   ·cases ht
 ·rename_i h2 τ2 o n
  split at ht
  ·cases ht
  ·rename_i hb
   split at ht
   ·rename_i e mm f' τ' m' ho
    split at ht
    ·rename_i e' _
     subst e'
     split at ht
     ·rename_i m2 hm
      cases ht
      obtain⟨e,hm⟩:=castT_list hm
      subst e
      cases hm
      unfold srcC at hc
      dsimp only at hc
      rw[ho] at hc
      obtain⟨u,h1,h2'⟩:=bind_some hc
      have h1:=chk_spec h1
      refine⟨?_,hb,h2'⟩
      show gsrc s.er.st (S.sz τ') (.osl h2 (S.sz τ') (o*S.sz τ') n)=_
      simp only[gsrc,sget_st ho,TO.er]
      rw[encs_dropT,encs_takeT,List.length_take,List.length_drop,Nat.min_eq_left (by omega)]
     ·cases ht
    ·cases ht
   ·cases ht
 ·cases ht
  exact⟨rfl,rfl,hc⟩
 ·cases ht
section
variable {P:Program}{W:List Nat}{s:TSt S}{ty:TypeId}{pos:String}{after:Array Edge}{guard:Option (Nat×Bool)}{A:Type}{k:TSt S→Option A}{r:A}
theorem osl_erR {s:TSt S}{h:Nat}{e:TypeId}{m f:Bool}{τ:Ty}{l:List (S.D τ)}:(TV.osl h τ:TV S).er (s.renew h (.arr e m f τ l)).ln=.osl h (S.sz τ) 0 l.length:=by
 show G.osl _ _ _ ((s.renew h _).ln h)=_
 rw[show(s.renew h (.arr e m f τ l)).ln h=_ from lnO_same _ _]
 rfl
theorem appO_ok {ok:Nat→Bool}(hokW:∀h,ok h=true→W.contains h=true){d t h:Nat}{τ:Ty}{x y:Operand}{vy:TV S}(hl:LInv s) (hx:tev s x=some (.osl h τ)) (hy:tev s y=some vy) (hk:appO P ok s d t h τ vy k=some r):
  EfOk P W s ⟨some d,.call ⟨.builtin .append,#[x,y],#[t,t]⟩,ty,pos,after,guard⟩ k r:=by
 unfold appO at hk
 split at hk
 ·rename_i hc
  simp only[Bool.and_eq_true,Bool.not_eq_true'] at hc
  obtain⟨hW,hpn,hdf,hlo,hls⟩:=hc
  split at hk
  ·rename_i e m f τ' l ho
   split at hk
   ·rename_i e1 _
    subst e1
    split at hk
    ·rename_i e' hu
     split at hk
     ·rename_i e2 _
      subst e2
      split at hk
      ·rename_i i hi
       split at hk
       ·rename_i z hz
        split at hk
        ·rename_i hs hzs _ _
         split at hk
         ·rename_i fy ml hsr
          obtain⟨g1,g2,hk⟩:=srcT_ok hsr hk
          obtain⟨u,hck,hk⟩:=bind_some hk
          obtain⟨c1,c2⟩:=chk_spec hck
          letI:=encI S τ'
          have ho':=sget_st (stA_of ho)
          have hpin:pinned h=false:=not_pinned hpn
          have hdf':dfNo h s.er.df=true:=by
           show dfNo h (TV.er.go s.ln s.df)=true
           rw[dfNo_er,hdf];rfl
          have hinfo:(P.info? e).map (fun i=>(i.zero,i.size,i.bytes))=some (some z,S.sz τ',i.bytes):=by rw[hi,Option.map_some,hz,hs]
          have hx':ev s.er x=some (.osl h (S.sz τ') 0 l.length):=by rw[tev_ok hx];show some (G.osl _ _ _ (s.ln h))=_;rw[ln_arr (stA_of ho)]
          obtain⟨e1,_,_⟩:=renew_er (.arr e m (f&&(fy||τ'.scal)) τ' (l++ml)) rfl hdf hlo hls
          refine .one _ (ET.append (α:=S.D τ') (m:=ml) hx' (tev_ok hy) ho' rfl rfl rfl rfl g1 (by rw[has_er];exact g2) hu hinfo hzs c1 c2 (hokW h hW) rfl hpin hdf') ?_ ((hl.renew h _ hlo hls).put _ _) ⟨rfl,rfl,rfl⟩ hk
          rw[put_er,e1,osl_erR]
          exact Gh.scalH (h:=h) (e:=e) (m:=m) (f:=f) (fy:=fy) (τ:=τ') (l:=l++ml) (n:=S.sz τ')
         ·cases hk
        ·cases hk
       ·cases hk
      ·cases hk
     ·cases hk
    ·cases hk
   ·cases hk
  ·cases hk
 ·cases hk
theorem appS_ok {ok:Nat→Bool}(hokW:∀h,ok h=true→W.contains h=true){d t t' h:Nat}{x y:Operand}{b:ByteArray}{f:Bool}(hl:LInv s) (hx:tev s x=some (.osl h (.int .u8))) (hy:tev s y=some (.dat f .str b)) (hk:appS P ok s d t t' h b k=some r):
  EfOk P W s ⟨some d,.call ⟨.builtin .append,#[x,y],#[t,t']⟩,ty,pos,after,guard⟩ k r:=by
 unfold appS at hk
 split at hk
 ·rename_i hc
  simp only[Bool.and_eq_true,Bool.not_eq_true'] at hc
  obtain⟨hW,hpn,hdf,hlo,hls⟩:=hc
  split at hk
  ·rename_i e m f2 l ho
   split at hk
   ·rename_i e' hu
    split at hk
    ·rename_i e2 _
     subst e2
     split at hk
     ·rename_i hu'
      split at hk
      ·rename_i hi
       obtain⟨u,hck,hk⟩:=bind_some hk
       have c1:=chk_spec hck
       have ho':=sget_st (stA_of ho)
       have hpin:pinned h=false:=not_pinned hpn
       have hdf':dfNo h s.er.df=true:=by
        show dfNo h (TV.er.go s.ln s.df)=true
        rw[dfNo_er,hdf];rfl
       have hx':ev s.er x=some (.osl h 1 0 (List.length l)):=by rw[tev_ok hx];show some (G.osl _ _ _ (s.ln h))=_;rw[ln_arr (stA_of ho)];rfl
       obtain⟨e1,_,_⟩:=renew_er (.arr e m f2 (.int .u8) (List.append l (bytesI b))) rfl hdf hlo hls
       refine .one _ (EF.appendStr hx' (evS hy) ho' rfl rfl rfl (by show(List.flatMap (encT S (.int .u8)) l).length=_;rw[encs_lengthT];exact Nat.mul_one _) hu hu' hi c1 (hokW h hW) rfl hpin hdf') ?_ ((hl.renew h _ hlo hls).put _ _) ⟨rfl,rfl,rfl⟩ hk
       rw[put_er,e1,osl_erR]
       have e3:List.flatMap (encT S (.int .u8)) (List.append l (bytesI b))=List.flatMap (encT S (.int .u8)) l++strG b:=by rw[←bytesI_G (S:=S) b];exact List.flatMap_append
       have e4:List.length (List.append l (bytesI b))=List.length l+b.size:=by rw[←bytesI_length b];exact List.length_append
       show Gh _ {fr:=(d,.osl h 1 0 (List.length (List.append l (bytesI b))))::killFr h s.er.fr,st:=(h,⟨e,true,m,f2,1,List.flatMap (encT S (.int .u8)) (List.append l (bytesI b)),none⟩)::killSt h s.er.st,df:=s.er.df}
       rw[e3,e4]
       exact Gh.refl _
      ·cases hk
     ·cases hk
    ·cases hk
   ·cases hk
  ·cases hk
 ·cases hk
def TSt.adopt (s:TSt S) (hd t:Nat) (e:TypeId) (τ:Ty):TSt S:={s.add hd (.arr e true true τ []) with fr:=(t,.osl hd τ)::s.fr,last:=rmS t s.last}
theorem adopt_ok {hd t:Nat}{e:TypeId}{τ:Ty}(hl:LInv s) (hx:tget s.frA t=some (.val (.slice none 0 0))) (hf:s.free hd=true):Gh s.er (s.adopt hd t e τ).er∧LInv (s.adopt hd t e τ):=by
 obtain⟨e1,_⟩:=add_er hf (.arr e true true τ ([]:List (S.D τ))) rfl
 have h1:=Gh.adopt (s:=s.er) (t:=t) hd ⟨e,true,true,true,S.sz τ,[],none⟩ (get_erF hx) (free_fresh hf) rfl rfl
 have e2:(s.adopt hd t e τ).er=((s.add hd (.arr e true true τ [])).put t (.osl hd τ)).er:=rfl
 refine⟨?_,(hl.add (.arr e true true τ []) hf).put t (.osl hd τ)⟩
 rw[e2,put_er,e1,osl_er]
 exact h1
def appC (P:Program) (ok:Nat→Bool) (s:TSt S) (d:Nat) (c:Call){A:Type}(k:TSt S→Option A):Option A:=
 match c.args.toList,c.argTypes.toList with
 | [x,y],[t,t']=>match decEq t t' with
  | isTrue _=>match tev s x with
   | some (.osl h τ)=>match tev s y with
    | some vy=>appO P ok s d t h τ vy k
    | none=>none
   | some (.val (.slice none 0 0))=>match x with
    | .tmp tx=>match s.free (s.hnd d) with
     | true=>match P.underlying t with
      | some (.slice e)=>match S.tyS e with
       | some τ=>match tev (s.adopt (s.hnd d) tx e τ) y with
        | some vy=>match tev (s.adopt (s.hnd d) tx e τ) x with
         | some (.osl h τ2)=>appO P ok (s.adopt (s.hnd d) tx e τ) d t h τ2 vy k
         | _=>none
        | none=>none
       | none=>none
      | _=>none
     | false=>none
    | _=>none
   | _=>none
  | isFalse _=>match tev s x with
   | some (.osl h (.int .u8))=>match tev s y with
    | some (.dat _ .str b)=>appS P ok s d t t' h b k
    | _=>none
   | _=>none
 | _,_=>none
theorem EfOk.gh {s t:TSt S}{o:Oper}(hg:Gh s.er t.er) (hkp:Keep s t) (h:EfOk P W t o k r):EfOk P W s o k r:=by
 obtain⟨T,h1,h2⟩:=h
 exact⟨T,Effect.gh hg h1,fun s' ht=>let ⟨u,a1,a2,a3,a4⟩:=h2 s' ht;⟨u,a1,a2,hkp.trans a3,a4⟩⟩
theorem appC_ok {ok:Nat→Bool}(hokW:∀h,ok h=true→W.contains h=true){d:Nat}{args:Array Operand}{ts:Array TypeId}(hl:LInv s) (h:appC P ok s d ⟨.builtin .append,args,ts⟩ k=some r):
  EfOk P W s ⟨some d,.call ⟨.builtin .append,args,ts⟩,ty,pos,after,guard⟩ k r:=by
 unfold appC at h
 dsimp only at h
 split at h
 ·rename_i h1 h2
  have h1:=toList2 h1
  have h2:=toList2 h2
  subst h1;subst h2
  split at h
  ·rename_i e _
   subst e
   split at h
   ·rename_i hx
    split at h
    ·rename_i hy
     exact appO_ok hokW hl hx hy h
    ·cases h
   ·rename_i hx
    split at h
    ·rename_i tx
     split at h
     ·rename_i hf
      split at h
      ·split at h
       ·split at h
        ·rename_i hy
         split at h
         ·rename_i hx'
          exact EfOk.gh (adopt_ok hl hx hf).1 ⟨rfl,rfl,rfl⟩ (appO_ok hokW (adopt_ok hl hx hf).2 hx' hy h)
         ·cases h
        ·cases h
       ·cases h
      ·cases h
     ·cases h
    ·cases h
   ·cases h
  ·split at h
   ·rename_i hx
    split at h
    ·rename_i hy
     exact appS_ok hokW hl hx hy h
    ·cases h
   ·cases h
 ·cases h
theorem EF.isnil {s:St}{d:Nat}{op:BinOp}{t t' e:TypeId}{x:Operand}{g:G}{n:Int}(hx:ev s x=some g) (hn:lenG g=some n) (ht:P.underlying t=some (.slice e)) (hop:op=.eql∨op=.neq):
  Effect P W s ⟨some d,.binOp op t x (.const (.slice none 0 0)) t',ty,pos,after,guard⟩ (fun s'=>∃b:Bool,(b=true→n=0)∧s'=s.put d (.val (.bool (match op with | .eql=>b | _=>!b)))):=by
 refine⟨fun _ h=>(by cases h),?_⟩
 intro N cx μ a w hr hd K Q hK
 obtain⟨b,m,c,e1,e2,e3⟩:=RepV.sliceLen (hr.ev hx) hn
 have hst:Step W s.st μ s.st μ w w:=⟨Nat.le_refl _,fun _ _ _=>rfl,fun h k' c m' b hw h1 h2 hi=>.inl ⟨h,k',c,m',hw,h1,h2,hi⟩⟩
 have hb:b.isNone=true→n=0:=fun h=>e3 (Option.isNone_iff_eq_none.1 h)
 unfold Oper.wp
 rcases hop with rfl | rfl
 ·have hrun:(execOp a.eval ⟨some d,.binOp .eql t x (.const (.slice none 0 0)) t',ty,pos,after,guard⟩).run P w=.ok (.value (.bool b.isNone)) w:=by
   have:=run_eqnil (P:=P) ht x (.const (.slice none 0 0)) b m c w
   simp only[execOp,e1,show a.eval (.const (.slice none 0 0))=.slice none 0 0 from rfl,Sem.run_bind,this,Result.andThen_ok,Sem.run_pure]
  rw[hrun]
  exact hK μ _ _ w (hr.put (d:=d) (hd d rfl) (.imm (.val _))) ⟨b.isNone,hb,rfl⟩ hst
 ·have hrun:(execOp a.eval ⟨some d,.binOp .neq t x (.const (.slice none 0 0)) t',ty,pos,after,guard⟩).run P w=.ok (.value (.bool (!b.isNone))) w:=by
   have:=run_nenil (P:=P) ht x (.const (.slice none 0 0)) b m c w
   simp only[execOp,e1,show a.eval (.const (.slice none 0 0))=.slice none 0 0 from rfl,Sem.run_bind,this,Result.andThen_ok,Sem.run_pure]
  rw[hrun]
  exact hK μ _ _ w (hr.put (d:=d) (hd d rfl) (.imm (.val _))) ⟨b.isNone,hb,rfl⟩ hst
noncomputable def nilC (P:Program) (s:TSt S) (d:Nat) (op:BinOp) (t:TypeId) (x y:Operand){A:Type}(k:TSt S→Option A):Option A:=
 match y with
 | .const (.slice none 0 0)=>match P.underlying t with
  | some (.slice _)=>match tev s x with
   | some v=>match lenV s v with
    | some n=>match op with
     | .eql=>nilF n (k (s.put d (.dat true .bool true))) (k (s.put d (.dat true .bool false)))
     | .neq=>nilF n (k (s.put d (.dat true .bool false))) (k (s.put d (.dat true .bool true)))
     | _=>none
    | none=>none
   | none=>none
  | _=>none
 | _=>none
theorem nilC_ok {d:Nat}{op:BinOp}{t t':TypeId}{x y:Operand}(hl:LInv s) (h:nilC P s d op t x y k=some r):EfOk P W s ⟨some d,.binOp op t x y t',ty,pos,after,guard⟩ k r:=by
 unfold nilC at h
 split at h
 ·split at h
  ·rename_i hu
   split at h
   ·rename_i hx
    split at h
    ·rename_i hn
     have hb:∀b:Bool,(s.put d (.dat true .bool b)).er=s.er.put d (.val (.bool b)):=fun b=>by rw[put_er];exact congrArg _ (datG_bool true b)
     split at h
     ·obtain⟨h1,h2⟩:=nilF_spec h
      refine⟨_,EF.isnil (tev_ok hx) (lenV_ok hn) hu (.inl rfl),fun s' ⟨b,hb0,e⟩=>?_⟩
      subst e
      refine⟨s.put d (.dat true .bool b),by rw[hb];exact Gh.refl _,hl.put _ _,⟨rfl,rfl,rfl⟩,?_⟩
      cases b with
      | true=>exact h1 (hb0 rfl)
      | false=>exact h2
     ·obtain⟨h1,h2⟩:=nilF_spec h
      refine⟨_,EF.isnil (tev_ok hx) (lenV_ok hn) hu (.inr rfl),fun s' ⟨b,hb0,e⟩=>?_⟩
      subst e
      refine⟨s.put d (.dat true .bool (!b)),by rw[hb];exact Gh.refl _,hl.put _ _,⟨rfl,rfl,rfl⟩,?_⟩
      cases b with
      | true=>exact h1 (hb0 rfl)
      | false=>exact h2
     ·cases h
    ·cases h
   ·cases h
  ·cases h
 ·cases h
end
end
end Go.DN
/-
 DN,part Kb:a state told in another way:less of it,slots as plain data,blocks that are written no more.
-/
namespace Go.DN
open Go.AM
def CV (st st':List (Nat×Blk)) (g g':G):Prop:=∀(cx:Cx) (μ:Mu) (w:World) (v:Value),RelSt cx μ st w→(∀b,b<w.heap.size→¬cx.O st μ b→¬cx.O st' μ b)→
 RepV (cx.O st μ) cx.base w μ g v→RepV (cx.O st' μ) cx.base w μ g' v
theorem CV.rw {st st':List (Nat×Blk)}{g g':G}(h:RW g g'):CV st st' g g':=fun cx μ w v _ hO hv=>h _ _ _ _ _ (hv.mono (Kept.refl _ _) hO (Nat.le_refl _))
theorem CV.refl (st st':List (Nat×Blk)) (g:G):CV st st' g g:=CV.rw (RW.refl g)
theorem CV.any (st st':List (Nat×Blk)) (g:G):CV st st' g .any:=fun _ _ _ v _ _ _=>.imm (.any v)
theorem CV.fz {st st':List (Nat×Blk)}{g g':G}(hd:∀x k,sget st' x=some k→∃k0,sget st x=some k0) (h:fzG st st' g=some g'):CV st st' g g':=fun cx μ w v hst _ hv=>fzG_spec hst hd hv h
def CVL (st st':List (Nat×Blk)) (gs gs':List G):Prop:=gs'.length=gs.length∧∀(j:Nat) (g':G),gs'[j]?=some g'→∃g,gs[j]?=some g∧CV st st' g g'
theorem CV.agg {st st':List (Nat×Blk)}{gs gs':List G}(h:CVL st st' gs gs'):CV st st' (.agg gs) (.agg gs'):=fun cx μ w v hst hO hv=>by
 cases hv with
 | imm hv=>cases hv with
  | agg _ us h1 h2=>exact .agg _ us (h1.trans h.1.symm) fun j g' v hg' hv=>(by
    obtain⟨g,hg,hw⟩:=h.2 j g' hg'
    exact hw cx μ w _ hst hO (.imm (h2 j g v hg hv)))
 | agg _ us h1 h2=>exact .agg _ us (h1.trans h.1.symm) fun j g' v hg' hv=>(by
   obtain⟨g,hg,hw⟩:=h.2 j g' hg'
   exact hw cx μ w _ hst hO (h2 j g v hg hv))
theorem CV.tup {st st':List (Nat×Blk)}{gs gs':List G}(h:CVL st st' gs gs'):CV st st' (.tup gs) (.tup gs'):=fun cx μ w v hst hO hv=>by
 cases hv with
 | imm hv=>cases hv
 | tup _ us h1 h2=>exact .tup _ us (h1.trans h.1.symm) fun j g' v hg' hv=>(by
   obtain⟨g,hg,hw⟩:=h.2 j g' hg'
   exact hw cx μ w _ hst hO (h2 j g v hg hv))
theorem CV.clo {st st':List (Nat×Blk)}{f:FuncId}{gs gs':List G}(h:CVL st st' gs gs'):CV st st' (.clo f gs) (.clo f gs'):=fun cx μ w v hst hO hv=>by
 cases hv with
 | imm hv=>cases hv
 | clo _ _ us h1 h2=>exact .clo f _ us (h1.trans h.1.symm) fun j g' v hg' hv=>(by
   obtain⟨g,hg,hw⟩:=h.2 j g' hg'
   exact hw cx μ w _ hst hO (h2 j g v hg hv))
structure BCV (st st':List (Nat×Blk)) (k k':Blk):Prop where
 ety:k'.ety=k.ety
 mine:k'.mine=true→k.mine=true
 sz:k'.sz=k.sz
 lp:k'.lp=k.lp
 pure:k'.pure=k.pure
 len:k'.cells.length=k.cells.length
 cells:(k.pure=true∧k'.cells=k.cells∧(k'.fresh=true→k.fresh=true∨(k.lp=none∧∀g,g∈k.cells→∃v,g=.val v)∨∃d,k.lp=some (.deep d)∧∀(O O':Nat→Prop) (w:World) (b:Nat) (m:Mm),d.φ O w b m→d.φ O' w b m))∨(k.pure=false∧∀(j:Nat) (g':G),k'.cells[j]?=some g'→∃g,k.cells[j]?=some g∧CV st st' g g')
theorem BCV.refl (st st':List (Nat×Blk)) (k:Blk):BCV st st' k k:=by
 refine⟨rfl,id,rfl,rfl,rfl,rfl,?_⟩
 cases h:k.pure with
 | true=>exact .inl ⟨rfl,rfl,.inl⟩
 | false=>exact .inr ⟨rfl,fun j g hg=>⟨g,hg,CV.refl _ _ g⟩⟩
theorem Gh.gen {s t:St}(hfr:∀d g',get t.fr d=some g'→∃g,get s.fr d=some g∧CV s.st t.st g g') (hst:∀x k',sget t.st x=some k'→∃k,sget s.st x=some k∧BCV s.st t.st k k') (hdf:s.df=t.df):Gh s t:=by
 have hdom:∀x k,sget t.st x=some k→∃k0,sget s.st x=some k0:=fun x k hk=>let ⟨k0,h1,_⟩:=hst x k hk;⟨k0,h1⟩
 refine Gh.of (fun N cx μ a w h=>?_) hdom
 have hO:∀b,b<w.heap.size→¬cx.O s.st μ b→¬cx.O t.st μ b:=fun b _ hn ho=>hn (ho.imp id fun ⟨x,k,c,m,h1,h2,hi⟩=>let ⟨k0,h3⟩:=hdom x k h1;⟨x,k0,c,m,h3,h2,hi⟩)
 have hE:∀{g g':G}{v:Value},CV s.st t.st g g'→RepV (cx.O s.st μ) cx.base w μ g v→RepV (cx.O t.st μ) cx.base w μ g' v:=by
  intro g g' v hz hv
  exact hz cx μ w v h.st hO hv
 refine {st:={blk:=?_,injF:=?_,outF:=?_,pin:=?_,xlt:=h.st.xlt,hb:=h.st.hb,os:=h.st.os,tape:=h.st.tape,output:=h.st.output,gl:=h.st.gl,keep:=h.st.keep},nd:=hdf▸h.nd.mono (Kept.refl _ _) hO,sz:=h.sz,fr:=fun d g' hg'=>?_}
 ·intro x k' hk'
  obtain⟨k,hk,c⟩:=hst x k' hk'
  have hb:=h.st.blk x k hk
  cases hm:μ x with
  | none=>
   rw[hm] at hb
   exact hb.nilAny (by rw[hb.1];exact List.eq_nil_of_length_eq_zero (by rw[c.len,hb.1];rfl)) c.lp c.pure
  | some bm=>
   obtain⟨b,m⟩:=bm
   rw[hm] at hb
   cases hlp:k.lp with
   | none=>
    obtain⟨cs,h1,h2,h3,h4,h5,h6⟩:=hb.cells hlp
    refine .mk (c.lp.trans hlp) (hb.nokid hlp) ⟨cs,by rw[c.ety];exact h1,h2,by rw[c.len];exact h3,fun hmn=>h4 (c.mine hmn),by rw[c.sz];exact h5,fun j g' hg'=>?_⟩
    rcases c.cells with ⟨hp,e,hf⟩ | ⟨hp,e⟩
    ·rw[e] at hg'
     obtain⟨v,hv,hr⟩:=h6 j g' hg'
     refine⟨v,hv,?_⟩
     have:=hr.mono (Kept.refl _ _) hO
     unfold RepC at this⊢
     rw[c.pure]
     rw[hp] at this⊢
     by_cases hk2:k'.fresh=true→k.fresh=true
     ·exact this.flag hk2
     ·rcases Classical.em (k'.fresh=true) with hq | hq
      ·rcases hf hq with hf | ⟨_,hf⟩ | ⟨d,hd,_⟩
       ·exact this.flag fun _=>hf
       rotate_left
       ·rw[hlp] at hd;cases hd
       ·obtain⟨u,rfl⟩:=hf g' (List.mem_of_getElem? hg')
        revert this
        show RepI _ w (.val u) v→RepI _ w (.val u) v
        intro this
        cases this
        exact .val _
      ·exact absurd (fun h=>absurd h hq) hk2
    ·obtain⟨g,hg,hz⟩:=e j g' hg'
     obtain⟨v,hv,hr⟩:=h6 j g hg
     refine⟨v,hv,?_⟩
     unfold RepC at hr⊢
     rw[c.pure]
     simp only[hp] at hr⊢
     exact hE hz hr
   | some kd=>
    cases kd with
    | loop lp=>
     obtain⟨D,vs,h1,h2,h3,h4,h5⟩:=(RelBlk.loop hlp).1 hb
     refine(RelBlk.loop (c.lp.trans hlp)).2 ⟨D,vs,h1,h2,(by cases hq:k'.mine with | false=>rfl | true=>rw[c.mine hq] at h3;cases h3),c.pure.trans h4,fun j t g' ht hg'=>?_⟩
     rcases c.cells with ⟨hp,_⟩ | ⟨_,e⟩
     ·rw[h4] at hp;cases hp
     ·obtain⟨g,hg,hz⟩:=e j g' hg'
      obtain⟨v,hv,hr⟩:=h5 j t g ht hg
      exact⟨v,hv,hE hz hr⟩
    | deep d=>
     obtain⟨h1,h2,h3,h4⟩:=((RelBlk.deep hlp).1 hb).mono (fun _ _=>rfl) (Kept.refl _ _) hO
     refine(RelBlk.deep (c.lp.trans hlp)).2 ⟨?_,c.pure.trans h2,List.eq_nil_of_length_eq_zero (by rw[c.len,h3];rfl),fun hmn=>h4 (c.mine hmn)⟩
     rcases c.cells with ⟨_,_,hf⟩ | ⟨hp,_⟩
     ·cases hkf:k.fresh with
      | true=>
       rw[hkf] at h1
       cases k'.fresh with
       | true=>exact h1
       | false=>exact d.mono h1 (Kept.refl _ _) (fun x _ hn ho=>hn (.inr ho)) (fun _ _=>rfl)
      | false=>
       rw[hkf] at h1
       cases hq:k'.fresh with
       | false=>exact h1
       | true=>
        rcases hf hq with hf | ⟨hf,_⟩ | ⟨d',hd,hany⟩
        ·rw[hkf] at hf;cases hf
        ·rw[hlp] at hf;cases hf
        ·rw[hlp] at hd;cases hd;exact hany _ _ _ _ _ h1
     ·rw[h2] at hp;cases hp
 ·intro x x' k1 k2 y b m b' m' h1 h2
  obtain⟨k1',h1'⟩:=hdom x k1 h1
  obtain⟨k2',h2'⟩:=hdom x' k2 h2
  exact h.st.injF x x' k1' k2' y b m b' m' h1' h2'
 ·intro x k1 b m y h1 h2 hi
  obtain⟨k,hk,c⟩:=hst x k1 h1
  obtain⟨a1,a2,a3,a4⟩:=h.st.outF x k b m y hk h2 hi
  exact⟨a1,a2,a3,fun hm=>a4 (c.mine hm)⟩
 ·intro x k1 h1 h2
  obtain⟨k1',h1'⟩:=hdom x k1 h1
  exact h.st.pin x k1' h1' h2
 ·obtain⟨g,hg,hz⟩:=hfr d g' hg'
  obtain⟨v,hv,hr⟩:=h.fr d g hg
  exact⟨v,hv,hE hz hr⟩
section
variable {S:Sig}
def TV.fz (h:Nat) (f:Bool) (τ:Ty) (l:List (S.D τ)):TV S→TV S
 | .osl h' τ'=>match Nat.beq h' h with
  | true=>match decEq τ' τ with
   | isTrue _=>.dat f (.list τ) l
   | isFalse _=>.any
  | false=>.osl h' τ'
 | .agg vs=>.agg (go h f τ l vs)
 | .tup vs=>.tup (go h f τ l vs)
 | .clo g vs=>.clo g (go h f τ l vs)
 | .sub h' τ' o n=>match Nat.beq h' h with
  | true=>.any
  | false=>.sub h' τ' o n
 | .elt h' τ' i j=>match Nat.beq h' h with
  | true=>.any
  | false=>.elt h' τ' i j
 | .loc h' o=>match Nat.beq h' h with
  | true=>.any
  | false=>.loc h' o
 | .yld h'=>match Nat.beq h' h with
  | true=>.any
  | false=>.yld h'
 | .mp h'=>match Nat.beq h' h with
  | true=>.any
  | false=>.mp h'
 | v=>v
where go (h:Nat) (f:Bool) (τ:Ty) (l:List (S.D τ)):List (TV S)→List (TV S)
 | []=>[]
 | v::r=>v.fz h f τ l::go h f τ l r
def fzF (h:Nat) (f:Bool) (τ:Ty) (l:List (S.D τ)):List (Nat×TV S)→List (Nat×TV S)
 | []=>[]
 | (t,v)::r=>(t,v.fz h f τ l)::fzF h f τ l r
def TO.fz (h:Nat) (f:Bool) (τ:Ty) (l:List (S.D τ)):TO S→TO S
 | .box e m cs=>.box e m (TV.fz.go h f τ l cs)
 | .lp p n cs=>.lp p n (TV.fz.go h f τ l cs)
 | o=>o
def fzS (h:Nat) (f:Bool) (τ:Ty) (l:List (S.D τ)):List (Nat×TO S)→List (Nat×TO S)
 | []=>[]
 | (t,o)::r=>match Nat.beq t h with
  | true=>fzS h f τ l r
  | false=>(t,o.fz h f τ l)::fzS h f τ l r
def freezeA (s:TSt S) (h:Nat):Option (TSt S):=
 match oget s.st h with
 | some (.arr e true f τ l)=>match !(frHas h s.lo)&&(!(stHas h s.lst)&&(!(TV.has.go h s.df)&&(match oget s.lst h with | none=>true | some _=>false))) with
  | true=>some {s with fr:=fzF h f τ l s.fr,st:=fzS h f τ l s.st,last:=rmH h s.last}
  | false=>none
 | _=>none
theorem oget_fzS {h:Nat}{f:Bool}{τ:Ty}{l:List (S.D τ)}:∀{st:List (Nat×TO S)}{x:Nat}{o:TO S},oget (fzS h f τ l st) x=some o→x≠h∧∃o0,oget st x=some o0∧o=o0.fz h f τ l
 | [],_,_,e=>by cases e
 | (t,o0)::r,x,o,e=>by
  simp only[fzS] at e
  cases hb:Nat.beq t h with
  | true=>
   rw[hb] at e
   obtain⟨h1,o1,h2,h3⟩:=oget_fzS e
   refine⟨h1,o1,?_,h3⟩
   have:=Nat.eq_of_beq_eq_true hb
   subst this
   rw[oget_cons_other _ _ h1];exact h2
  | false=>
   rw[hb] at e
   simp only[oget] at e⊢
   cases hx:Nat.beq t x with
   | true=>
    rw[hx] at e
    cases e
    refine⟨?_,o0,rfl,rfl⟩
    intro e
    subst e
    have:=Nat.eq_of_beq_eq_true hx
    subst this
    rw[Nat.beq_refl] at hb;cases hb
   | false=>rw[hx] at e;exact oget_fzS e
theorem oget_fzS_none {h:Nat}{f:Bool}{τ:Ty}{l:List (S.D τ)}:∀(st:List (Nat×TO S)),oget (fzS h f τ l st) h=none:=by
 intro st
 cases e:oget (fzS h f τ l st) h with
 | none=>rfl
 | some o=>exact absurd rfl (oget_fzS e).1
theorem fz_len (h:Nat) (f:Bool) (τ:Ty) (l:List (S.D τ)) (o:TO S):(o.fz h f τ l).len=o.len:=by cases o <;> rfl
theorem oget_fzS_of {h:Nat}{f:Bool}{τ:Ty}{l:List (S.D τ)}{x:Nat}(hx:x≠h):∀{st:List (Nat×TO S)},oget (fzS h f τ l st) x=(oget st x).map (TO.fz h f τ l)
 | []=>rfl
 | (t,o0)::r=>by
  simp only[fzS,oget]
  cases hb:Nat.beq t h with
  | true=>
   have:=Nat.eq_of_beq_eq_true hb
   subst this
   have:Nat.beq t x=false:=by
    cases h2:Nat.beq t x with
    | true=>exact absurd (Nat.eq_of_beq_eq_true h2).symm hx
    | false=>rfl
   rw[this]
   exact oget_fzS_of hx
  | false=>
   simp only[oget]
   cases Nat.beq t x with
   | true=>rfl
   | false=>exact oget_fzS_of hx
theorem tget_fzF {h:Nat}{f:Bool}{τ:Ty}{l:List (S.D τ)}:∀{fr:List (Nat×TV S)}{t:Nat},tget (fzF h f τ l fr) t=(tget fr t).map (TV.fz h f τ l)
 | [],_=>rfl
 | (t',v)::r,t=>by
  simp only[fzF,tget]
  cases Nat.beq t' t with
  | true=>rfl
  | false=>exact tget_fzF
theorem tget_app {fr fr':List (Nat×TV S)}{t:Nat}:tget (fr++fr') t=match tget fr t with | some v=>some v | none=>tget fr' t:=by
 induction fr with
 | nil=>rfl
 | cons x r ih=>
  obtain⟨k,g⟩:=x
  simp only[List.cons_append,tget]
  cases Nat.beq k t with
  | true=>rfl
  | false=>exact ih
theorem oget_appA {st st':List (Nat×TO S)}{t:Nat}:oget (st++st') t=match oget st t with | some v=>some v | none=>oget st' t:=by
 induction st with
 | nil=>rfl
 | cons x r ih=>
  obtain⟨k,g⟩:=x
  simp only[List.cons_append,oget]
  cases Nat.beq k t with
  | true=>rfl
  | false=>exact ih
mutual
theorem fz_id {h:Nat}{f:Bool}{τ:Ty}{l:List (S.D τ)}:∀v:TV S,v.has h=false→v.fz h f τ l=v
 | .dat _ _ _,_=>rfl
 | .ptr _ _ _,_=>rfl
 | .agg vs,e=>congrArg TV.agg (fz_idL vs e)
 | .tup vs,e=>congrArg TV.tup (fz_idL vs e)
 | .clo g vs,e=>congrArg (TV.clo g) (fz_idL vs e)
 | .loc h' o,e=>by simp only[TV.has] at e;simp only[TV.fz,e]
 | .elt h' _ _ _,e=>by simp only[TV.has] at e;simp only[TV.fz,e]
 | .osl h' _,e=>by simp only[TV.has] at e;simp only[TV.fz,e]
 | .sub h' _ _ _,e=>by simp only[TV.has] at e;simp only[TV.fz,e]
 | .yld h',e=>by simp only[TV.has] at e;simp only[TV.fz,e]
 | .mp h',e=>by simp only[TV.has] at e;simp only[TV.fz,e]
 | .ks _ _ _ _,_=>rfl
 | .kp _ _ _ _,_=>rfl
 | .kpo _ _ _ _ _,_=>rfl
 | .lpo _ _ _,_=>rfl
 | .val _,_=>rfl
 | .any,_=>rfl
theorem fz_idL {h:Nat}{f:Bool}{τ:Ty}{l:List (S.D τ)}:∀vs:List (TV S),TV.has.go h vs=false→TV.fz.go h f τ l vs=vs
 | [],_=>rfl
 | v::r,e=>by
  simp only[TV.has.go,Bool.or_eq_false_iff] at e
  simp only[TV.fz.go,fz_id v e.1,fz_idL r e.2]
end
structure FzOk (st st':List (Nat×Blk)) (ln ln':Nat→Nat) (h:Nat) (ety:TypeId) (f:Bool) (τ:Ty) (l:List (S.D τ)):Prop where
 get:sget st h=some ⟨ety,true,true,f,S.sz τ,List.flatMap (encT S τ) l,none⟩
 gone:sget st' h=none
 dom:∀x k,sget st' x=some k→∃k0,sget st x=some k0
 len:ln h=l.length
 agree:AgreeLn ln ln' h
theorem fz_slG {st st':List (Nat×Blk)}{ln ln':Nat→Nat}{h:Nat}{ety:TypeId}{f:Bool}{τ:Ty}{l:List (S.D τ)}(H:FzOk (S:=S) st st' ln ln' h ety f τ l):fzG st st' (.osl h (S.sz τ) 0 (ln h))=some ((TV.dat f (.list τ) l:TV S).er ln'):=by
 rw[er_list]
 simp only[fzG,H.gone,H.get,H.len,List.drop_zero]
 rw[List.take_of_length_le (by rw[encs_lengthT];exact Nat.le_refl _)]
 cases f <;> rfl
mutual
theorem fz_cv {st st':List (Nat×Blk)}{ln ln':Nat→Nat}{h:Nat}{ety:TypeId}{f:Bool}{τ:Ty}{l:List (S.D τ)}(H:FzOk (S:=S) st st' ln ln' h ety f τ l):∀v:TV S,CV st st' (v.er ln) ((v.fz h f τ l).er ln')
 | .dat _ _ _=>CV.refl _ _ _
 | .ptr _ _ _=>CV.refl _ _ _
 | .agg vs=>CV.agg (fz_cvL H vs)
 | .tup vs=>CV.tup (fz_cvL H vs)
 | .clo g vs=>CV.clo (fz_cvL H vs)
 | .loc h' o=>by
  simp only[TV.fz]
  cases Nat.beq h' h with
  | true=>exact CV.any _ _ _
  | false=>exact CV.refl _ _ _
 | .elt h' _ _ _=>by
  simp only[TV.fz]
  cases Nat.beq h' h with
  | true=>exact CV.any _ _ _
  | false=>exact CV.refl _ _ _
 | .osl h' τ'=>by
  simp only[TV.fz]
  cases hb:Nat.beq h' h with
  | true=>
   have:=Nat.eq_of_beq_eq_true hb
   subst this
   dsimp only
   split
   ·rename_i e _
    subst e
    exact CV.fz H.dom (fz_slG H)
   ·exact CV.any _ _ _
  | false=>
   show CV st st' (.osl h' _ 0 (ln h')) (.osl h' _ 0 (ln' h'))
   rw[H.agree h' fun e=>by subst e;rw[Nat.beq_refl] at hb;cases hb]
   exact CV.refl _ _ _
 | .sub h' _ _ _=>by
  simp only[TV.fz]
  cases Nat.beq h' h with
  | true=>exact CV.any _ _ _
  | false=>exact CV.refl _ _ _
 | .yld h'=>by
  simp only[TV.fz]
  cases Nat.beq h' h with
  | true=>exact CV.any _ _ _
  | false=>exact CV.refl _ _ _
 | .mp h'=>by
  simp only[TV.fz]
  cases Nat.beq h' h with
  | true=>exact CV.any _ _ _
  | false=>exact CV.refl _ _ _
 | .ks _ _ _ _=>CV.refl _ _ _
 | .kp _ _ _ _=>CV.refl _ _ _
 | .kpo _ _ _ _ _=>CV.refl _ _ _
 | .lpo _ _ _=>CV.refl _ _ _
 | .val _=>CV.refl _ _ _
 | .any=>CV.refl _ _ _
theorem fz_cvL {st st':List (Nat×Blk)}{ln ln':Nat→Nat}{h:Nat}{ety:TypeId}{f:Bool}{τ:Ty}{l:List (S.D τ)}(H:FzOk (S:=S) st st' ln ln' h ety f τ l):∀vs:List (TV S),CVL st st' (TV.er.go ln vs) (TV.er.go ln' (TV.fz.go h f τ l vs))
 | []=>⟨rfl,fun j g' hg'=>by simp[TV.fz.go,TV.er.go] at hg'⟩
 | v::r=>by
  obtain⟨h1,h2⟩:=fz_cvL H r
  refine⟨by simp only[TV.fz.go,TV.er.go,List.length_cons,h1],fun j g' hg'=>?_⟩
  simp only[TV.fz.go,TV.er.go] at hg'⊢
  cases j with
  | zero=>cases hg';exact⟨_,rfl,fz_cv H v⟩
  | succ j=>exact h2 j g' hg'
end
theorem fz_bcv {st st':List (Nat×Blk)}{ln ln':Nat→Nat}{h:Nat}{ety:TypeId}{f:Bool}{τ:Ty}{l:List (S.D τ)}(H:FzOk (S:=S) st st' ln ln' h ety f τ l) (o:TO S):BCV st st' (o.er ln) ((o.fz h f τ l).er ln'):=by
 cases o with
 | box e m cs=>exact⟨rfl,id,rfl,rfl,rfl,(fz_cvL H cs).1,.inr ⟨rfl,(fz_cvL H cs).2⟩⟩
 | arr e m f τ l=>exact BCV.refl _ _ _
 | lp p n cs=>exact⟨rfl,id,rfl,rfl,rfl,(fz_cvL H cs).1,.inr ⟨rfl,(fz_cvL H cs).2⟩⟩
 | deep=>exact BCV.refl _ _ _
theorem stHas_get {k:Nat}:∀{st:List (Nat×TO S)}{x:Nat}{o:TO S},oget st x=some o→stHas k st=false→o.has k=false
 | [],_,_,h,_=>by cases h
 | (t,o')::r,x,o,h,hf=>by
  simp only[stHas,Bool.or_eq_false_iff] at hf
  simp only[oget] at h
  cases hb:Nat.beq t x with
  | true=>rw[hb] at h;cases h;exact hf.1
  | false=>rw[hb] at h;exact stHas_get h hf.2
theorem fz_idO {h:Nat}{f:Bool}{τ:Ty}{l:List (S.D τ)}{o:TO S}(e:o.has h=false):o.fz h f τ l=o:=by
 cases o with
 | box e' m cs=>simp only[TO.fz];rw[fz_idL cs e]
 | arr e m f τ l=>rfl
 | lp p n cs=>simp only[TO.fz];rw[fz_idL cs e]
 | deep=>rfl
theorem get_erF' {ln:Nat→Nat}:∀{fr:List (Nat×TV S)}{t:Nat}{g:G},AM.get (erF ln fr) t=some g→∃v,tget fr t=some v∧g=v.er ln
 | [],_,_,h=>by cases h
 | (k,v)::r,t,g,h=>by
  simp only[erF,AM.get] at h
  simp only[tget]
  cases hk:Nat.beq k t with
  | true=>rw[hk] at h;cases h;exact⟨v,rfl,rfl⟩
  | false=>rw[hk] at h;exact get_erF' h
theorem sget_erS' {ln:Nat→Nat}:∀{st:List (Nat×TO S)}{t:Nat}{k:Blk},sget (erS ln st) t=some k→∃o,oget st t=some o∧k=o.er ln
 | [],_,_,h=>by cases h
 | (x,o)::r,t,k,h=>by
  simp only[erS,sget] at h
  simp only[oget]
  cases hk:Nat.beq x t with
  | true=>rw[hk] at h;cases h;exact⟨o,rfl,rfl⟩
  | false=>rw[hk] at h;exact sget_erS' h
theorem Gh.typed {s t:TSt S}(hfr:∀d v',tget t.frA d=some v'→∃v,tget s.frA d=some v∧CV s.er.st t.er.st (v.er s.ln) (v'.er t.ln)) (hst:∀x o',oget t.stA x=some o'→∃o,oget s.stA x=some o∧BCV s.er.st t.er.st (o.er s.ln) (o'.er t.ln))
  (hdf:TV.er.go s.ln s.df=TV.er.go t.ln t.df):Gh s.er t.er:=by
 refine Gh.gen (fun d g' hg'=>?_) (fun x k' hk'=>?_) hdf
 ·obtain⟨v',h1,rfl⟩:=get_erF' hg'
  obtain⟨v,h2,h3⟩:=hfr d v' h1
  exact⟨_,get_erF h2,h3⟩
 ·obtain⟨o',h1,rfl⟩:=sget_erS' hk'
  obtain⟨o,h2,h3⟩:=hst x o' h1
  exact⟨_,sget_erS h2,h3⟩
theorem freezeA_ok {s t:TSt S}{h:Nat}(hl:LInv s) (hf:freezeA s h=some t):Gh s.er t.er∧LInv t∧Keep s t:=by
 unfold freezeA at hf
 split at hf
 ·rename_i e f τ l ho
  split at hf
  ·rename_i hc
   simp only[Bool.and_eq_true,Bool.not_eq_true'] at hc
   obtain⟨c1,c2,c3,c4⟩:=hc
   cases hf
   generalize ht:({s with fr:=fzF h f τ l s.fr,st:=fzS h f τ l s.st,last:=rmH h s.last}:TSt S)=t
   have hlst:oget s.lst h=none:=by
    cases hq:oget s.lst h with
    | none=>rfl
    | some o=>rw[hq] at c4;cases c4
   have hgone:oget t.stA h=none:=by
    subst ht
    show oget (fzS h f τ l s.st++s.lst) h=none
    rw[oget_appA,oget_fzS_none];exact hlst
   have hother:∀{x:Nat},x≠h→∃g:TO S→TO S,(∀o,(g o).len=o.len)∧oget t.stA x=(oget s.stA x).map g∧∀o,oget s.stA x=some o→g o=o.fz h f τ l:=by
    intro x hx
    subst ht
    show ∃g:TO S→TO S,_∧oget (fzS h f τ l s.st++s.lst) x=(oget (s.st++s.lst) x).map g∧_
    refine⟨TO.fz h f τ l,fz_len h f τ l,?_,fun o _=>rfl⟩
    rw[oget_appA,oget_appA,oget_fzS_of hx]
    cases h1:oget s.st x with
    | some o=>rfl
    | none=>
     show oget s.lst x=(oget s.lst x).map _
     cases h2:oget s.lst x with
     | none=>rfl
     | some o=>rw[Option.map_some,fz_idO (stHas_get h2 c2)]
   have hag:AgreeLn s.ln t.ln h:=by
    intro x hx
    show lnO s.stA x=lnO t.stA x
    obtain⟨g,g1,g2,_⟩:=hother hx
    unfold lnO
    rw[g2]
    cases oget s.stA x with
    | none=>rfl
    | some o=>exact(g1 o).symm
   have H:FzOk (S:=S) s.er.st t.er.st s.ln t.ln h e f τ l:={
    get:=sget_st (stA_of ho)
    gone:=sget_er_none hgone
    dom:=fun x k hk=>by
     obtain⟨o',h1,_⟩:=sget_erS' hk
     have hx:x≠h:=fun e=>by subst e;rw[hgone] at h1;cases h1
     obtain⟨g,_,g2,_⟩:=hother hx
     rw[g2] at h1
     obtain⟨o,h2,_⟩:=Option.map_eq_some_iff.1 h1
     exact⟨_,sget_erS h2⟩
    len:=ln_arr (stA_of ho)
    agree:=hag}
   have hfrA:∀d,tget t.frA d=(tget s.frA d).map (TV.fz h f τ l):=by
    intro d
    subst ht
    show tget (fzF h f τ l s.fr++s.lo) d=(tget (s.fr++s.lo) d).map _
    rw[tget_app,tget_app,tget_fzF]
    cases tget s.fr d with
    | some v=>rfl
    | none=>
     show tget s.lo d=(tget s.lo d).map _
     cases h2:tget s.lo d with
     | none=>rfl
     | some v=>rw[Option.map_some,fz_id v (frHas_get h2 c1)]
   refine⟨Gh.typed (fun d v' hv'=>?_) (fun x o' ho'=>?_) ?_,?_,by subst ht;exact⟨rfl,rfl,rfl⟩⟩
   ·rw[hfrA] at hv'
    obtain⟨v,h1,rfl⟩:=Option.map_eq_some_iff.1 hv'
    exact⟨v,h1,fz_cv H v⟩
   ·have hx:x≠h:=fun e=>by subst e;rw[hgone] at ho';cases ho'
    obtain⟨g,_,g2,g3⟩:=hother hx
    rw[g2] at ho'
    obtain⟨o,h1,h2⟩:=Option.map_eq_some_iff.1 ho'
    refine⟨o,h1,?_⟩
    rw[←h2,g3 o h1]
    exact fz_bcv H o
   ·have:t.df=s.df:=by subst ht;rfl
    rw[this]
    exact go_agree hag s.df c3
   ·intro d hh x hm
    have hm:(d,hh,x)∈rmH h s.last:=by subst ht;exact hm
    obtain⟨h1,h2⟩:=rmH_mem hm
    obtain⟨i,ety,m,f',τ',l',a,e1,e2,e3⟩:=hl d hh x h1
    refine⟨i,ety,m,f',τ',l',a,?_,?_,e3⟩
    ·rw[hfrA,e1]
     show some ((TV.elt hh τ' i 0:TV S).fz h f τ l)=_
     rw[fz_id _ (by
      simp only[TV.has]
      cases hb:Nat.beq hh h with
      | false=>rfl
      | true=>exact absurd (Nat.eq_of_beq_eq_true hb) h2)]
    ·obtain⟨g,_,g2,g3⟩:=hother h2
     rw[g2,e2,Option.map_some,g3 _ e2];rfl
  ·cases hf
 ·cases hf
end
end Go.DN
