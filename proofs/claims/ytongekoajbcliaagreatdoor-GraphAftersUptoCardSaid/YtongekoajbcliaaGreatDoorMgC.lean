/-
  DN, first half: a typed interpreter over AM.
-/
import Derived.Test.YtongekoajbcliaaGreatDoorMgI
import Derived.Test.YtongekoajbcliaaGreatDoorMgF
set_option linter.all false
/-
 DN,part A:kinds of plain data,their encodings;typed values and states,and what they say of a state.
-/
namespace Go.DN
open Go.AM
structure l3 where
 a:Int
 b:Int
 t:Nat
 f:List (Nat×List Int)
structure Z9 where
 n:Nat
 es:List l3
 pd:Option (Option (Nat×Nat)×Nat×List Int)
inductive Ty where
 | int (k:IntKind)
 | bool
 | str
 | list (t:Ty)
 | st (n:Nat)
 | map
 | dC
 | pt (n:Nat)
 deriving DecidableEq
@[reducible] def Ty.den(α:Nat->Type):Ty->Type|.int _=>Int|.bool=>Bool|.str=>ByteArray|.list t=>List (t.den α)|.st n=>α n|.map=>Z9|.dC=>Bool|.pt n=>Option (α n)
def Ty.gA:Ty->Bool|.st _=>true|_=>false
def Ty.jb:Ty->Bool|.int _=>true|.bool=>true|.str=>true|_=>false
structure bp (α:Nat→Type) where
 τ:Ty
 a:τ.den α
def jF{α:Nat->Type}(b τ:Ty)(a:b.den α):Option (τ.den α):=if h:b=τ then some (h▸a) else none
def e9{α:Nat->Type}{c τ:Ty}{a:c.den α}{b:τ.den α}(h:jF c τ a=some b):(⟨c,a⟩:bp α)=⟨τ,b⟩:=by unfold jF at h;split at h;rename_i e;subst e;cases h;rfl;cases h
def CS{α:Nat->Type}(c:(n:Nat)->α n->List G):(τ:Ty)->τ.den α->List G|.int k,a=>[.val (.int k a)]|.bool,a=>[.val (.bool a)]|.str,a=>[.val (.string a)]|.list t,l=>[.sl (List.length l) (List.flatMap (CS c t) l)]|.st n,a=>c n a|.map,_=>[.val (.bool true)]|.dC,b=>[.dC b]|.pt n,o=>[match o with|none=>.val (.pointer none)|some a=>.ptr (c n a)]
structure Xf where
 N:Nat
 ay:List Nat
 ps:Array Tmp
 nV:Code
 body:Code
 id:Nat
structure eN where
 wN:Bool:=false
 aaM:TypeId→Option TypeId:=fun _=>none
 fR:Nat→Xf:=fun _=>⟨0,[],#[],.skip,.skip,0⟩
 α:Nat→Type
 dd:Nat→List Ty
 cells:(n:Nat)→α n→List (bp α)
 put:(n:Nat)→List (bp α)→Option (α n)
 gK:(n:Nat)→α n→List G
 ty:TypeId→Option Nat
 WK:TypeId→Option Ty
 nZ:∀n a,(cells n a).map bp.τ=dd n
 one:∀n t,t∈dd n→t.gA=false
 pos:∀n,dd n≠[]
 ig:∀n l a,put n l=some a→cells n a=l
 xW:∀n a,gK n a=(cells n a).flatMap (fun x=>CS gK x.τ x.a)
section
variable (S:eN)
abbrev eN.D(τ:Ty):Type:=τ.den S.α
abbrev eN.L:Type:=bp S.α
abbrev aX(τ:Ty)(a:S.D τ):List G:=CS S.gK τ a
def eN.sz(τ:Ty):Nat:=match τ with|.st n=>(S.dd n).length|_=>1
def Fu{τ:Ty}(h:τ.gA=false)(a:S.D τ):∃g,aX S τ a=[g]/\g.one=true:=by cases τ with|st n=>cases h|pt n=>cases a <;> exact⟨_,rfl,rfl⟩|_=>exact⟨_,rfl,rfl⟩
def pZ:∀(l:List S.L),(∀t∈l.map bp.τ,t.gA=false)->(l.flatMap (fun x=>CS S.gK x.τ x.a)).length=l.length/\∀g∈l.flatMap (fun x=>CS S.gK x.τ x.a),g.one=true|[],_=>⟨rfl,fun g h=>by cases h⟩|x::r,h=>by obtain⟨e,j⟩:=pZ r fun t d=>h t (ar _ d);obtain⟨g,c,f⟩:=Fu S (τ:=x.τ) (h _ au) x.a;simp only[cd];constructor;(have:(CS S.gK x.τ x.a).length=1:=by show(aX S x.τ x.a).length=1;rw[c];rfl);simp[e,this];omega;intro i b;rcases dy.1 b with a|a;have a:i∈aX S x.τ x.a:=a;rw[c] at a;simp at a;subst a;exact f;exact j _ a
def tS(τ:Ty)(a:S.D τ):(aX S τ a).length=S.sz τ:=by cases τ with|st n=>show(S.gK n a).length=(S.dd n).length;have:=S.nZ n a;rw[S.xW n a,(pZ S _ (fun t b=>S.one n t (by rw[<-this];exact b))).1,<-this,aJ]|_=>rfl
def LJ(τ:Ty):0<S.sz τ:=by cases τ with|st n=>exact List.length_pos_iff.2 (S.pos n)|_=>exact Nat.one_pos
def CT(τ:Ty)(a:S.D τ):∀g∈aX S τ a,g.one=true:=by cases τ with|st n=>show ∀g∈S.gK n a,_;have:=S.nZ n a;rw[S.xW n a];exact(pZ S _ (fun t d=>S.one n t (by rw[<-this];exact d))).2|_=>intro g b;obtain⟨f,e,c⟩:=Fu S (τ:=_) rfl a;rw[e] at b;simp at b;subst b;exact c
@[reducible] def np(τ:Ty):aI (S.D τ):=⟨S.sz τ,aX S τ,tS S τ,LJ S τ,fun a=>CT S τ a⟩
def dM(τ:Ty)(a:S.D τ):G:=(aX S τ a).headD .any
def j7{τ:Ty}(h:τ.gA=false)(a:S.D τ):aX S τ a=[dM S τ a]:=by obtain⟨g,b,_⟩:=Fu S h a;unfold dM;rw[b];rfl
def ir(n:Nat)(a:S.α n):aX S (.st n) a=(S.cells n a).map fun x=>dM S x.τ x.a:=by show S.gK n a=_;have e:=S.nZ n a;have c:∀t∈(S.cells n a).map bp.τ,t.gA=false:=fun t b=>S.one n t (by rw[<-e];exact b);rw[S.xW n a];generalize S.cells n a=l at c;induction l with|nil=>rfl|cons x r d=>simp only[cd,bg];rw[d fun t b=>c t (ar _ b)];have:=j7 S (τ:=x.τ) (c _ au) x.a;show aX S x.τ x.a++_=_;rw[this];rfl
end
inductive TV (S:eN) where
 | aE (f:Bool) (τ:Ty) (a:τ.den S.α)
 | ptr (f:Bool) (τ:Ty) (a:τ.den S.α)
 | agg (l:List (TV S))
 | bE (l:List (TV S))
 | loc (h off:Nat)
 | iU (h:Nat) (τ:Ty) (i j:Nat)
 | aN (h:Nat) (τ:Ty)
 | sub (h:Nat) (τ:Ty) (o n:Nat)
 | bf (f:FuncId) (caps:List (TV S))
 | da (h:Nat)
 | mp (h:Nat)
 | ks (h:Nat) (τ:Ty) (i n:Nat)
 | kp (h:Nat) (τ:Ty) (i j:Nat)
 | iQ (b:Bool) (h:Nat) (τ:Ty) (i j:Nat)
 | gG (b:Bool) (h off:Nat)
 | ee (b:Bool) (h:Nat)
 | val (v:Value)
 | any
inductive Dk where
 | wN (kty:TypeId)
 | rows (kty:TypeId) (ho:Option Nat)
 | map (q:IntKind) (kty tty:TypeId)
 | sm (ik:Bool)
 deriving DecidableEq
inductive TO (S:eN) where
 | box (bP:TypeId) (eC:Bool) (cs:List (TV S))
 | arr (bP:TypeId) (eC fresh:Bool) (τ:Ty) (l:List (τ.den S.α))
 | lp (key:Nat) (n:Int) (cs:List (TV S))
 | deep (bP:TypeId) (eC fresh:Bool) (dk:Dk) (τ:Ty) (a:τ.den S.α)
structure ae (S:eN) where
 fr:List (Nat×TV S)
 lo:List (Nat×TV S)
 st:List (Nat×TO S)
 bS:List (Nat×TO S)
 df:List (TV S)
 nx:Nat
 last:List (Nat×Nat×bp S.α)
section
variable {S:eN}
def ei(f:Bool)(g:G):G:=bif f then Er g else g
def pe(f:Bool)(τ:Ty)(a:S.D τ):G:=match τ with|.st n=>.agg ((aX S (.st n) a).map (ei f))|τ=>ei f (dM S τ a)
def U1(f:Bool)(τ:Ty)(a:S.D τ):G:=bif f then .fr (.ptr (aX S τ a)) else .ptr (aX S τ a)
def TV.er (ln:Nat→Nat):TV S→G
 | .aE f τ a=>pe f τ a
 | .ptr f τ a=>U1 f τ a
 | .agg l=>.agg (go ln l)
 | .bE l=>.bE (go ln l)
 | .loc h off=>.loc h off
 | .iU h τ i j=>.loc h (i*S.sz τ+j)
 | .aN h τ=>.aN h (S.sz τ) 0 (ln h)
 | .sub h τ o n=>.aN h (S.sz τ) (o*S.sz τ) n
 | .bf f caps=>.bf f (go ln caps)
 | .da h=>.da h
 | .mp h=>.eT h
 | .ks h τ i n=>.ks h i (S.sz τ) n
 | .kp h τ i j=>.kp h i (j*S.sz τ)
 | .iQ b h τ i j=>bif b then .val (.pointer none) else .kp h i (j*S.sz τ)
 | .gG b h off=>bif b then .val (.pointer none) else .loc h off
 | .ee b h=>bif b then .val (.map none) else .eT h
 | .val v=>.val v
 | .any=>.any
where go (ln:Nat→Nat):List (TV S)→List G
 | []=>[]
 | x::r=>x.er ln::go ln r
def cW(ln:Nat->Nat)(l:List (TV S)):TV.er.go ln l=l.map (TV.er ln):=by induction l with|nil=>rfl|cons x r a=>simp only[TV.er.go,bg,a]
def Fi(id:Nat)(n:Int):Option Code:=bif n==0 then none else bif n==1 then some (.exit id) else some .ret
def eN.lp(S:eN)(key:Nat)(n:Int):Lp:=⟨0,(S.fR key).N,(S.fR key).ay,(S.fR key).ps,(S.fR key).nV,(S.fR key).body,Fi (S.fR key).id n⟩
def yj:(τ:Ty)->S.D τ->Nat|.list _,l=>List.length l|_,_=>0
def TO.len:TO S->Nat|.arr _ _ _ _ l=>l.length|.deep _ _ _ _ b a=>yj b a|_=>0
def kJ:(τ:Ty)->S.D τ->Nat×List (Nat×List G)|.list (.list t),a=>(S.sz t,List.map (fun l=>(List.length l,List.flatMap (aX S t) l)) a)|_,_=>(1,[])
def aaL:bp S.α->Nat×List G|⟨.list t,l⟩=>(List.length l,List.flatMap (aX S t) l)|_=>(0,[])
def aaf:List Ty->Nat|.list t::_=>S.sz t|_=>1
def K4:(τ:Ty)->S.D τ->Nat×Nat×List (Nat×List G)|.list (.st n),l=>(aaf (S:=S) (S.dd n),(S.dd n).length,List.flatMap (fun a=>(S.cells n a).map aaL) l)|_,_=>(1,1,[])
def pU(q:IntKind)(l:List Int):List G:=l.map fun x=>.val (.int q x)
def l3.me(q:IntKind)(e:l3):ME:=⟨(e.a,e.b),e.t,e.f.map fun p=>(p.1,pU q p.2)⟩
def mapOf:(τ:Ty)->S.D τ->Z9|.map,d=>d|_,_=>⟨0,[],none⟩
def SN(q:IntKind):Option (Option (Nat×Nat)×Nat×List Int)->Option (Option (Nat×Nat)×Nat×List G)|some (s,x,l)=>some (s,x,pU q l)|none=>none
@[reducible] def KK:Bool->Type|true=>Int|false=>ByteArray
def xJ:(i:Bool)->KK i->Value|true,n=>.int .i64 n|false,s=>.string s
def Ps:Bool->Ty|true=>.int .i64|false=>.str
instance (i:Bool):DecidableEq (KK i):=match i with
 | true=>inferInstanceAs (DecidableEq Int)
 | false=>inferInstanceAs (DecidableEq ByteArray)
def rH:(i:Bool)->List (bp S.α)->KK i×G|false,[⟨.str,k⟩,⟨a,v⟩]=>((k:ByteArray),dM S a v)|true,[⟨.int .i64,k⟩,⟨a,v⟩]=>((k:Int),dM S a v)|false,_=>(ByteArray.mk #[],.any)|true,_=>((0:Int),.any)
def qZ(i:Bool):(τ:Ty)->S.D τ->List (KK i×G)|.st c,b=>(match S.cells c b with|[⟨.list (.st n),l⟩]=>List.map (fun a=>rH i (S.cells n a)) l|_=>[])|_,_=>[]
def Dk.dp(e:TypeId)(τ:Ty)(a:S.D τ):Dk->Dp|.wN b=>ur e b (kJ τ a).1 (kJ τ a).2|.rows b d=>YV e b (K4 τ a).1 (K4 τ a).2.1 (K4 τ a).2.2 d|.map q b c=>GN q b c (mapOf τ a).n ((mapOf τ a).es.map (l3.me q)) (SN q (mapOf τ a).pd)|.sm i=>yp (xJ i) (qZ i τ a)
def TO.er(ln:Nat->Nat):TO S->aw|.box e m c=>⟨e,false,m,false,0,TV.er.go ln c,none⟩|.arr e m f b l=>⟨e,true,m,f,S.sz b,List.flatMap (aX S b) l,none⟩|.lp d n c=>⟨0,false,false,false,0,TV.er.go ln c,some (.loop (S.lp d n))⟩|.deep e m f g b a=>⟨e,true,m,f,1,[],some (.deep (g.dp e b a))⟩
def bw:List (Nat×TV S)->Nat->Option (TV S)|[],_=>none|(k,g)::r,t=>bif Nat.beq k t then some g else bw r t
def aB:List (Nat×TO S)->Nat->Option (TO S)|[],_=>none|(k,g)::r,t=>bif Nat.beq k t then some g else aB r t
def cw(st:List (Nat×TO S))(h:Nat):Nat:=match aB st h with|some o=>o.len|none=>0
def iC(ln:Nat->Nat):List (Nat×TV S)->List (Nat×G)|[]=>[]|(t,v)::r=>(t,v.er ln)::iC ln r
def b6(ln:Nat->Nat):List (Nat×TO S)->List (Nat×aw)|[]=>[]|(t,o)::r=>(t,o.er ln)::b6 ln r
def ae.cm(s:ae S):List (Nat×TV S):=s.fr++s.lo
def ae.bo(s:ae S):List (Nat×TO S):=s.st++s.bS
def ae.ln(s:ae S):Nat->Nat:=cw s.bo
def ae.er(s:ae S):St:=⟨iC s.ln s.cm,b6 s.ln s.bo,TV.er.go s.ln s.df⟩
structure bG (s t:ae S):Prop where
 lo:t.lo=s.lo
 bS:t.bS=s.bS
 df:t.df=s.df
def bG.refl(s:ae S):bG s s:=⟨rfl,rfl,rfl⟩
def bG.trans{a b c:ae S}(h:bG a b)(d:bG b c):bG a c:=⟨d.lo.trans h.lo,d.bS.trans h.bS,d.df.trans h.df⟩
def gd{ln:Nat->Nat}:∀{fr:List (Nat×TV S)}{t:Nat}{v:TV S},bw fr t=some v->get (iC ln fr) t=some (v.er ln)|[],_,_,h=>by cases h|(k,g)::r,t,v,h=>by simp only[bw] at h;simp only[iC,AM.get];cases a:Nat.beq k t with|true=>rw[a] at h;cases h;rfl|false=>rw[a] at h;exact gd h
def gv{ln:Nat->Nat}:∀{st:List (Nat×TO S)}{t:Nat}{o:TO S},aB st t=some o->az (b6 ln st) t=some (o.er ln)|[],_,_,h=>by cases h|(k,g)::r,t,v,h=>by simp only[aB] at h;simp only[b6,az];cases a:Nat.beq k t with|true=>rw[a] at h;cases h;rfl|false=>rw[a] at h;exact gv h
def wk:Value->TV S|.int k n=>.aE true (.int k) n|.bool b=>.aE true .bool b|.string s=>.aE true .str s|v=>.val v
def LA(ln:Nat->Nat)(v:Value):(wk v:TV S).er ln=.val v:=by cases v <;> rfl
def cC(s:ae S):Operand->Option (TV S)|.tmp t=>bw s.cm t|.const v=>some (wk v)|.func f=>some (.bf f [])|.global _=>none
def bi{s:ae S}{x:Operand}{v:TV S}(h:cC s x=some v):ev s.er x=some (v.er s.ln):=by cases x with|tmp t=>exact gd h|const a=>cases h;simp only[ev,LA]|func f=>cases h;rfl|global _=>cases h
def L1(d:Nat):List (Nat×Nat×bp S.α)->List (Nat×Nat×bp S.α)|[]=>[]|x::r=>bif Nat.beq x.1 d then L1 d r else x::L1 d r
def xC(h:Nat):List (Nat×Nat×bp S.α)->List (Nat×Nat×bp S.α)|[]=>[]|x::r=>bif Nat.beq x.2.1 h then xC h r else x::xC h r
def Ii{d:Nat}{y:Nat×Nat×bp S.α}:∀{l:List (Nat×Nat×bp S.α)},y∈L1 d l->y∈l/\y.1≠d|[],h=>by cases h|x::r,h=>by simp only[L1] at h;cases a:Nat.beq x.1 d with|true=>rw[a] at h;obtain⟨c,b⟩:=Ii h;exact⟨ar _ c,b⟩|false=>rw[a] at h;rcases bh.1 h with e|h;subst e;exact⟨au,fun e=>by rw[e,aW] at a;cases a⟩;obtain⟨c,b⟩:=Ii h;exact⟨ar _ c,b⟩
def vZ{d:Nat}{y:Nat×Nat×bp S.α}:∀{l:List (Nat×Nat×bp S.α)},y∈xC d l->y∈l/\y.2.1≠d|[],h=>by cases h|x::r,h=>by simp only[xC] at h;cases a:Nat.beq x.2.1 d with|true=>rw[a] at h;obtain⟨c,b⟩:=vZ h;exact⟨ar _ c,b⟩|false=>rw[a] at h;rcases bh.1 h with e|h;subst e;exact⟨au,fun e=>by rw[e,aW] at a;cases a⟩;obtain⟨c,b⟩:=vZ h;exact⟨ar _ c,b⟩
def ae.put(s:ae S)(d:Nat)(v:TV S):ae S:={s with fr:=(d,v)::s.fr,last:=L1 d s.last}
def aQ(s:ae S):Prop:=∀d h x,(d,h,x)∈s.last->∃i c m f b l a,bw s.cm d=some (.iU h b i 0)/\aB s.bo h=some (.arr c m f b l)/\x=⟨b,a⟩/\l[i]?=some a
def Gd{d t:Nat}(v:TV S)(fr:List (Nat×TV S))(h:t≠d):bw ((d,v)::fr) t=bw fr t:=by simp only[bw];cases a:Nat.beq d t with|true=>exact absurd (ab a).symm h|false=>rfl
def aQ.put{s:ae S}(h:aQ s)(d:Nat)(v:TV S):aQ (s.put d v):=by intro c e x g;obtain⟨j,k⟩:=Ii g;obtain⟨i,n,m,f,o,l,a,p,b⟩:=h c e x j;exact⟨i,n,m,f,o,l,a,(Gd v s.cm k).trans p,b⟩
def iT(s:ae S)(d:Nat)(v:TV S):(s.put d v).er=s.er.put d (v.er s.ln):=rfl
end
end Go.DN
/-
 DN,part B:operations that yield a value and leave the world alone.
-/
namespace Go.DN
open Go.AM
section
variable {S:eN}
def nL(P:Program)(t:TypeId):Option Nat:=(P.info? t).map (·.size)
def Jt(P:Program)(t:TypeId):Option Bool:=match P.underlying t with|some (.struct _)=>some true|some (.array _ _)=>some true|some _=>some false|none=>none
def dG{P:Program}{t:TypeId}{n:Nat}(h:nL P t=some n):∀w,(sizeOf t).run P w=.ok n w:=by intro w;unfold nL at h;obtain⟨i,b,a⟩:=aA.1 h;subst a;simp[sizeOf,typeInfo,b]
def gM{P:Program}{t:TypeId}{b:Bool}(h:Jt P t=some b):∀w,(isAgg t).run P w=.ok b w:=by intro w;unfold Jt at h;cases a:P.underlying t with|none=>rw[a] at h;cases h|some d=>rw[a] at h;cases d <;> cases h <;> simp[isAgg,underlying,a]
def Wx(op:BinOp)(k:IntKind)(a b:Int):Option (TV S):=match op with|.add=>some (.aE true (.int k) (k.wrap (a+b)))|.sub=>some (.aE true (.int k) (k.wrap (a-b)))|.mul=>some (.aE true (.int k) (k.wrap (a*b)))|.eql=>some (.aE true .bool (a==b))|.neq=>some (.aE true .bool (a !=b))|.lss=>some (.aE true .bool (decide (a<b)))|.leq=>some (.aE true .bool (decide (a<=b)))|.gtr=>some (.aE true .bool (decide (a>b)))|.geq=>some (.aE true .bool (decide (a>=b)))|.and=>some (.aE true (.int k) (k.wrap ((BitVec.ofInt k.bits a &&& BitVec.ofInt k.bits b).toNat:Int)))|.or=>some (.aE true (.int k) (k.wrap ((BitVec.ofInt k.bits a ||| BitVec.ofInt k.bits b).toNat:Int)))|_=>none
def Yt{op:BinOp}{k:IntKind}{a b:Int}{v:TV S}(h:Wx op k a b=some v)(ln:Nat->Nat):∃r,v.er ln=.val r/\F2 op (.int k a) (.int k b)=some r:=by cases op <;> simp only[Wx] at h <;> cases h <;> exact⟨_,rfl,by simp[F2]⟩
def Ww(op:BinOp)(a b:ByteArray):Option (TV S):=match op with|.eql=>some (.aE true .bool (a.toList==b.toList))|.neq=>some (.aE true .bool (!(a.toList==b.toList)))|.lss=>some (.aE true .bool (Op.bytesLess a.toList b.toList))|_=>none
def Ys{op:BinOp}{a b:ByteArray}{v:TV S}(h:Ww op a b=some v)(ln:Nat->Nat):∃r,v.er ln=.val r/\F2 op (.string a) (.string b)=some r:=by cases op <;> simp only[Ww] at h <;> cases h <;> exact⟨_,rfl,by simp[F2]⟩
def G5(b:IntKind):List (bp S.α)->Option (List Int)|[]=>some []|⟨.int k,a⟩::r=>(match decEq k b with|isTrue _=>(match G5 b r with|some l=>some (a::l)|none=>none)|isFalse _=>none)|_=>none
def M5{b:IntKind}:∀{l:List (bp S.α)}{xs:List Int},G5 b l=some xs->(l.map fun x=>dM S x.τ x.a)=xs.map fun a=>.val (.int b a)|[],_,h=>by cases h;rfl|⟨.int k,a⟩::r,xs,h=>by simp only[G5] at h;split at h;rename_i e _;subst e;split at h;rename_i l c;cases h;rw[bg,bg,M5 c];rfl;cases h;cases h|⟨.bool,_⟩::_,_,h=>by cases h|⟨.dC,_⟩::_,_,h=>by cases h|⟨.pt _,_⟩::_,_,h=>by cases h|⟨.str,_⟩::_,_,h=>by cases h|⟨.list _,_⟩::_,_,h=>by cases h|⟨.st _,_⟩::_,_,h=>by cases h
def Ye{f:Bool}{n:Nat}{a:S.α n}{b:IntKind}{xs:List Int}(h:G5 b (S.cells n a)=some xs)(ln:Nat->Nat):(TV.aE f (.st n) a:TV S).er ln=.agg (xs.map fun a=>.val (.int b a)):=by show G.agg ((aX S (.st n) a).map (ei f))=_;rw[ir,M5 h,iY];congr 1;refine ft fun x _=>?_;cases f <;> rfl
def Ld(b:IntKind):List (TV S)->Option (List Int)|[]=>some []|.aE _ (.int k) a::r=>(match decEq k b with|isTrue _=>(match Ld b r with|some l=>some (a::l)|none=>none)|isFalse _=>none)|_::_=>none
def M4{b:IntKind}(ln:Nat->Nat):∀{l:List (TV S)}{xs:List Int},Ld b l=some xs->TV.er.go ln l=xs.map fun a=>.val (.int b a)|[],_,h=>by cases h;rfl|v::r,xs,h=>by unfold Ld at h;split at h;rename_i e;cases e;rename_i f k a d e;cases e;split at h;rename_i e _;subst e;split at h;rename_i l c;cases h;simp only[TV.er.go,M4 ln c,bg];congr 1;cases f <;> rfl;cases h;cases h;cases h
def RR(b:IntKind):TV S->Option (List Int)|.aE _ (.st n) a=>G5 b (S.cells n a)|.agg c=>Ld b c|_=>none
def PU{b:IntKind}{v:TV S}{xs:List Int}(h:RR b v=some xs)(ln:Nat->Nat):v.er ln=.agg (xs.map fun a=>.val (.int b a)):=by unfold RR at h;split at h;exact Ye h ln;exact congrArg G.agg (M4 ln h);cases h
def WA(P:Program)(op:BinOp)(t:TypeId)(x y:TV S){A:Type}(k:TV S->Option A):Option A:=match op with|.eql=>(match P.underlying t with|some (.array a e)=>(match P.underlying e with|some (.int c)=>(match RR c x with|some d=>(match RR c y with|some b=>(match decEq (nL P e) (some 1) with|isTrue _=>(match !(P.eqGuardType P.depth t)&&(Nat.beq d.length a&&Nat.beq b.length a) with|true=>k (.aE true .bool (Hq d b))|false=>none)|isFalse _=>none)|none=>none)|none=>none)|_=>none)|_=>none)|_=>none
def Qn:(τ:Ty)->S.D τ->Option Value|.int k,a=>some (.int k a)|.bool,a=>some (.bool a)|.str,a=>some (.string a)|_,_=>none
def LV:∀{τ:Ty}{a:S.D τ}{v:Value},Qn τ a=some v->∀f,ei f (dM S τ a)=.val v/\pe f τ a=.val v|.int k,a,_,h,f=>by cases h;cases f <;> exact⟨rfl,rfl⟩|.bool,a,_,h,f=>by cases h;cases f <;> exact⟨rfl,rfl⟩|.str,a,_,h,f=>by cases h;cases f <;> exact⟨rfl,rfl⟩|.list _,_,_,h,_=>by cases h|.st _,_,_,h,_=>by cases h|.map,_,_,h,_=>by cases h|.dC,_,_,h,_=>by cases h|.pt _,_,_,h,_=>by cases h
def Qo:List (bp S.α)->Option (List Value)|[]=>some []|x::r=>match Qn x.τ x.a,Qo r with|some v,some l=>some (v::l)|_,_=>none
def LW:List (TV S)->Option (List Value)|[]=>some []|.aE _ b a::r=>(match Qn b a,LW r with|some v,some l=>some (v::l)|_,_=>none)|_::_=>none
def WL:TV S->Option (List Value)|.aE _ (.st n) a=>Qo (S.cells n a)|.agg b=>LW b|_=>none
def Sl{v:TV S}{b:List Value}(h:WL v=some b)(ln:Nat->Nat):v.er ln=.agg (b.map .val):=by
 unfold WL at h;split at h;rename_i f n a;show G.agg ((aX S (.st n) a).map (ei f))=_;rw[ir,iY];congr 1;generalize S.cells n a=l at h;induction l generalizing b with|nil=>cases h;rfl|cons x r d=>simp only[Qo] at h;split at h;rename_i g c;cases h;rw[bg,bg,<-d c];congr 1;exact(LV g f).1;cases h
 rename_i i;refine congrArg G.agg ?_;induction i generalizing b with|nil=>cases h;rfl|cons x r d=>unfold LW at h;split at h;rename_i e;cases e;rename_i f k a j e;cases e;split at h;rename_i g c;cases h;simp only[TV.er.go,bg,<-d c];congr 1;exact(LV g f).2;cases h;cases h
 cases h
def eo(P:Program)(op:BinOp)(t:TypeId)(x y:TV S){A:Type}(k:TV S->Option A):Option A:=match P.underlying t with|some (.struct c)=>(match WL x with|some d=>(match WL y with|some a=>(match IU P c.toList d a with|some b=>(match !(P.stoodInHeld t)&&!(P.eqGuardType P.depth t) with|true=>(match op with|.eql=>k (.aE true .bool b)|.neq=>k (.aE true .bool (!b))|_=>none)|false=>none)|none=>none)|none=>none)|none=>none)|_=>none
def Xa(P:Program)(op:BinOp)(t:TypeId)(x y:TV S){A:Type}(k:TV S->Option A):Option A:=match P.underlying t with|some (.struct _)=>eo P op t x y k|_=>WA P op t x y k
def Wy(P:Program)(op:BinOp)(t:TypeId)(x y:TV S){A:Type}(k:TV S->Option A):Option A:=match x with|.aE _ (.int c) a=>(match y with|.aE _ (.int d) b=>(match op with|.quo=>(match decEq c d with|isTrue _=>(ba (b≠0)).bind fun _=>k (.aE true (.int c) (c.wrap (Int.tdiv a b)))|isFalse _=>none)|.rem=>(match decEq c d with|isTrue _=>(ba (b≠0)).bind fun _=>k (.aE true (.int c) (Int.tmod a b))|isFalse _=>none)|.shr=>(ba (0<=b)).bind fun _=>k (.aE true (.int c) (Int.fdiv a (2^(min (Int.toNat b) c.bits))))|.shl=>(ba (0<=b)).bind fun _=>k (.aE true (.int c) (c.wrap (a*2^(min (Int.toNat b) c.bits))))|op=>match decEq c d with|isTrue _=>(match Wx op c a b with|some v=>k v|none=>none)|isFalse _=>none)|_=>none)|.aE _ .str a=>(match y with|.aE _ .str b=>(match op with|.add=>(ba (((a.size+b.size:Nat):Int)<=9223372036854775807)).bind fun _=>k (.aE true .str (a++b))|op=>match Ww op a b with|some v=>k v|none=>none)|_=>none)|.aE _ .bool a=>(match y with|.aE _ .bool b=>(match P.underlying t with|some .bool=>(match op with|.eql=>k (.aE true .bool (a==b))|.neq=>k (.aE true .bool (!(a==b)))|_=>none)|_=>none)|_=>none)|.aE f (.st n) a=>Xa P op t (.aE f (.st n) a) y k|.agg e=>Xa P op t (.agg e) y k|_=>none
section
variable {P:Program}{s:ae S}{dst:Option Tmp}{ty:TypeId}{pos:String}{after:Array Edge}{guard:Option (Nat×Bool)}
def tU(f:Bool)(k:IntKind)(a:Int):pe (S:=S) f (.int k) a=.val (.int k a):=by cases f <;> rfl
def iu(f:Bool)(a:Bool):pe (S:=S) f .bool a=.val (.bool a):=by cases f <;> rfl
def NE(f:Bool)(a:ByteArray):pe (S:=S) f .str a=.val (.string a):=by cases f <;> rfl
def kc{x:Operand}{f:Bool}{k:IntKind}{a:Int}(h:cC s x=some (.aE f (.int k) a)):ev s.er x=some (.val (.int k a)):=by rw[bi h];exact congrArg some (tU f k a)
def Np{x:Operand}{f:Bool}{a:Bool}(h:cC s x=some (.aE f .bool a)):ev s.er x=some (.val (.bool a)):=by rw[bi h];exact congrArg some (iu f a)
def Hm{x:Operand}{f:Bool}{a:ByteArray}(h:cC s x=some (.aE f .str a)):ev s.er x=some (.val (.string a)):=by rw[bi h];exact congrArg some (NE f a)
def Yy{op:BinOp}{t t':TypeId}{x y:Operand}{d f:TV S}{A:Type}{k:TV S->Option A}{r:A}(hx:cC s x=some d)(i:cC s y=some f)(h:WA P op t d f k=some r):∃v,PY P s.er ⟨dst,.binOp op t x y t',ty,pos,after,guard⟩ (v.er s.ln)/\k v=some r:=by unfold WA at h;split at h;split at h;rename_i g;split at h;rename_i a;split at h;rename_i b;split at h;rename_i c;split at h;rename_i j _;split at h;rename_i e;simp only[ag,aT] at e;obtain⟨m,n,l⟩:=e;exact⟨_,PY.aaC (by rw[bi hx,PU b]) (by rw[bi i,PU c]) g a (dG j) (ab n) (ab l) m,h⟩;cases h;cases h;cases h;cases h;cases h;cases h;cases h
def TU{op:BinOp}{t t':TypeId}{x y:Operand}{e g:TV S}{A:Type}{k:TV S->Option A}{r:A}(hx:cC s x=some e)(f:cC s y=some g)(h:Xa P op t e g k=some r):∃v,PY P s.er ⟨dst,.binOp op t x y t',ty,pos,after,guard⟩ (v.er s.ln)/\k v=some r:=by unfold Xa at h;split at h;unfold eo at h;split at h;rename_i i;split at h;rename_i a;split at h;rename_i d;split at h;rename_i b j;split at h;rename_i c;simp only[ag,aT] at c;have:=PY.aaK (s:=s.er) (dst:=dst) (ty:=ty) (pos:=pos) (after:=after) (guard:=guard) (t':=t') (by rw[bi hx,Sl a]) (by rw[bi f,Sl d]) i c.1 c.2 j;split at h;exact⟨.aE true .bool b,this.1,h⟩;exact⟨.aE true .bool (!b),this.2,h⟩;cases h;cases h;cases h;cases h;cases h;cases h;exact Yy hx f h
def Yu{op:BinOp}{t t':TypeId}{x y:Operand}{m n:TV S}{A:Type}{k:TV S->Option A}{r:A}(hx:cC s x=some m)(d:cC s y=some n)(h:Wy P op t m n k=some r):∃v,PY P s.er ⟨dst,.binOp op t x y t',ty,pos,after,guard⟩ (v.er s.ln)/\k v=some r:=by unfold Wy at h;split at h;split at h;rename_i o p a q z b;have f:=kc hx;have g:=kc d;split at h;split at h;rename_i _ e _;subst e;obtain⟨u,c,h⟩:=bind_some h;exact⟨_,PY.quo f g (cI c),h⟩;cases h;split at h;rename_i _ e _;subst e;obtain⟨u,c,h⟩:=bind_some h;exact⟨_,PY.rem f g (cI c),h⟩;cases h;obtain⟨u,c,h⟩:=bind_some h;exact⟨_,PY.shr f g (cI c),h⟩;obtain⟨u,c,h⟩:=bind_some h;exact⟨_,PY.shl f g (cI c),h⟩;split at h;rename_i e _;subst e;split at h;rename_i v l;obtain⟨w,j,i⟩:=Yt l s.ln;exact⟨v,by rw[j];exact PY.bin f g i,h⟩;cases h;cases h;cases h;split at h;split at h;obtain⟨u,c,h⟩:=bind_some h;exact⟨_,PY.cat (Hm hx) (Hm d) (cI c),h⟩;split at h;rename_i v l;obtain⟨w,j,i⟩:=Ys l s.ln;exact⟨v,by rw[j];exact PY.bin (Hm hx) (Hm d) i,h⟩;cases h;cases h;split at h;split at h;rename_i c;split at h;exact⟨_,PY.abj (Np hx) (Np d) c,h⟩;exact⟨_,PY.abf (Np hx) (Np d) c,h⟩;cases h;cases h;cases h;exact TU hx d h;exact TU hx d h;cases h
end
end
end Go.DN
/-
 DN,part C:more operations that yield a value;a value seen as plain data.
-/
namespace Go.DN
open Go.AM
def RW(g g':G):Prop:=∀(O:Nat->Prop) (a:Nat) (w:World) (b:Mu) (v:Value),aU O a w b g v->aU O a w b g' v
def RW.refl(g:G):RW g g:=fun _ _ _ _ _ h=>h
def RW.trans{a b c:G}(h:RW a b)(d:RW b c):RW a c:=fun _ _ _ _ _ x=>d _ _ _ _ _ (h _ _ _ _ _ x)
def PY.rw{P:Program}{s:St}{o:Oper}{g g':G}(h:PY P s o g)(c:RW g g'):PY P s o g':=fun N d e a w b=>let ⟨v,h1,h2⟩:=h N d e a w b;⟨v,c _ _ _ _ _ h1,h2⟩
def bN.wy{O:Nat->Prop}{w:World}{cs:List G}{v:Value}(n:Nat)(h:bN O w (.ptr cs) v):bN O w (.ptr (cs.take n)) v:=by cases h with|ptr _ b c d e f i k=>refine .ptr _ b c d e f (fun j l=>i j ?_) (fun j g a=>k j g ?_);rw[bA] at l;omega;rw[br] at a;split at a;exact a;cases a
def Im(f:Bool)(cs:List G):G:=bif f then .fr (.ptr cs) else .ptr cs
def RW.wy(f:Bool)(cs:List G)(n:Nat):RW (Im f cs) (Im f (cs.take n)):=by intro O a w b v h;cases f with|true=>(cases h with|aG h=>cases h|fr h=>exact .fr (bN.wy n h))|false=>cases h with|aG h=>exact .aG (bN.wy n h)
def RW.nil:RW (.val (.slice none 0 0)) (.fr (.sl 0 [])):=by intro O a w b v h;cases h with|aG h=>cases h;exact .fr .nil
def RW.YH(g:G):RW (Er g) g:=by intro O a w b v h;cases g <;> first|exact h|(cases h with|aG h=>cases h|fr h=>exact .aG h.O5)
def RW.ei(f f':Bool)(g:G)(h:f'=true->f=true):RW (DN.ei f g) (DN.ei f' g):=by cases f with|true=>(cases f' with|true=>exact RW.refl _|false=>exact RW.YH g)|false=>cases f' with|true=>cases h rfl|false=>exact RW.refl _
def RW.agg{gs b:List G}(l:b.length=gs.length)(h:∀(j:Nat) (g':G),b[j]?=some g'->∃g,gs[j]?=some g/\RW g g'):RW (.agg gs) (.agg b):=by intro O m w n v a;cases a with|aG a=>(cases a with|agg _ i e f=>exact .agg _ i (e.trans l.symm) fun j g' v c a=>(by obtain⟨g,k,d⟩:=h j g' c;exact d _ _ _ _ _ (.aG (f j g v k a))))|agg _ i e f=>exact .agg _ i (e.trans l.symm) fun j g' v c a=>(by obtain⟨g,k,d⟩:=h j g' c;exact d _ _ _ _ _ (f j g v k a))
section
variable {S:eN}
def pH(τ:Ty):TV S->Option (Bool×S.D τ)|.aE f c a=>(match c.gA with|true=>none|false=>match jF c τ a with|some b=>some (f||τ.jb,b)|none=>none)|.val (.slice none 0 0)=>(match τ with|.list _=>some (true,[])|_=>none)|.val (.pointer none)=>(match τ with|.pt n=>some (true,(none:Option (S.α n)))|_=>none)|_=>none
def H9{τ:Ty}{v:TV S}{f:Bool}{a:S.D τ}(h:pH τ v=some (f,a))(ln:Nat->Nat):τ.gA=false/\RW (v.er ln) (ei f (dM S τ a)):=by
 unfold pH at h;split at h;rename_i g e i;split at h;cases h;rename_i c;split at h;rename_i b d;cases h;have:=e9 d;cases this;refine⟨c,?_⟩;cases τ with|st n=>cases c|_=>cases g <;> exact RW.refl _
 cases h;split at h;cases h;exact⟨rfl,RW.nil⟩;cases h;split at h;cases h;exact⟨rfl,RW.refl _⟩;cases h;cases h
def EI:List Ty->List (TV S)->Option (Bool×List (bp S.α))|[],[]=>some (true,[])|b::d,v::c=>(match pH b v with|some (f,a)=>(match EI d c with|some (g,l)=>some (f&&g,⟨b,a⟩::l)|none=>none)|none=>none)|_,_=>none
def Dy(ln:Nat->Nat):∀{ts:List Ty}{vs:List (TV S)}{f:Bool}{l:List (bp S.α)},EI ts vs=some (f,l)->l.length=vs.length/\∀(j:Nat) (x:bp S.α),l[j]?=some x->∃v,vs[j]?=some v/\RW (v.er ln) (ei f (dM S x.τ x.a))|[],[],_,_,h=>by cases h;exact⟨rfl,fun j x h=>by simp at h⟩|r::ts,v::vs,f,l,h=>by simp only[EI] at h;split at h;rename_i p a e;split at h;rename_i g q k;cases h;obtain⟨n,d⟩:=Dy ln k;obtain⟨_,i⟩:=H9 e ln;refine⟨by simp[n],fun j x b=>?_⟩;(cases j with|zero=>cases b;exact⟨v,rfl,i.trans (RW.ei _ _ _ fun h=>by simp at h;exact h.1)⟩|succ j=>obtain⟨m,o,c⟩:=d j x b;exact⟨m,o,c.trans (RW.ei _ _ _ fun h=>by simp at h;exact h.2)⟩);cases h;cases h|[],_::_,_,_,h=>by cases h|_::_,[],_,_,h=>by cases h
def Ge(τ:Ty)(v:TV S):Option (Bool×S.D τ):=match v with|.aE f c a=>(match jF c τ a with|some b=>some (f||τ.jb,b)|none=>none)|.val (.slice none 0 0)=>(match τ with|.list _=>some (true,[])|_=>none)|.val (.pointer none)=>(match τ with|.pt n=>some (true,(none:Option (S.α n)))|_=>none)|.agg d=>(match τ with|.st n=>(match EI (S.dd n) d with|some (f,l)=>(match S.put n l with|some a=>some (f,a)|none=>none)|none=>none)|_=>none)|_=>none
def YI{τ:Ty}{v:TV S}{f:Bool}{a:S.D τ}(h:Ge τ v=some (f,a))(ln:Nat->Nat):RW (v.er ln) (pe f τ a):=by
 unfold Ge at h;split at h;split at h;rename_i d _ _ _ b r;cases h;have:=e9 r;cases this;cases τ with|st n=>cases d <;> exact RW.refl _|_=>cases d <;> exact RW.refl _
 cases h;split at h;cases h;exact RW.nil;cases h;split at h;cases h;exact RW.refl _;cases h;split at h;rename_i _ g _ n;split at h;rename_i w l k;split at h;rename_i t o;cases h;obtain⟨p,i⟩:=Dy ln k;have m:=S.ig n l a o;show RW (.agg (TV.er.go ln g)) (.agg ((aX S (.st n) a).map (ei f)));rw[cW,ir,m];refine RW.agg (by simp[p]) fun j u c=>?_;simp only[ao,Option.map_map] at c;obtain⟨x,q,rfl⟩:=aA.1 c;obtain⟨v,s,e⟩:=i j x q;exact⟨v.er ln,by rw[ao,s];rfl,e⟩;cases h;cases h;cases h;cases h
def split(f:Bool)(n:Nat)(a:S.α n):List (TV S):=(S.cells n a).map fun x=>.aE f x.τ x.a
def qs{τ:Ty}(h:τ.gA=false)(f:Bool)(a:S.D τ)(ln:Nat->Nat):(TV.aE f τ a:TV S).er ln=ei f (dM S τ a):=by cases τ with|st n=>cases h|_=>rfl
def lH(n:Nat)(a:S.α n):∀x∈S.cells n a,x.τ.gA=false:=fun x b=>S.one n _ (by rw[<-S.nZ n a];exact kX b)
def LQ(f:Bool)(n:Nat)(a:S.α n)(ln:Nat->Nat):TV.er.go ln (split f n a)=(aX S (.st n) a).map (ei f):=by rw[cW,ir];have h:=lH n a;unfold split;generalize S.cells n a=l at h;induction l with|nil=>rfl|cons x r c=>simp only[bg];rw[qs (h x au),c fun y b=>h y (ar _ b)]
def eM:TV S->List (TV S)|.agg l=>l|.aE f (.st n) a=>split f n a|v=>[v]
def Se(v:TV S)(ln:Nat->Nat)(h:∀u,v=.val u->u.oneCell'=true):cZ (v.er ln)=TV.er.go ln (eM v):=by
 have d:∀(f:Bool) (c:Ty) (a:S.D c),c.gA=false->cZ (ei f (dM S c a))=[ei f (dM S c a)]:=by intro f c a g;cases c with|st n=>cases g|pt n=>cases a <;> cases f <;> rfl|_=>cases f <;> rfl
 cases v with|aE f c a=>(cases c with|st n=>exact(LQ f n a ln).symm|_=>exact d f _ a rfl)|agg l=>rfl|ptr f c a=>cases f <;> rfl|val u=>exact congrArg (List.map G.val) (congrArg Array.toList (Bs (h u rfl)))|iQ b h c i j=>cases b <;> rfl|gG b h e=>cases b <;> rfl|ee b h=>cases b <;> rfl|_=>rfl
end
end Go.DN
/-
 DN,part D:the operations that yield a value and leave the world alone,as one function.
-/
namespace Go.DN
open Go.AM
section
variable {S:eN}
def VV(P:Program)(t:TypeId)(i:Nat)(x:TV S):Option (TV S):=match P.underlying t with|some (.struct k)=>(match k[i]? with|some f=>(match nL P f.type with|some (z+1)=>(match x with|.loc h b=>some (.loc h (b+f.offset))|.iU h c i j=>some (.iU h c i (j+f.offset))|.kp h (.list c) i j=>some (.kp h (.list c) i (j+f.offset))|.ptr d (.st n) a=>(match Jt P f.type with|some false=>(match (S.cells n a)[f.offset]? with|some y=>some (.ptr d y.τ y.a)|none=>none)|some true=>(match S.ty f.type with|some e=>(match S.put e (((S.cells n a).drop f.offset).take (z+1)) with|some g=>some (.ptr d (.st e) g)|none=>none)|none=>none)|none=>none)|_=>none)|_=>none)|none=>none)|_=>none
def VU(P:Program)(t:TypeId)(i:Nat)(x:TV S):Option (TV S):=match P.underlying t with|some (.struct c)=>(match c[i]? with|some f=>(match Jt P f.type with|some false=>(match x with|.agg l=>l[f.offset]?|.aE b (.st n) a=>(match (S.cells n a)[f.offset]? with|some y=>some (.aE b y.τ y.a)|none=>none)|_=>none)|_=>none)|none=>none)|_=>none
section
variable {P:Program}{s:ae S}{dst:Option Tmp}{ty:TypeId}{pos:String}{after:Array Edge}{guard:Option (Nat×Bool)}
def X9{t:TypeId}{i:Nat}{x:Operand}{d v:TV S}(hx:cC s x=some d)(h:VU P t i d=some v):PY P s.er ⟨dst,.field t x i,ty,pos,after,guard⟩ (v.er s.ln):=by unfold VU at h;split at h;rename_i k e;split at h;rename_i f b;split at h;rename_i c;split at h;rename_i l;refine PY.TN (gs:=TV.er.go s.ln l) (bi hx) e b (gM c) ?_;rw[cW,ao,h];rfl;rename_i g n a;split at h;rename_i y j;cases h;refine PY.TN (gs:=(aX S (.st n) a).map (ei g)) (bi hx) e b (gM c) ?_;rw[<-LQ g n a s.ln,cW,ao];unfold split;rw[ao,j];rfl;cases h;cases h;cases h;cases h;cases h
def Ho(f:Bool)(τ:Ty)(a:S.D τ)(ln:Nat->Nat):(TV.ptr f τ a:TV S).er ln=Im f (aX S τ a):=rfl
def Ya{t:TypeId}{i:Nat}{x:Operand}{q v:TV S}(hx:cC s x=some q)(h:VV P t i q=some v):PY P s.er ⟨dst,.fieldAddr t x i,ty,pos,after,guard⟩ (v.er s.ln):=by
 unfold VV at h;split at h;rename_i D g;split at h;rename_i f l;split at h;rename_i z k;split at h;cases h;exact PY.field (bi hx) rfl g l (dG k) (by omega);cases h;rename_i c b d j;refine PY.rw (PY.field (g':=.loc c (d*S.sz b+j+f.offset)) (bi hx) rfl g l (dG k) (by omega)) ?_;show RW _ (.loc c (d*S.sz b+(j+f.offset)));rw[Nat.add_assoc];exact RW.refl _;cases h;rename_i c b d j;refine PY.rw (PY.field (g':=.kp c d (j*S.sz (.list b)+f.offset)) (bi hx) rfl g l (dG k) (by omega)) ?_;show RW _ (.kp c d ((j+f.offset)*S.sz (.list b)));rw[show S.sz (.list b)=1 from rfl,pD,pD];exact RW.refl _;rename_i o n a;have e:∀(p:List G) (m:Nat),((aX S (.st n) a).drop f.offset).take m=p->PY P s.er ⟨dst,.fieldAddr t x i,ty,pos,after,guard⟩ (Im o p):=by intro p m C;subst C;have u:=bi hx;rw[Ho] at u;refine PY.rw (PY.field (g':=Im o ((aX S (.st n) a).drop f.offset)) u ?_ g l (dG k) (by omega)) (RW.wy _ _ _);cases o <;> rfl
 split at h;split at h;rename_i y r;cases h;refine e _ 1 ?_;rw[ir,j7 S (lH n a y (ak r))];rw[<-List.map_drop,<-List.map_take];have:((S.cells n a).drop f.offset).take 1=[y]:=by have:=ap.1 r;obtain⟨A,B⟩:=this;rw[cT A,B];rfl
 rw[this];rfl;cases h;split at h;rename_i E _;split at h;rename_i F w;cases h;refine e _ (z+1) ?_;rw[ir,ir,S.ig _ _ _ w,List.map_take,List.map_drop];cases h;cases h;cases h;cases h;cases h;cases h;cases h
def Cc(h:Nat)(τ:Ty)(o n:Nat)(lo hi:Option (TV S)){A:Type}(k:TV S->Option A):Option A:=match lo,hi with|some (.aE _ (.int _) i),some (.aE _ (.int _) j)=>(ba (0<=i/\i<=j/\j<=(n:Int))).bind fun _=>k (.sub h τ (o+Int.toNat i) (Int.toNat j-Int.toNat i))|some (.aE _ (.int _) i),none=>(ba (0<=i/\i<=(n:Int))).bind fun _=>k (.sub h τ (o+Int.toNat i) (n-Int.toNat i))|none,some (.aE _ (.int _) j)=>(ba (0<=j/\j<=(n:Int))).bind fun _=>k (.sub h τ o (Int.toNat j))|none,none=>none|_,_=>none
def UQ(ln:Nat->Nat)(t:TypeId)(P:Program)(x:TV S)(lo hi:Option (TV S)){A:Type}(k:TV S->Option A):Option A:=match P.underlying t with|some (.slice e)=>(match x with|.aE f (.list a) l=>(match decEq (nL P e) (some (S.sz a)) with|isFalse _=>none|isTrue _=>match lo,hi with|some (.aE _ (.int _) i),some (.aE _ (.int _) j)=>(ba (0<=i/\i<=j/\j<=(List.length l:Int))).bind fun _=>k (.aE f (.list a) (dZ l i j))|some (.aE _ (.int _) i),none=>(ba (0<=i/\i<=(List.length l:Int))).bind fun _=>k (.aE f (.list a) (dZ l i (List.length l:Int)))|none,some (.aE _ (.int _) j)=>(ba (0<=j/\j<=(List.length l:Int))).bind fun _=>k (.aE f (.list a) (dZ l 0 j))|_,_=>none)|.aN h a=>(match decEq (nL P e) (some (S.sz a)) with|isFalse _=>none|isTrue _=>Cc h a 0 (ln h) lo hi k)|.sub h a o n=>(match decEq (nL P e) (some (S.sz a)) with|isFalse _=>none|isTrue _=>Cc h a o n lo hi k)|_=>none)|some .string=>(match x with|.aE _ .str b=>(match lo,hi with|some (.aE _ (.int _) i),some (.aE _ (.int _) j)=>(ba (0<=i/\i<=j/\j<=(b.size:Int))).bind fun _=>k (.aE true .str (b.extract i.toNat j.toNat))|some (.aE _ (.int _) i),none=>(ba (0<=i/\i<=(b.size:Int))).bind fun _=>k (.aE true .str (b.extract i.toNat b.size))|none,some (.aE _ (.int _) j)=>(ba (0<=j/\j<=(b.size:Int))).bind fun _=>k (.aE true .str (b.extract 0 j.toNat))|_,_=>none)|_=>none)|_=>none
def aU.Cc{O:Nat->Prop}{base:Nat}{w:World}{μ:Mu}{h sz off n i j:Nat}{v:Value}(k:aU O base w μ (.aN h sz off n) v)(h1:i<=j)(h2:j<=n):∃(a:Option Addr) (c:Nat),v=.slice a n c/\n<=c/\aU O base w μ (.aN h sz (off+i*sz) (j-i)) (sliced a i j c sz):=by cases k with|aG k=>cases k|gz _ _ f=>(obtain rfl:i=0:=by omega);(obtain rfl:j=0:=by omega);refine⟨none,0,rfl,aH _,?_⟩;simp only[sliced,gR,gu,if_true];exact .gz h sz f|aN _ _ _ _ b m c f s o=>refine⟨_,c,rfl,s,?_⟩;unfold sliced;by_cases e:c=i;rw[if_pos e];(have p:j-i=0:=by omega);(have l:c-i=0:=by omega);rw[p,l];by_cases d:0<m.1;(have:off+i*sz=m.1:=by rw[<-e];exact o);rw[this];exact .fD h sz off b m.1 f d;(have q:off=0:=by omega);(have r:i*sz=0:=by rw[<-e];omega);rw[q,r];exact .aN h sz 0 0 b m 0 f (aH _) (by omega);rw[if_neg e];simp only[cn,Addr.lK];refine .aN h sz _ _ b m _ f (by omega) ?_;(have:i*sz+(c-i)*sz=c*sz:=by rw[<-fp];congr 1;omega);omega|fD _ _ g b m f d=>(obtain rfl:i=0:=by omega);(obtain rfl:j=0:=by omega);refine⟨_,0,rfl,aH _,?_⟩;simp only[sliced,gR,gu,if_true];exact .fD h sz g b _ f d
def wg(f:Bool)(τ:Ty)(l:List (S.D τ))(ln:Nat->Nat):(TV.aE f (.list τ) l:TV S).er ln=@Gi _ (np S τ) f l:=by cases f <;> rfl
def sj(s:ae S):Option Operand->Option (Option (TV S))|none=>some none|some x=>match cC s x with|some v=>some (some v)|none=>none
def P9{j:Int}{n:Nat}(h:j<=(n:Int)):j.toNat<=n:=by omega
def Tg{j:Int}{n a:Nat}(h:j<=(n:Int))(b:n<=a):j<=(a:Int):=by omega
def ON{t e:TypeId}{x:Operand}{lo hi:Option Operand}{h n o:Nat}{τ:Ty}{T M:Option (TV S)}{A:Type}{k:TV S->Option A}{r:A}(hx:ev s.er x=some (.aN h (S.sz τ) (o*S.sz τ) n))(F:sj s lo=some T)(H:sj s hi=some M)(J:P.underlying t=some (.slice e))(K:nL P e=some (S.sz τ))(b:Cc h τ o n T M k=some r):∃v,PY P s.er ⟨dst,.slice t x lo hi none,ty,pos,after,guard⟩ (v.er s.ln)/\k v=some r:=by
 letI:=np S τ;have f:∀{o:Option Operand}{v:TV S},sj s o=some (some v)->∃y,o=some y/\cC s y=some v:=by intro o v h;cases o with|none=>cases h|some y=>simp only[sj] at h;split at h;rename_i V U;cases h;exact⟨y,rfl,U⟩;cases h
 have z:∀{o:Option Operand},sj s o=some none->o=none:=by intro o h;cases o with|none=>rfl|some y=>simp only[sj] at h;split at h <;> cases h
 have L:∀(i m:Nat),(TV.sub h τ (o+i) m:TV S).er s.ln=.aN h (S.sz τ) (o*S.sz τ+i*S.sz τ) m:=by intro i m;show G.aN h (S.sz τ) ((o+i)*S.sz τ) m=_;rw[fp]
 unfold Cc at b;split at b;obtain⟨u,C,b⟩:=bind_some b;obtain⟨y,rfl,q⟩:=f F;obtain⟨W,rfl,I⟩:=f H;obtain⟨l,g,Q⟩:=cI C;refine⟨_,?_,b⟩;rw[L];intro N R O a w d;obtain⟨p,c,B,E,D⟩:=aU.Cc (d.ev hx) (Int.toNat_le_toNat g) (P9 Q);refine⟨_,D,fun j=>?_⟩;simp[execOp,B,d.val (kc q),d.val (kc I),LY (α:=S.D τ) (P:=P) J (dG K) p n c l g (Tg Q E) j];rfl;obtain⟨u,C,b⟩:=bind_some b;obtain⟨y,rfl,q⟩:=f F;cases z H;obtain⟨l,g⟩:=cI C;refine⟨_,?_,b⟩;rw[L];intro N R O a w d;obtain⟨p,c,B,E,D⟩:=aU.Cc (i:=Int.toNat _) (j:=n) (d.ev hx) (P9 g) (aH _);refine⟨_,D,fun j=>?_⟩;simp[execOp,B,d.val (kc q),Gl (α:=S.D τ) (P:=P) J (dG K) p n c l g j];rfl;obtain⟨u,C,b⟩:=bind_some b;cases z F;obtain⟨y,rfl,q⟩:=f H;obtain⟨l,g⟩:=cI C;refine⟨_,?_,b⟩;have:=L 0 (Int.toNat ‹_›);rw[gu] at this;rw[this];intro N R O a w d;obtain⟨p,c,B,E,D⟩:=aU.Cc (i:=0) (j:=Int.toNat _) (d.ev hx) (iO _) (P9 g);refine⟨_,D,fun j=>?_⟩;simp[execOp,B,d.val (kc q),vB (α:=S.D τ) (P:=P) J (dG K) p n c l (Tg g E) j];rfl;cases b;cases b
def Xv{t:TypeId}{x:Operand}{lo hi:Option Operand}{F:TV S}{E D:Option (TV S)}{A:Type}{k:TV S->Option A}{r:A}(hx:cC s x=some F)(q:sj s lo=some E)(p:sj s hi=some D)(h:UQ s.ln t P F E D k=some r):∃v,PY P s.er ⟨dst,.slice t x lo hi none,ty,pos,after,guard⟩ (v.er s.ln)/\k v=some r:=by
 have a:∀{o:Option Operand}{v:TV S},sj s o=some (some v)->∃y,o=some y/\cC s y=some v:=by intro o v h;cases o with|none=>cases h|some y=>simp only[sj] at h;split at h;rename_i I H;cases h;exact⟨y,rfl,H⟩;cases h
 have m:∀{o:Option Operand},sj s o=some none->o=none:=by intro o h;cases o with|none=>rfl|some y=>simp only[sj] at h;split at h <;> cases h
 unfold UQ at h;split at h;rename_i e j;split at h;rename_i f B l;split at h;cases h;rename_i w _;have n:=bi hx;rw[wg] at n;split at h;obtain⟨u,d,h⟩:=bind_some h;obtain⟨y,rfl,c⟩:=a q;obtain⟨G,rfl,z⟩:=a p;obtain⟨g,i,C⟩:=cI d;refine⟨_,?_,h⟩;rw[wg];letI:=np S B;exact PY.slice (α:=S.D B) n (kc c) (kc z) j (dG w) g i C;obtain⟨u,d,h⟩:=bind_some h;obtain⟨y,rfl,c⟩:=a q;cases m p;obtain⟨g,i⟩:=cI d;refine⟨_,?_,h⟩;rw[wg];letI:=np S B;exact PY.YS (α:=S.D B) n (kc c) j (dG w) g i;obtain⟨u,d,h⟩:=bind_some h;cases m q;obtain⟨y,rfl,c⟩:=a p;obtain⟨g,i⟩:=cI d;refine⟨_,?_,h⟩;rw[wg];letI:=np S B;exact PY.YU (α:=S.D B) n (kc c) j (dG w) g i;cases h;split at h;cases h;rename_i w _;refine ON (n:=s.ln _) (o:=0) ?_ q p j w h;rw[bi hx,gR];rfl;split at h;cases h;rename_i w _;exact ON (bi hx) q p j w h;cases h;rename_i j;split at h;rename_i b;have n:=Hm hx;split at h;obtain⟨u,d,h⟩:=bind_some h;obtain⟨y,rfl,c⟩:=a q;obtain⟨G,rfl,z⟩:=a p;obtain⟨g,i,C⟩:=cI d;exact⟨_,PY.YP n (kc c) (kc z) j g i C,h⟩;obtain⟨u,d,h⟩:=bind_some h;obtain⟨y,rfl,c⟩:=a q;cases m p;obtain⟨g,i⟩:=cI d;exact⟨_,PY.Xt n (kc c) j g i,h⟩;obtain⟨u,d,h⟩:=bind_some h;cases m q;obtain⟨y,rfl,c⟩:=a p;obtain⟨g,i⟩:=cI d;exact⟨_,PY.Xu n (kc c) j g i,h⟩;cases h;cases h;cases h
end
end
end Go.DN
/-
 DN,part E:the operations that yield a value,put together.
-/
namespace Go.DN
open Go.AM
section
variable {S:eN}
def okV:TV S->Bool|.any=>false|.val u=>u.oneCell'|_=>true
def tF{v:TV S}(h:okV v=true)(ln:Nat->Nat):G8 (v.er ln)=true:=by cases v with|aE f c a=>(cases c with|st n=>rfl|pt n=>cases a <;> cases f <;> rfl|_=>cases f <;> rfl)|ptr f c a=>cases f <;> rfl|iQ b h c i j=>cases b <;> rfl|gG b h d=>cases b <;> rfl|ee b h=>cases b <;> rfl|any=>cases h|_=>rfl
def xD{v:TV S}(h:okV v=true)(ln:Nat->Nat):cZ (v.er ln)=TV.er.go ln (eM v):=Se v ln fun u e=>by subst e;exact h
def K3(a:List (Nat×Nat))(cells:List (TV S)):List (Nat×TV S)->Option (List (TV S))|[]=>some cells|(i,v)::r=>match a[i]? with|some (c,b)=>(match okV v&&(Nat.beq (eM v).length b&&Nat.ble (c+b) cells.length) with|true=>K3 a (setAt cells c (eM v)) r|false=>none)|none=>none
def JK{α a:Type}(f:α->a):∀(xs:List α) (off:Nat) (cs:List α),(setAt cs off xs).map f=setAt (cs.map f) off (xs.map f)|[],_,_=>rfl|x::r,off,cs=>by simp only[setAt,bg,JK f r,oe]
def LG(ln:Nat->Nat)(a:List (Nat×Nat)):∀{b:List (Nat×TV S)}{cells c:List (TV S)},K3 a cells b=some c->DQ (a[·]?) (TV.er.go ln cells) (b.map fun x=>(x.1,x.2.er ln))=some (TV.er.go ln c)|[],_,_,h=>by cases h;rfl|(i,v)::r,cells,c,h=>by simp only[K3] at h;split at h;rename_i d g k;split at h;rename_i f;simp only[ag] at f;obtain⟨e,l,m⟩:=f;have n:=tF e ln;have j:=xD e ln;have p:=LG ln a h;simp only[bg,DQ,k];(have q:(cZ (v.er ln)).length=(eM v).length:=by rw[j,cW,aJ]);(have s:(TV.er.go ln cells).length=cells.length:=by rw[cW,aJ]);rw[n,q,s,l,m,j];simp only[iA];(have o:setAt (TV.er.go ln cells) d (TV.er.go ln (eM v))=TV.er.go ln (setAt cells d (eM v)):=by simp only[cW,JK]);rw[o];exact p;cases h;cases h
def Qb(s:ae S):List (Nat×Operand)->Option (List (Nat×TV S))|[]=>some []|(i,x)::r=>match cC s x with|some v=>(match Qb s r with|some a=>some ((i,v)::a)|none=>none)|none=>none
def OH{s:ae S}:∀{l:List (Nat×Operand)}{vs:List (Nat×TV S)},Qb s l=some vs->Nn s.er l=some (vs.map fun x=>(x.1,x.2.er s.ln))|[],_,h=>by cases h;rfl|(i,x)::r,vs,h=>by simp only[Qb] at h;split at h;rename_i v b;split at h;rename_i c a;cases h;simp only[Nn,bi b,OH a,bg];cases h;cases h
def u4(s:ae S):List Operand->Option (List (TV S))|[]=>some []|x::r=>match cC s x with|some v=>(match u4 s r with|some a=>some (v::a)|none=>none)|none=>none
def nJ{s:ae S}:∀{l:List Operand}{vs:List (TV S)},u4 s l=some vs->l.map (ev s.er)=(TV.er.go s.ln vs).map some/\wO s.er l=some (TV.er.go s.ln vs)|[],_,h=>by cases h;exact⟨rfl,rfl⟩|x::r,vs,h=>by simp only[u4] at h;split at h;rename_i v a;split at h;rename_i c d;cases h;obtain⟨e,b⟩:=nJ d;exact⟨by simp only[bg,TV.er.go,bi a,e],by simp only[TV.er.go,wO,bi a,b]⟩;cases h;cases h
def Q3(s:ae S):TV S->Option Int|.aE _ (.list _) l=>some (List.length l:Int)|.aN h _=>(match aB s.bo h with|some (.arr _ _ _ _ l)=>some (List.length l:Int)|some (.deep _ _ _ _ b a)=>some (yj b a:Int)|_=>none)|.ks _ _ _ n=>some (n:Int)|.sub _ _ _ n=>some (n:Int)|.val (.slice none 0 0)=>some 0|_=>none
def VJ(P:Program)(t:TypeId)(v:TV S)(y:Operand):Option Bool:=match v with|.aE _ .dC b=>(match y with|.const .nilIface=>(match P.underlying t with|some (.interface _)=>some b|_=>none)|_=>none)|_=>none
def X2{P:Program}{t:TypeId}{v:TV S}{y:Operand}{b:Bool}(h:VJ P t v y=some b)(ln:Nat->Nat):y=.const .nilIface/\(∃ms,P.underlying t=some (.interface ms))/\∀o:Option G,o=some (v.er ln)->o=some (.dC b)\/o=some (.fr (.dC b)):=by unfold VJ at h;split at h;rename_i f d;split at h;split at h;rename_i c;cases h;refine⟨rfl,⟨_,c⟩,fun o a=>?_⟩;subst a;cases f;exact .inl rfl;exact .inr rfl;cases h;cases h;cases h
def nilPtr(P:Program)(t:TypeId)(v:TV S)(y:Operand):Option Bool:=match y with|.const (.pointer none)=>(match P.underlying t with|some (.pointer _)=>(match v with|.kp _ _ _ _=>some false|.iQ b _ _ _ _=>some b|.gG b _ _=>some b|.val (.pointer none)=>some true|.loc _ _=>some false|.aE _ (.pt n) o=>some (Option.isNone (o:Option (S.α n)))|_=>none)|_=>none)|_=>none
def SY{P:Program}{t:TypeId}{v:TV S}{y:Operand}{b:Bool}(h:nilPtr P t v y=some b)(ln:Nat->Nat):y=.const (.pointer none)/\(∃e,P.underlying t=some (.pointer e))/\wz (v.er ln)=some b:=by unfold nilPtr at h;split at h;split at h;rename_i e a;refine⟨rfl,⟨e,a⟩,?_⟩;split at h;cases h;rfl;cases h;cases b <;> rfl;cases h;cases b <;> rfl;cases h;rfl;cases h;rfl;rename_i f n o;cases h;cases o <;> cases f <;> rfl;cases h;cases h;cases h
def My(P:Program)(t:TypeId)(v:TV S)(y:Operand):Option Bool:=match y with|.const (.map none)=>(match P.underlying t with|some (.map _ _)=>(match v with|.mp _=>some false|.ee b _=>some b|.val (.map none)=>some true|_=>none)|_=>none)|_=>none
def SZ{P:Program}{t:TypeId}{v:TV S}{y:Operand}{b:Bool}(h:My P t v y=some b)(ln:Nat->Nat):y=.const (.map none)/\(∃c a,P.underlying t=some (.map c a))/\AM.wD (v.er ln)=some b:=by unfold My at h;split at h;split at h;rename_i c a d;refine⟨rfl,⟨c,a,d⟩,?_⟩;split at h;cases h;rfl;cases h;cases b <;> rfl;cases h;rfl;cases h;cases h;cases h
def XZ(s:ae S)(x:Operand):Option Operand->Option Operand->Bool|some _,some _=>(match cC s x with|some (.sub h _ _ _)=>(match aB s.bo h with|some (.arr _ _ _ _ _)=>true|_=>false)|_=>false)|_,_=>false
def UR(P:Program)(s:ae S)(t:TypeId)(x:Operand)(lo hi:Option Operand){A:Type}(k:TV S->Option A):Option A:=match lo,hi with|some lo,some hi=>(match P.underlying t with|some (.slice e)=>(match cC s x with|some (.sub h b o n)=>(match aB s.bo h with|some (.arr _ _ _ a l)=>(match decEq a b with|isTrue _=>(match decEq (nL P e) (some (S.sz a)) with|isTrue _=>(match cC s lo with|some (.aE _ (.int _) i)=>(match cC s hi with|some (.aE _ (.int _) j)=>(ba (0<=i/\i<=j/\o+Int.toNat j<=List.length l)).bind fun _=>k (.sub h b (o+Int.toNat i) (Int.toNat j-Int.toNat i))|_=>none)|_=>none)|isFalse _=>none)|isFalse _=>none)|_=>none)|_=>none)|_=>none)|_,_=>none
def YO(s:ae S):TV S->Option Nat|.aN h _=>some (s.ln h)|.sub _ _ _ n=>some n|_=>none
def US(P:Program)(s:ae S)(t:TypeId)(x lo hi b:Operand){A:Type}(k:TV S->Option A):Option A:=match P.underlying t with|some (.slice e)=>(match nL P e with|some _=>(match cC s x with|some a=>(match YO s a with|some n=>(match cC s lo with|some (.aE _ (.int _) i)=>(match cC s hi with|some (.aE _ (.int _) j)=>(match cC s b with|some (.aE _ (.int _) m)=>(ba (0<=i/\i<=j/\j<=m/\m<=(n:Int))).bind fun _=>k .any|_=>none)|_=>none)|_=>none)|none=>none)|none=>none)|none=>none)|_=>none
def SI(P:Program)(s:ae S)(op:Op){A:Type}(k:TV S->Option (bp S.α)->Option A):Option A:=match op with|.move x=>(match cC s x with|some v=>k v none|none=>none)|.assign x=>(match cC s x with|some v=>k v none|none=>none)|.pick c x y=>(match cC s c with|some (.aE _ .bool b)=>(match b with|true=>(match cC s x with|some v=>k v none|none=>none)|false=>match cC s y with|some v=>k v none|none=>none)|_=>none)|.binOp op t x y _=>(match cC s x with|some p=>(match nilPtr P t p y with|some b=>(match op with|.eql=>k (.aE true .bool b) none|.neq=>k (.aE true .bool (!b)) none|_=>none)|none=>match VJ P t p y with|some b=>(match op with|.eql=>k (.aE true .bool (!b)) none|.neq=>k (.aE true .bool b) none|_=>none)|none=>match My P t p y with|some b=>(match op with|.eql=>k (.aE true .bool b) none|.neq=>k (.aE true .bool (!b)) none|_=>none)|none=>match cC s y with|some H=>Wy P op t p H fun v=>k v none|none=>none)|none=>none)|.unOp op _ x=>(match op with|.not=>(match cC s x with|some (.aE _ .bool b)=>k (.aE true .bool (!b)) none|_=>none)|.neg=>(match cC s x with|some (.aE _ (.int m) a)=>k (.aE true (.int m) (m.wrap (0-a))) none|_=>none)|_=>none)|.convert t J x=>(match P.underlying t with|some _=>(match P.underlying J with|some (.int m)=>(match cC s x with|some (.aE _ (.int _) a)=>k (.aE true (.int m) (m.wrap a)) none|_=>none)|some .string=>(match cC s x with|some (.aE _ .str a)=>k (.aE true .str a) none|_=>none)|_=>none)|none=>none)|.extract x i=>(match cC s x with|some (.bE l)=>(match l[i]? with|some v=>k v none|none=>none)|_=>none)|.field t x i=>(match cC s x with|some p=>(match VU P t i p with|some v=>k v none|none=>none)|none=>none)|.fieldAddr t x i=>(match cC s x with|some p=>(match VV P t i p with|some v=>k v none|none=>none)|none=>none)|.indexAddr t x y=>(match P.underlying t with|some (.slice e)=>(match cC s y with|some (.aE _ (.int _) i)=>(match cC s x with|some (.aE f (.list d) l)=>(match decEq (nL P e) (some (S.sz d)) with|isTrue _=>(idx l i).bind fun a=>k (.ptr f d a) none|isFalse _=>none)|some (.aN h d)=>(match decEq (nL P e) (some (S.sz d)) with|isTrue _=>(match aB s.bo h with|some (.arr _ _ _ g l)=>(match decEq g d with|isTrue _=>(idx l i).bind fun a=>k (.iU h d i.toNat 0) (some ⟨g,a⟩)|isFalse _=>none)|some (.deep _ _ _ _ g a)=>(ba (0<=i/\i<(yj g a:Int))).bind fun _=>k (.iU h d i.toNat 0) none|_=>none)|isFalse _=>none)|some (.sub h d o n)=>(match decEq (nL P e) (some (S.sz d)) with|isTrue _=>(match aB s.bo h with|some (.arr _ _ _ g l)=>(match decEq g d with|isTrue _=>(ba (0<=i/\i<(n:Int))).bind fun _=>(l[o+i.toNat]?).bind fun a=>k (.iU h d (o+i.toNat) 0) (some ⟨g,a⟩)|isFalse _=>none)|some (.box _ _ _)=>(ba (0<=i/\i<(n:Int))).bind fun _=>k (.iU h d (o+i.toNat) 0) none|_=>none)|isFalse _=>none)|some (.ks h d j n)=>(match decEq (nL P e) (some (S.sz d)) with|isTrue _=>(ba (0<=i/\i<(n:Int))).bind fun _=>k (.kp h d j i.toNat) none|isFalse _=>none)|_=>none)|_=>none)|some (.array n e)=>(match cC s y with|some (.aE _ (.int _) i)=>(match cC s x with|some (.loc h E)=>(match P.underlying e with|some (.int m)=>(match decEq (nL P e) (some 1) with|isTrue _=>(ba (0<=i/\i<(n:Int))).bind fun _=>k (.iU h (.int m) i.toNat E) none|isFalse _=>none)|_=>none)|_=>none)|_=>none)|_=>none)|.index t x y=>(match P.underlying t with|some .string=>(match cC s x with|some (.aE _ .str b)=>(match cC s y with|some (.aE _ (.int _) i)=>(Wz b i).bind fun c=>k (.aE true (.int .u8) (c.toNat:Int)) none|_=>none)|_=>none)|_=>none)|.slice t x C B none=>(match XZ s x C B with|true=>UR P s t x C B fun v=>k v none|false=>match cC s x with|some p=>(match sj s C with|some L=>(match sj s B with|some G=>UQ s.ln t P p L G fun v=>k v none|none=>none)|none=>none)|none=>none)|.slice t x (some C) (some B) (some I)=>US P s t x C B I fun v=>k v none|.makeFunc (.func f) u r=>(match u.toList with|[]=>(match u4 s r.toList with|some F=>(match tY.contains f with|false=>k (.bf f F) none|true=>none)|none=>none)|[x]=>(match r.toList with|[]=>(match cC s x with|some v=>(match tY.contains f with|true=>k (.bf f [v]) none|false=>none)|none=>none)|_=>none)|_=>none)|.nilCheck x=>(match cC s x with|some v=>(match v with|.loc _ _=>k v none|.iU _ _ _ _=>k v none|.ptr _ _ _=>k v none|.bf _ _=>k v none|.kp _ _ _ _=>k v none|.iQ b h d i j=>(ba (b=false)).bind fun _=>k (.kp h d i j) none|.aE f (.pt n) o=>Option.bind (o:Option (S.α n)) fun a=>k (.ptr f (.st n) a) none|_=>none)|none=>none)|.call c=>(match c.callee with|.builtin .len=>(match c.args.toList,c.argTypes.toList with|[x],[t]=>(match P.underlying t with|some (.slice _)=>(match cC s x with|some v=>(match Q3 s v with|some n=>k (.aE true (.int .i64) n) none|none=>none)|none=>none)|some .string=>(match cC s x with|some (.aE _ .str b)=>k (.aE true (.int .i64) (b.size:Int)) none|_=>none)|_=>none)|_,_=>none)|.builtin .min=>(match c.args.toList with|[x,y]=>(match cC s x,cC s y with|some (.aE _ (.int m) a),some (.aE _ (.int _) b)=>k (.aE true (.int m) (if b<a then b else a)) none|_,_=>none)|_=>none)|.builtin .max=>(match c.args.toList with|[x,y]=>(match cC s x,cC s y with|some (.aE _ (.int m) a),some (.aE _ (.int _) b)=>k (.aE true (.int m) (if b>a then b else a)) none|_,_=>none)|_=>none)|_=>none)|.build t w=>(match P.underlying t with|some (.struct K)=>(match (P.info? t).bind (·.zero) with|some z=>(match K.toList.mapM (fun f=>(P.info? f.type).map fun i=>(f.offset,i.size)) with|some q=>(match Qb s w.toList with|some F=>(match K3 q (z.cells.toList.map wk) F with|some D=>k (.agg D) none|none=>none)|none=>none)|none=>none)|none=>none)|_=>none)|_=>none
def Ur(s:ae S)(v:TV S):Option (bp S.α)->Prop|none=>True|some x=>∃h i c m f b l a,v=.iU h b i 0/\aB s.bo h=some (.arr c m f b l)/\x=⟨b,a⟩/\l[i]?=some a
def ae.EX(s:ae S)(d:Nat)(v:TV S):Option (bp S.α)->ae S|none=>s.put d v|some x=>match v with|.iU h _ _ _=>{s with fr:=(d,v)::s.fr,last:=(d,h,x)::L1 d s.last}|_=>s.put d v
def Il(s:ae S)(d:Nat)(v:TV S)(x:Option (bp S.α)):(s.EX d v x).er=s.er.put d (v.er s.ln):=by cases x with|none=>rfl|some x=>cases v <;> rfl
def uE(s:ae S)(d:Nat)(v:TV S)(x:Option (bp S.α)):bG s (s.EX d v x):=by cases x with|none=>exact⟨rfl,rfl,rfl⟩|some x=>cases v <;> exact⟨rfl,rfl,rfl⟩
def Ik{s:ae S}(j:aQ s)(d:Nat){v:TV S}{x:Option (bp S.α)}(h:Ur s v x):aQ (s.EX d v x):=by cases x with|none=>exact j.put d v|some x=>obtain⟨z,i,w,m,f,k,l,a,C,o,p,q⟩:=h;subst C;intro r t u c;rcases bh.1 c with e|c;cases e;exact⟨i,w,m,f,k,l,a,by simp only[ae.EX,ae.cm,b7,bw,aW,cond_true],o,p,q⟩;obtain⟨y,b,A,B,g,D,E,F,n⟩:=j.put d (.iU z k i 0) r t u c;exact⟨y,b,A,B,g,D,E,F,n⟩
section
variable {P:Program}{s:ae S}{dst:Option Tmp}{ty:TypeId}{pos:String}{after:Array Edge}{guard:Option (Nat×Bool)}
def pQ{h:Nat}{e:TypeId}{m f:Bool}{τ:Ty}{l:List (S.D τ)}(ho:aB s.bo h=some (.arr e m f τ l)):s.ln h=l.length:=by unfold ae.ln cw;rw[ho];rfl
def Ph{h:Nat}{e:TypeId}{m f:Bool}{b:Dk}{τ:Ty}{a:S.D τ}(ho:aB s.bo h=some (.deep e m f b τ a)):s.ln h=yj τ a:=by unfold ae.ln cw;rw[ho];rfl
def IE{v:TV S}{n:Int}(h:Q3 s v=some n):Q4 (v.er s.ln)=some n:=by unfold Q3 at h;split at h;rename_i f b l;cases h;cases f <;> rfl;split at h;rename_i a;cases h;show some ((s.ln _:Nat):Int)=_;rw[pQ a];rename_i a;cases h;show some ((s.ln _:Nat):Int)=_;rw[Ph a];cases h;cases h;rfl;cases h;rfl;cases h;rfl;cases h
def H7{α:Type}{a:Array α}{x:α}(h:a.toList=[x]):a=#[x]:=by cases a;simp at h;subst h;rfl
def Dx{α:Type}{a:Array α}{x y:α}(h:a.toList=[x,y]):a=#[x,y]:=by cases a;simp at h;subst h;rfl
def H8{α:Type}{a:Array α}(h:a.toList=[]):a=#[]:=by cases a;simp at h;subst h;rfl
def TW{τ:Ty}{l:List (S.D τ)}{i:Int}{a:S.D τ}(h:idx l i=some a):((List.flatMap (aX S τ) l).drop (i.toNat*S.sz τ)).take (S.sz τ)=aX S τ a:=@Ns _ (np S τ) _ _ _ h
def X3{t e:TypeId}{x y:Operand}{f:Bool}{τ:Ty}{l:List (S.D τ)}{k:IntKind}{d:Bool}{i:Int}{a:S.D τ}(hx:cC s x=some (.aE f (.list τ) l))(g:cC s y=some (.aE d (.int k) i))(h:P.underlying t=some (.slice e))(j:nL P e=some (S.sz τ))(b:idx l i=some a):PY P s.er ⟨dst,.indexAddr t x y,ty,pos,after,guard⟩ ((TV.ptr f τ a:TV S).er s.ln):=by obtain⟨m,n,o⟩:=pV b;have c:=bi hx;rw[Ho,<-TW b];refine PY.rw (PY.index (g':=Im f ((List.flatMap (aX S τ) l).drop (i.toNat*S.sz τ))) (n:=l.length) c (kc g) ?_ m n h (dG j)) (RW.wy _ _ _);cases f <;> rfl
def Xw{t:TypeId}{x:Operand}{lo hi:Option Operand}{A:Type}{k:TV S->Option A}{r:A}(h:UR P s t x lo hi k=some r):∃v,PY P s.er ⟨dst,.slice t x lo hi none,ty,pos,after,guard⟩ (v.er s.ln)/\k v=some r:=by unfold UR at h;split at h;split at h;rename_i i;split at h;rename_i p;split at h;rename_i g;split at h;rename_i m _;subst m;split at h;rename_i n _;split at h;rename_i a;split at h;rename_i b;obtain⟨u,j,h⟩:=bind_some h;obtain⟨e,d,o⟩:=cI j;refine⟨_,?_,h⟩;have f:=kc a;have c:=kc b;rw[<-fV e] at f;rw[<-fV (Int.le_trans e d)] at c;have:=PY.sliceB (dst:=dst) (ty:=ty) (pos:=pos) (after:=after) (guard:=guard) (P:=P) (bi p) (gv g) rfl f c i (dG n) (@aI.pos _ (np S _)) (Int.toNat_le_toNat d) (by show _<=(List.flatMap (aX S _) _).length;rw[show ∀l,(List.flatMap (aX S _) l).length=l.length*S.sz _ from @fN _ (np S _),<-fp];exact b9 _ o);rw[<-fp] at this;exact this;cases h;cases h;cases h;cases h;cases h;cases h;cases h;cases h
def Xx{t:TypeId}{x lo hi i:Operand}{A:Type}{k:TV S->Option A}{r:A}(h:US P s t x lo hi i k=some r):∃v,PY P s.er ⟨dst,.slice t x (some lo) (some hi) (some i),ty,pos,after,guard⟩ (v.er s.ln)/\k v=some r:=by
 unfold US at h;split at h;rename_i y;split at h;rename_i B;split at h;rename_i C l;split at h;rename_i n b;split at h;rename_i d;split at h;rename_i c;split at h;rename_i f;obtain⟨u,w,h⟩:=bind_some h;obtain⟨z,p,q,o⟩:=cI w;refine⟨_,?_,h⟩;have e:∃j m a,ev s.er x=some (.aN j m a n):=by unfold YO at b;split at b;cases b;exact⟨_,_,_,bi l⟩;cases b;exact⟨_,_,_,bi l⟩;cases b
 obtain⟨j,m,a,g⟩:=e;exact PY.slice3 g (kc d) (kc c) (kc f) y (dG B) z p q o;cases h;cases h;cases h;cases h;cases h;cases h;cases h
def L9{op:Op}{A:Type}{k:TV S->Option (bp S.α)->Option A}{r:A}(h:SI P s op k=some r):∃v x,PY P s.er ⟨dst,op,ty,pos,after,guard⟩ (v.er s.ln)/\Ur s v x/\k v x=some r:=by
 unfold SI at h;split at h;split at h;rename_i t;exact⟨_,none,PY.move (bi t),trivial,h⟩;cases h;split at h;rename_i t;exact⟨_,none,PY.assign (bi t),trivial,h⟩;cases h;split at h;rename_i w;split at h;split at h;rename_i t;exact⟨_,none,PY.aai (Np w) (bi t),trivial,h⟩;cases h;split at h;rename_i t;exact⟨_,none,PY.aaj (Np w) (bi t),trivial,h⟩;cases h;cases h;split at h;rename_i d;split at h;rename_i b F;obtain⟨Q,⟨e,g⟩,L⟩:=SY F s.ln;subst Q;split at h;exact⟨_,none,PY.ptrEq (bi d) L g,trivial,h⟩;exact⟨_,none,PY.aag (bi d) L g,trivial,h⟩;cases h;split at h;rename_i b F;obtain⟨Q,⟨ms,g⟩,L⟩:=X2 F s.ln;subst Q;have O:=L _ (bi d);split at h;refine⟨.aE true .bool (b==false),none,PY.Tv (b:=b) false rfl O g,trivial,?_⟩;have:(b==false)=!b:=by cases b <;> rfl
 rw[this];exact h;refine⟨.aE true .bool (b==true),none,PY.Tv (b:=b) true rfl O g,trivial,?_⟩;have:(b==true)=b:=by cases b <;> rfl
 rw[this];exact h;cases h;split at h;rename_i b F;obtain⟨Q,⟨kt,et,g⟩,L⟩:=SZ F s.ln;subst Q;split at h;exact⟨_,none,PY.aap (bi d) L g,trivial,h⟩;exact⟨_,none,PY.aao (bi d) L g,trivial,h⟩;cases h;split at h;rename_i y;obtain⟨v,p,C⟩:=Yu (dst:=dst) (ty:=ty) (pos:=pos) (after:=after) (guard:=guard) d y h;exact⟨v,none,p,trivial,C⟩;cases h;cases h;split at h;split at h;rename_i d;exact⟨_,none,PY.un (Np d) rfl,trivial,h⟩;cases h;split at h;rename_i d;exact⟨_,none,PY.un (kc d) rfl,trivial,h⟩;cases h;cases h;split at h;rename_i g;split at h;rename_i N;split at h;rename_i d;exact⟨_,none,PY.conv (kc d) g N,trivial,h⟩;cases h;rename_i N;split at h;rename_i d;exact⟨_,none,PY.aaz (Hm d) g N,trivial,h⟩;cases h;cases h;cases h;split at h;rename_i l d;split at h;rename_i v t;refine⟨v,none,PY.extract (bi d) ?_,trivial,h⟩;rw[cW,ao,t];rfl;cases h;cases h;split at h;rename_i d;split at h;rename_i t;exact⟨_,none,X9 d t,trivial,h⟩;cases h;cases h;split at h;rename_i d;split at h;rename_i t;exact⟨_,none,Ya d t,trivial,h⟩;cases h;cases h;split at h;rename_i g;split at h;rename_i y;split at h;rename_i d;split at h;rename_i B _;obtain⟨a,M,h⟩:=bind_some h;exact⟨_,none,X3 d y g B M,trivial,h⟩;cases h;rename_i D E d;split at h;rename_i B _;split at h;rename_i e m f q l K;split at h;rename_i T _;subst T;obtain⟨a,M,h⟩:=bind_some h;obtain⟨V,p,C⟩:=pV M;refine⟨_,some ⟨q,a⟩,?_,⟨D,_,e,m,f,q,l,a,rfl,K,rfl,C⟩,h⟩;refine PY.index (n:=s.ln D) (bi d) (kc y) ?_ V (by rw[pQ K];exact p) g (dG B);show(if S.sz q=S.sz q then _ else _)=_;rw[if_pos rfl,dl];rfl;cases h;rename_i e m f dk q a K;obtain⟨u,w,h⟩:=bind_some h;obtain⟨I,H⟩:=cI w;refine⟨_,none,?_,trivial,h⟩;refine PY.index (n:=s.ln D) (bi d) (kc y) ?_ I (by rw[Ph K];exact H) g (dG B);show(if S.sz E=S.sz E then _ else _)=_;rw[if_pos rfl,dl];rfl;cases h;cases h;rename_i D E o n d;split at h;rename_i B _;split at h;rename_i e m f q l K;split at h;rename_i T _;subst T;obtain⟨u,w,h⟩:=bind_some h;obtain⟨I,H⟩:=cI w;obtain⟨a,M,h⟩:=bind_some h;refine⟨_,some ⟨q,a⟩,?_,⟨D,_,e,m,f,q,l,a,rfl,K,rfl,M⟩,h⟩;refine PY.index (n:=n) (bi d) (kc y) ?_ I H g (dG B);show(if S.sz q=S.sz q then _ else _)=_;rw[if_pos rfl];show _=some (G.loc D ((o+_)*S.sz q+0),n);rw[fp,gu];cases h;obtain⟨u,w,h⟩:=bind_some h;obtain⟨I,H⟩:=cI w;refine⟨_,none,?_,trivial,h⟩;refine PY.index (n:=n) (bi d) (kc y) ?_ I H g (dG B);show(if S.sz E=S.sz E then _ else _)=_;rw[if_pos rfl];show _=some (G.loc D ((o+_)*S.sz E+0),n);rw[fp,gu];cases h;cases h;rename_i D E j n d;split at h;rename_i B _;obtain⟨u,w,h⟩:=bind_some h;obtain⟨I,H⟩:=cI w;refine⟨_,none,?_,trivial,h⟩;refine PY.index (n:=n) (bi d) (kc y) ?_ I H g (dG B);show(if S.sz E=S.sz E then _ else _)=_;rw[if_pos rfl,dl];rfl;cases h;cases h;cases h;rename_i n e g;split at h;rename_i y;split at h;rename_i D off d;split at h;rename_i ki hki;split at h;rename_i B _;obtain⟨u,w,h⟩:=bind_some h;obtain⟨I,H⟩:=cI w;refine⟨_,none,?_,trivial,h⟩;have:=PY.VG (P:=P) (dst:=dst) (ty:=ty) (pos:=pos) (after:=after) (guard:=guard) (bi d) (kc y) I H g (dG B);simpa[TV.er,eN.sz] using this;cases h;cases h;cases h;cases h;cases h;split at h;rename_i g;split at h;rename_i d;split at h;rename_i y;obtain⟨c,w,h⟩:=bind_some h;obtain⟨V,p⟩:=Ue w;exact⟨_,none,PY.UH (Hm d) (kc y) V p g,trivial,h⟩;cases h;cases h;cases h;split at h;obtain⟨v,p,C⟩:=Xw (dst:=dst) (ty:=ty) (pos:=pos) (after:=after) (guard:=guard) h;exact⟨v,none,p,trivial,C⟩;split at h;rename_i d;split at h;rename_i hl;split at h;rename_i D;obtain⟨v,p,C⟩:=Xv (dst:=dst) (ty:=ty) (pos:=pos) (after:=after) (guard:=guard) d hl D h;exact⟨v,none,p,trivial,C⟩;cases h;cases h;cases h;obtain⟨v,p,C⟩:=Xx (dst:=dst) (ty:=ty) (pos:=pos) (after:=after) (guard:=guard) h;exact⟨v,none,p,trivial,C⟩;split at h;rename_i R;have:=H8 R;subst this;split at h;rename_i Y t;split at h;rename_i F;exact⟨_,none,PY.makeFunc F (nJ t).1,trivial,h⟩;cases h;cases h;rename_i x R;have:=H7 R;subst this;split at h;rename_i w;have:=H8 w;subst this;split at h;rename_i v t;split at h;rename_i F;exact⟨_,none,PY.Ta F (bi t),trivial,h⟩;cases h;cases h;cases h;cases h;split at h;rename_i v d;split at h;exact⟨_,none,PY.nilCheck (bi d) rfl,trivial,h⟩;exact⟨_,none,PY.nilCheck (bi d) rfl,trivial,h⟩;rename_i f E a;exact⟨_,none,PY.nilCheck (bi d) (by cases f <;> rfl),trivial,h⟩;exact⟨_,none,PY.nilCheck (bi d) rfl,trivial,h⟩;exact⟨_,none,PY.J1 (bi d),trivial,h⟩;rename_i b D E i j;obtain⟨u,w,h⟩:=bind_some h;obtain rfl:=cI w;exact⟨_,none,PY.J1 (bi d),trivial,h⟩;rename_i f n o;obtain⟨a,M,h⟩:=bind_some h;obtain rfl:o=some a:=M;refine⟨.ptr f (.st n) a,none,PY.nilCheck (g:=(TV.ptr f (.st n) a:TV S).er s.ln) ?_ (by cases f <;> rfl),trivial,h⟩;rw[bi d];cases f <;> rfl;cases h;cases h;rename_i c;obtain⟨cal,W,Z⟩:=c;dsimp only at h;split at h;split at h;rename_i p C;have p:=H7 p;have C:=H7 C;subst p;subst C;split at h;rename_i g;split at h;rename_i d;split at h;rename_i hn;exact⟨_,none,PY.len (bi d) (IE hn) g,trivial,h⟩;cases h;cases h;rename_i g;split at h;rename_i d;exact⟨_,none,PY.aaY (Hm d) g,trivial,h⟩;cases h;cases h;cases h;split at h;rename_i p;have p:=Dx p;subst p;split at h;rename_i d y;exact⟨_,none,PY.min2 (kc d) (kc y),trivial,h⟩;cases h;cases h;split at h;rename_i p;have p:=Dx p;subst p;split at h;rename_i d y;exact⟨_,none,PY.max2 (kc d) (kc y),trivial,h⟩;cases h;cases h;cases h;split at h;rename_i g;split at h;rename_i z B;split at h;rename_i J hp;split at h;rename_i Y t;split at h;rename_i U K;refine⟨.agg U,none,PY.build (z:=z) g ?_ hp (OH t) ?_,trivial,h⟩;cases X:P.info? _ with|none=>rw[X] at B;cases B|some iq=>rw[X] at B;exact congrArg some B
 have:=LG s.ln J K;rw[cW] at this;rw[<-this];congr 1;rw[iY];exact ft fun v _=>(LA _ v).symm;cases h;cases h;cases h;cases h;cases h;cases h
end
end
end Go.DN
/-
 DN,part F:loads.
-/
namespace Go.DN
open Go.AM
section
variable {S:eN}
def Q0(x:Operand)(h:Nat):List (Nat×Nat×bp S.α)->Option (bp S.α)|[]=>none|(d,a,y)::r=>match x with|.tmp t=>bif Nat.beq d t&&Nat.beq a h then some y else Q0 x h r|_=>none
def MM{x:Operand}{h:Nat}{y:bp S.α}:∀{l:List (Nat×Nat×bp S.α)},Q0 x h l=some y->∃t,x=.tmp t/\(t,h,y)∈l|[],e=>by cases e|(d,g,i)::r,e=>by simp only[Q0] at e;split at e;rename_i t;(cases c:(Nat.beq d t&&Nat.beq g h) with|true=>rw[c] at e;cases e;simp only[ag] at c;obtain⟨b,a⟩:=c;have b:=ab b;have a:=ab a;subst b;subst a;exact⟨_,rfl,au⟩|false=>rw[c] at e;obtain⟨f,b,a⟩:=MM e;exact⟨f,b,ar _ a⟩);cases e
def Ht(s:ae S)(x:Operand)(h:Nat){τ:Ty}(l:List (S.D τ))(i:Nat){A:Type}(k:bp S.α->Option A):Option A:=match Q0 x h s.last with|some y=>k y|none=>(l[i]?).bind fun a=>k ⟨τ,a⟩
def IQ{A:Type}:(τ:Ty)->S.D τ->Ty->Nat->(Ty->Nat->Option A)->Option A|.list (.list t),a,τ,i,k=>(match decEq τ (.list t) with|isTrue _=>(a[i]?).bind fun r=>k t (List.length r)|isFalse _=>none)|_,_,_,_,_=>none
def Rl{A:Type}{c:A}:∀{b:Ty}{a:S.D b}{τ:Ty}{i:Nat}{k:Ty->Nat->Option A},IQ b a τ i k=some c->∃t n gs,τ=.list t/\(kJ b a).1=S.sz t/\(kJ b a).2[i]?=some (n,gs)/\k t n=some c|.list (.list t),f,τ,i,k,h=>by simp only[IQ] at h;split at h;rename_i e _;obtain⟨r,g,d⟩:=bind_some h;exact⟨t,List.length r,_,e,rfl,by show(List.map _ f)[i]?=_;rw[ao,g];rfl,d⟩;cases h|.list (.int _),_,_,_,_,h=>by cases h|.list .bool,_,_,_,_,h=>by cases h|.list .dC,_,_,_,_,h=>by cases h|.list (.pt _),_,_,_,_,h=>by cases h|.list .str,_,_,_,_,h=>by cases h|.list (.st _),_,_,_,_,h=>by cases h|.int _,_,_,_,_,h=>by cases h|.bool,_,_,_,_,h=>by cases h|.dC,_,_,_,_,h=>by cases h|.pt _,_,_,_,_,h=>by cases h|.str,_,_,_,_,h=>by cases h|.st _,_,_,_,_,h=>by cases h|.map,_,_,_,_,h=>by cases h|.list .map,_,_,_,_,h=>by cases h
def Fs{A:Type}:(τ:Ty)->S.D τ->Ty->Nat->Nat->(TV S->Option A)->Option A|.list (.list t),a,τ,i,j,k=>(match t.jb with|true=>(match decEq τ t with|isTrue _=>(a[i]?).bind fun r=>(r[j]?).bind fun x=>k (.aE true t x)|isFalse _=>none)|false=>none)|_,_,_,_,_,_=>none
def Ox{A:Type}{d:A}:∀{b:Ty}{a:S.D b}{τ:Ty}{i j:Nat}{k:TV S->Option A},Fs b a τ i j k=some d->∃(t:Ty) (x:S.D t) (n:Nat) (gs:List G),τ=t/\t.jb=true/\(kJ b a).2[i]?=some (n,gs)/\gs[j*S.sz t]?=some (dM S t x)/\k (.aE true t x)=some d|.list (.list t),g,τ,i,j,k,h=>by simp only[Fs] at h;split at h;rename_i f;split at h;rename_i e _;obtain⟨r,l,h⟩:=bind_some h;obtain⟨x,m,h⟩:=bind_some h;(have c:t.gA=false:=by cases t <;> first|rfl|cases f);refine⟨t,x,List.length r,List.flatMap (aX S t) r,e,f,by show(List.map _ g)[i]?=_;rw[ao,l];rfl,?_,h⟩;have:=@rC _ (np S t) r j x m 0 (LJ S t);exact this.trans (by show(aX S t x)[0]?=_;rw[j7 S c];rfl);cases h;cases h|.list (.int _),_,_,_,_,_,h=>by cases h|.list .bool,_,_,_,_,_,h=>by cases h|.list .dC,_,_,_,_,_,h=>by cases h|.list (.pt _),_,_,_,_,_,h=>by cases h|.list .str,_,_,_,_,_,h=>by cases h|.list (.st _),_,_,_,_,_,h=>by cases h|.int _,_,_,_,_,_,h=>by cases h|.bool,_,_,_,_,_,h=>by cases h|.dC,_,_,_,_,_,h=>by cases h|.pt _,_,_,_,_,_,h=>by cases h|.str,_,_,_,_,_,h=>by cases h|.st _,_,_,_,_,_,h=>by cases h|.map,_,_,_,_,_,h=>by cases h|.list .map,_,_,_,_,_,h=>by cases h
def lh(b:IntKind):List (TV S)->List Int|.aE _ (.int k) a::r=>(match decEq k b with|isTrue _=>a::lh b r|isFalse _=>[])|_=>[]
def xN{c:IntKind}:∀{cs:List (TV S)}{i:Nat}{a:Int},(lh c cs)[i]?=some a->∃f,cs[i]?=some (.aE f (.int c) a)|[],i,a,h=>by simp[lh] at h|v::r,i,a,h=>by unfold lh at h;split at h;rename_i f k b d e;cases e;split at h;rename_i e _;subst e;(cases i with|zero=>cases h;exact⟨f,rfl⟩|succ i=>exact xN (cs:=r) (i:=i) (by simpa using h));simp at h;simp at h
def GX(q:IntKind)(a:Nat):List (TV S)->List (Nat×Nat)|.ks h b z n::r=>(match decEq b (.int q) with|isTrue _=>(match decEq h a with|isTrue _=>(z,n)::GX q a r|isFalse _=>[])|isFalse _=>[])|_=>[]
def Pp{q:IntKind}{b:Nat}:∀{cs:List (TV S)}{i:Nat}{a:Nat×Nat},(GX q b cs)[i]?=some a->cs[i]?=some (.ks b (.int q) a.1 a.2)|[],i,a,h=>by simp[GX] at h|v::r,i,a,h=>by unfold GX at h;split at h;rename_i d f z n c e;cases e;split at h;rename_i e _;subst e;split at h;rename_i e _;subst e;(cases i with|zero=>cases h;rfl|succ i=>exact Pp (cs:=r) (i:=i) (by simpa using h));simp at h;simp at h;simp at h
def abg:List (TV S)->Option Nat|.ks h _ _ _::_=>some h|_=>none
def DJ(i:Nat):List (Nat×List Int)->Option (List Int)|[]=>none|(x,l)::r=>match l with|[]=>DJ i r|a::b=>bif Nat.beq x i then some (a::b) else DJ i r
def QS(i:Nat):List l3->Option (List Int)|[]=>none|e::r=>match DJ i e.f with|some l=>some l|none=>QS i r
def aan(es:List l3)(z j:Nat):Option Int:=(QS z es).bind fun l=>l[j]?
def Ih(q:IntKind)(i:Nat):∀f:List (Nat×List Int),Cg i (f.map fun p=>(p.1,pU q p.2))=(DJ i f).map (pU q)|[]=>rfl|(x,l)::r=>by cases l with|nil=>exact Ih q i r|cons a b=>show(bif Nat.beq x i then some (pU q (a::b)) else Cg i (r.map _))=(bif Nat.beq x i then some (a::b) else DJ i r).map (pU q);cases Nat.beq x i with|true=>rfl|false=>exact Ih q i r
def OT(q:IntKind)(i:Nat):∀es:List l3,ES i (es.map (l3.me q))=(QS i es).map (pU q)|[]=>rfl|e::r=>by simp only[bg,ES,QS];rw[show(l3.me q e).f=e.f.map fun p=>(p.1,pU q p.2) from rfl,Ih];cases DJ i e.f with|some l=>rfl|none=>exact OT q i r
def QR:List l3->Nat->Option l3|[],_=>none|e::r,t=>bif Nat.beq e.t t then some e else QR r t
def Za(es:List l3)(t j:Nat):Option (Nat×List Int):=(QR es t).bind fun e=>e.f[j]?
def Sd(q:IntKind)(t:Nat):∀es:List l3,OG (es.map (l3.me q)) t=(QR es t).map (l3.me q)|[]=>rfl|e::r=>by simp only[bg,OG,List.find?_cons,QR];cases h:Nat.beq e.t t with|true=>simp[l3.me,h]|false=>have:=Sd q t r;simp only[OG] at this;simp[l3.me,h] at this|-;exact this
def Jy{P:Program}{t:TypeId}{z:Value}(h:(P.info? t).bind (·.zero)=some z):∀w,(zeroValue t).run P w=.ok z w:=by intro w;cases a:P.info? t with|none=>rw[a] at h;cases h|some i=>rw[a] at h;have h:i.zero=some z:=h;simp[zeroValue,typeInfo,a,h]
def XT{es:List l3}{t j z:Nat}{l:List Int}(h:Za es t j=some (z,l))(q:IntKind):∃e,OG (es.map (l3.me q)) t=some e/\e.f[j]?=some (z,pU q l):=by obtain⟨e,b,a⟩:=bind_some h;refine⟨l3.me q e,by rw[Sd,b];rfl,?_⟩;show(e.f.map fun p=>(p.1,pU q p.2))[j]?=_;rw[ao,a];rfl
def VF(q:IntKind)(l:List Int):(pU q l).length=l.length:=by unfold pU;simp
def QZ{A:Type}(P:Program)(W:List Nat)(s:ae S)(t:TypeId)(x y:Operand)(k:TV S->Option A):Option A:=none
def EN:(i:Bool)->KK i->List (bp S.α)->Bool|false,k,[⟨.str,x⟩,_]=>decide ((x:ByteArray)=k)|true,k,[⟨.int .i64,x⟩,_]=>decide ((x:Int)=k)|_,_,_=>false
def qO(i:Bool)(n:Nat)(l:List (S.α n))(k:KK i):Option (S.α n):=List.find? (fun a=>EN i k (S.cells n a)) l
def JJ(q:IntKind):List (bp S.α)->Int|[_,⟨.int a,v⟩]=>bif decide (a=q) then v else 0|_=>0
def WM(n:Nat)(q:IntKind):Option (S.α n)->Int|some a=>JJ q (S.cells n a)|none=>0
def C5{n:Nat}{i:Bool}{q:IntKind}(ht:S.dd n=[Ps i,.int q])(a:S.α n):∃(x:KK i) (v:Int),rH i (S.cells n a)=(x,.val (.int q v))/\(∀k,EN i k (S.cells n a)=decide (x=k))/\JJ q (S.cells n a)=v:=by have h:=S.nZ n a;rw[ht] at h;match hc:S.cells n a,h with|[⟨b,x⟩,⟨d,v⟩],h=>simp only[bg,sc,List.cons.injEq,and_true] at h;obtain⟨c,e⟩:=h;have c:b=Ps i:=c;have e:d=.int q:=e;subst e;(have f:JJ q [(⟨b,x⟩:bp S.α),⟨.int q,v⟩]=v:=by show(bif decide (q=q) then v else 0)=v;rw[decide_eq_true rfl];rfl);cases i with|true=>have c:b=.int .i64:=c;subst c;exact⟨x,v,rfl,fun k=>rfl,f⟩|false=>have c:b=.str:=c;subst c;exact⟨x,v,rfl,fun k=>rfl,f⟩
def LU{n:Nat}{i:Bool}{q:IntKind}(ht:S.dd n=[Ps i,.int q])(k:KK i):∀l:List (S.α n),jB (List.map (fun a=>rH i (S.cells n a)) l) k=(qO i n l k).map fun a=>.val (.int q (JJ q (S.cells n a)))|[]=>rfl|a::r=>by obtain⟨x,v,d,c,e⟩:=C5 ht a;have b:=LU ht k r;unfold jB at b|-;unfold qO at b|-;show(List.find? _ (rH i (S.cells n a)::List.map (fun a=>rH i (S.cells n a)) r)).map _=_;rw[d];by_cases hx:x=k;rw[List.find?_cons_of_pos (by simpa using hx),List.find?_cons_of_pos (by rw[c];simpa using hx)];show some (G.val (.int q v))=some (G.val (.int q (JJ q (S.cells n a))));rw[e];rw[List.find?_cons_of_neg (by simpa using hx),List.find?_cons_of_neg (by rw[c];simpa using hx)];exact b
def Q6:(i:Bool)->TV S->Option (KK i)|false,.aE _ .str k=>some (k:ByteArray)|true,.aE _ (.int .i64) k=>some (k:Int)|_,_=>none
def Pv{i:Bool}{v:TV S}{k:KK i}(h:Q6 i v=some k)(ln:Nat->Nat):v.er ln=.val (xJ i k):=by unfold Q6 at h;split at h;cases h;exact NE _ _;cases h;exact tU _ _ _;cases h
def WY(P:Program)(i:Bool)(a:TypeId):Bool:=match P.underlying a with|some .string=>!i|some (.int .i64)=>i|_=>false
def MW{P:Program}{i:Bool}{b:TypeId}(h:WY P i b=true):Oc P b (xJ i):=by
 unfold WY at h;split at h;rename_i a;cases i with|true=>cases h|false=>exact⟨⟨.string,a,fun k=>by simp[MapKept.IsKey,xJ]⟩,fun k c e=>Value.string.inj e⟩
 rename_i a;cases i with|false=>cases h|true=>exact⟨⟨.int .i64,a,fun k=>by simp[MapKept.IsKey,xJ]⟩,fun k c e=>(Value.int.inj e).2⟩
 cases h
def Hj(b c:Bool)(n:Nat)(q:IntKind)(o:Option (S.α n)):TV S:=bif c then .bE [.aE true (.int q) (bif b then(0:Int) else WM n q o),.aE true .bool (bif b then false else o.isSome)] else .aE true (.int q) (bif b then(0:Int) else WM n q o)
def La{A:Type}(P:Program)(W:List Nat)(s:ae S)(t:TypeId)(b:Bool)(h:Nat)(y:Operand)(c:Bool)(k:TV S->Option A):Option A:=match W.contains h with|true=>none|false=>match aB s.bo h with|some (.deep _ _ _ (.sm i) (.st o) e)=>(match S.cells o e with|[⟨.list (.st n),l⟩]=>(match cC s y with|some f=>(match Q6 i f with|some g=>(match P.underlying t with|some (.map j m)=>(match WY P i j with|true=>(match S.dd n with|[a,.int q]=>(match decEq a (Ps i) with|isTrue _=>(match (P.info? m).bind (·.zero) with|some (.int d z)=>(match decide (d=q),decide (z=0) with|true,true=>k (Hj b c n q (qO i n l g))|_,_=>none)|_=>none)|isFalse _=>none)|_=>none)|false=>none)|_=>none)|none=>none)|none=>none)|_=>none)|_=>none
def ov{A:Type}(P:Program)(W:List Nat)(s:ae S)(t:TypeId)(x y:Operand)(c:Bool)(k:TV S->Option A):Option A:=match cC s x with|some (.mp h)=>La P W s t false h y c k|some (.ee b h)=>La P W s t b h y c k|_=>none
def YJ(s:ae S)(x:Operand):Bool:=match cC s x with|some (.mp h)=>(match aB s.bo h with|some (.deep _ _ _ (.sm _) _ _)=>true|_=>false)|some (.ee _ h)=>(match aB s.bo h with|some (.deep _ _ _ (.sm _) _ _)=>true|_=>false)|_=>false
def OE(P:Program)(W:List Nat)(s:ae S)(op:Op){A:Type}(k:TV S->Option A):Option A:=match op with|.convert t B x=>(match cC s x with|some (.aN h (.int .u8))=>(match W.contains h with|true=>none|false=>match aB s.bo h with|some (.arr _ _ _ (.int .u8) l)=>(match P.underlying t with|some (.slice e)=>(match P.underlying e with|some (.int .u8)=>(match P.underlying B with|some .string=>k (.aE true .str (strOf l))|_=>none)|_=>none)|_=>none)|_=>none)|_=>none)|.load t x=>(match Jt P t with|some false=>(match cC s x with|some (.ptr f g a)=>(match g.gA with|false=>k (.aE f g a)|true=>none)|some (.loc h o)=>(match W.contains h with|true=>none|false=>match aB s.bo h with|some (.box _ _ m)=>(match m[o]? with|some v=>k v|none=>none)|_=>none)|some (.iU h g i j)=>(match W.contains h with|true=>none|false=>match aB s.bo h with|some (.arr _ _ f b l)=>(match decEq b g with|isTrue _=>(Ht s x h l i fun y=>match y with|⟨.st n,a⟩=>(match (S.cells n a)[j]? with|some z=>k (.aE f z.τ z.a)|none=>none)|y=>match j with|0=>k (.aE f y.τ y.a)|_=>none)|isFalse _=>none)|some (.deep _ _ _ (.wN _) b a)=>(match j with|0=>IQ b a g i fun t n=>k (.ks h t i n)|_=>none)|some (.box _ _ m)=>(match g with|.int u=>(ba (i<(lh u (m.drop j)).length)).bind fun _=>k (.aE true (.int u) ((lh u (m.drop j)).getD i 0))|.list (.int q)=>(match abg (m.drop j) with|some r=>(ba (i<(GX q r (m.drop j)).length)).bind fun _=>k (.ks r (.int q) ((GX q r (m.drop j)).getD i (0,0)).1 ((GX q r (m.drop j)).getD i (0,0)).2)|none=>none)|_=>none)|_=>none)|some (.kp h g i j)=>(match W.contains h with|true=>none|false=>match aB s.bo h with|some (.deep _ _ _ (.wN _) b a)=>Fs b a g i j k|some (.deep _ _ _ (.map q _ _) .map d)=>(match g with|.list _=>(Za d.es i j).bind fun p=>k (.ks h (.int q) p.1 (List.length p.2))|.int w=>(match decEq w q with|isTrue _=>(aan d.es i j).bind fun x=>k (.aE true (.int q) x)|isFalse _=>none)|_=>none)|_=>none)|_=>none)|some true=>(match nL P t with|some z=>(match cC s x with|some (.ptr f (.st n) a)=>(match Nat.beq z (S.dd n).length with|true=>k (.aE f (.st n) a)|false=>none)|some (.loc h o)=>(match W.contains h with|true=>none|false=>match aB s.bo h with|some (.box _ _ m)=>(match Nat.ble (o+z) m.length with|true=>k (.agg ((m.drop o).take z))|false=>none)|_=>none)|some (.iU h g i j)=>(match W.contains h with|true=>none|false=>match aB s.bo h with|some (.arr _ _ f b l)=>(match decEq b g with|isTrue _=>(match j with|0=>(match Nat.beq z (S.sz g) with|true=>(match g with|.st _=>Ht s x h l i fun y=>k (.aE f y.τ y.a)|_=>none)|false=>none)|j+1=>none)|isFalse _=>none)|_=>none)|_=>none)|none=>none)|none=>none)|.lookup t x y c=>bif YJ s x then ov P W s t x y c k else bif c then QZ P W s t x y k else none|_=>none
section
variable {P:Program}{W:List Nat}{s:ae S}{dst:Option Tmp}{ty:TypeId}{pos:String}{after:Array Edge}{guard:Option (Nat×Bool)}
def Fv{x:Operand}{h i:Nat}{u:TypeId}{m f:Bool}{τ:Ty}{l:List (S.D τ)}{A:Type}{k:bp S.α->Option A}{r:A}(q:aQ s)(hx:∃j,cC s x=some (.iU h τ i j))(ho:aB s.bo h=some (.arr u m f τ l))(b:Ht s x h l i k=some r):∃a,l[i]?=some a/\k ⟨τ,a⟩=some r:=by unfold Ht at b;split at b;rename_i y c;obtain⟨t,n,o⟩:=MM c;subst n;obtain⟨C,d,z,B,p,D,a,v,e,w,g⟩:=q t h y o;rw[ho] at e;cases e;obtain⟨j,hx⟩:=hx;simp only[cC] at hx;rw[v] at hx;cases hx;subst w;exact⟨a,g,b⟩;exact bind_some b
def eG{h:Nat}{o:TO S}(ho:aB s.bo h=some o):az s.er.st h=some (o.er s.ln):=gv ho
def O1(a:TypeId)(m f:Bool)(τ:Ty)(l:List (S.D τ))(ln:Nat->Nat){g:G}(hg:g.one=true)(hf:∀g',g≠.fr g'):((TO.arr a m f τ l:TO S).er ln).out g=ei f g:=by cases g <;> first|rfl|(cases f <;> rfl)
def Kz(τ:Ty)(a:S.D τ):∀g∈aX S τ a,∀g',g≠.fr g':=by intro g b g' e;subst e;cases τ with|st n=>(rw[ir] at b;obtain⟨x,h,e⟩:=eL.1 b;have f:=lH n a _ h;obtain⟨c,d⟩:=x;cases c with|st _=>cases f|pt _=>cases d <;> cases e|_=>cases e)|pt n=>cases a <;> simp[aX,CS] at b|_=>simp[aX,CS] at b
def Vo{t:TypeId}{x y:Operand}{A:Type}{k:TV S->Option A}{r:A}(h:QZ P W s t x y k=some r):∃v,fQ P W s.er ⟨dst,.lookup t x y true,ty,pos,after,guard⟩ (v.er s.ln)/\k v=some r:=by unfold QZ at h;cases h
def MK{t:TypeId}{b:Bool}{D:Nat}{x y:Operand}{c:Bool}{A:Type}{k:TV S->Option A}{r:A}(hx:cC s x=some (.ee b D)\/(b=false/\cC s x=some (.mp D)))(h:La P W s t b D y c k=some r):∃v,fQ P W s.er ⟨dst,.lookup t x y c,ty,pos,after,guard⟩ (v.er s.ln)/\k v=some r:=by
 unfold La at h;split at h;cases h;rename_i X;split at h;rename_i e m f i L N U;split at h;rename_i n l o;split at h;rename_i Z R;split at h;rename_i j I;split at h;rename_i Y et M;split at h;rename_i B;split at h;rename_i T q u;split at h;rename_i F _;subst F;split at h;rename_i g z K;split at h;rename_i H E;have H:=of_decide_eq_true H;have E:=of_decide_eq_true E;subst H;subst E;refine⟨_,?_,h⟩;have w:ev s.er y=some (.val (xJ i j)):=by rw[bi R,Pv I]
 have J:qZ (S:=S) i (.st L) N=List.map (fun a=>rH i (S.cells n a)) l:=by show(match S.cells L N with|[⟨.list (.st n),l⟩]=>List.map (fun a=>rH i (S.cells n a)) l|_=>[])=_;rw[o]
 have nil:ev s.er x=some (.val (.map none))->b=true->fQ P W s.er ⟨dst,.lookup t x y c,ty,pos,after,guard⟩ ((Hj b c n g (qO i n l j)).er s.ln):=fun p C=>by subst C;have:=YL.aad (P:=P) (W:=W) (dst:=dst) (ty:=ty) (pos:=pos) (after:=after) (guard:=guard) (c:=c) p w M (MW B) (Jy K);cases c <;> exact this
 have d:ev s.er x=some (.eT D)->b=false->fQ P W s.er ⟨dst,.lookup t x y c,ty,pos,after,guard⟩ ((Hj b c n g (qO i n l j)).er s.ln):=fun p C=>by subst C;have:=YL.jB (P:=P) (W:=W) (dst:=dst) (ty:=ty) (pos:=pos) (after:=after) (guard:=guard) (c:=c) p w (eG U) rfl (fun _ e O=>by rw[J] at O;obtain⟨a,_,rfl⟩:=eL.1 O;obtain⟨x,v,V,_⟩:=C5 u a;exact⟨_,by rw[V]⟩) M (MW B) (Jy K) X;rw[J,LU u] at this;(have Q:((bif c then .bE [((qO i n l j).map fun a=>G.val (.int g (JJ g (S.cells n a)))).getD (.val (.int g 0)),.val (.bool ((qO i n l j).map fun a=>G.val (.int g (JJ g (S.cells n a)))).isSome)] else((qO i n l j).map fun a=>G.val (.int g (JJ g (S.cells n a)))).getD (.val (.int g 0))):G)=(Hj false c n g (qO i n l j)).er s.ln:=by cases c <;> cases qO i n l j <;> rfl);rw[Q] at this;exact this
 rcases hx with hx|⟨C,hx⟩;cases b with|true=>exact nil (bi hx) rfl|false=>exact d (bi hx) rfl
 exact d (bi hx) C;cases h;cases h;cases h;cases h;cases h;cases h;cases h;cases h;cases h;cases h
def Vn{t:TypeId}{x y:Operand}{c:Bool}{A:Type}{k:TV S->Option A}{r:A}(h:ov P W s t x y c k=some r):∃v,fQ P W s.er ⟨dst,.lookup t x y c,ty,pos,after,guard⟩ (v.er s.ln)/\k v=some r:=by unfold ov at h;split at h;rename_i a;exact MK (.inr ⟨rfl,a⟩) h;rename_i a;exact MK (.inl a) h;cases h
def F8{op:Op}{A:Type}{k:TV S->Option A}{r:A}(hl:aQ s)(h:OE P W s op k=some r):∃v,fQ P W s.er ⟨dst,op,ty,pos,after,guard⟩ (v.er s.ln)/\k v=some r:=by
 unfold OE at h;split at h;rename_i t t' x;split at h;rename_i H w;split at h;cases h;rename_i B;split at h;rename_i e m f l p;split at h;rename_i N hu;split at h;rename_i he;split at h;rename_i hu';refine⟨_,?_,h⟩;have V:ev s.er x=some (.aN H 1 0 (List.length l)):=by rw[bi w];show some (G.aN _ _ _ (s.ln H))=_;rw[pQ p];rfl
 refine YL.Wp V (eG p) rfl ?_ rfl hu he hu' B;show List.flatMap (aX S (.int .u8)) l=_;clear V;generalize (show List Int from l)=l';induction l' with|nil=>rfl|cons x r ih=>rw[cd,ih];rfl
 cases h;cases h;cases h;cases h;cases h;rename_i t x;split at h;rename_i C;split at h;rename_i f I a w;split at h;rename_i M;refine⟨_,?_,h⟩;rw[qs M];have N:=bi w;rw[Ho] at N;have D:(aX S I a)[0]?=some (dM S I a):=by rw[j7 S M];rfl
 cases f with|true=>exact YL.aaP N D (gM C) rfl|false=>exact YL.ptr N D (gM C)
 cases h;rename_i H L w;split at h;cases h;rename_i B;split at h;rename_i e m E p;split at h;rename_i v Q;refine⟨v,?_,h⟩;refine YL.DL (bi w) (eG p) ?_ (gM C) B rfl;show(TV.er.go s.ln E)[L]?=_;rw[cW,ao,Q];rfl;cases h;cases h;rename_i H I i j w;split at h;cases h;rename_i B;split at h;rename_i e m f o l p;split at h;rename_i D _;subst D;obtain⟨a,K,F⟩:=Fv hl ⟨j,w⟩ p h;replace h:=F;clear F;have Y:∀(g:G),(aX S o a)[j]?=some g->fQ P W s.er ⟨dst,.load t x,ty,pos,after,guard⟩ (ei f g):=by intro g U;have hm:=ak U;refine YL.load (k:=(TO.arr e m f o l:TO S).er s.ln) (g:=g) (bi w) (eG p) ?_ (gM C) B (O1 e m f o l _ (CT S o a g hm) (Kz o a g hm));(have hj:j<S.sz o:=by have:=(ap.1 U).1;rw[tS] at this;exact this);have:=@rC _ (np S o) l i a K j hj;show(List.flatMap (aX S o) l)[i*S.sz o+j]?=_;exact this.trans U
 split at h;rename_i n a' he;cases he;split at h;rename_i z T;refine⟨_,?_,h⟩;rw[qs (lH n _ z (ak T))];exact Y _ (by rw[ir,ao,T];rfl);cases h;rename_i hns;split at h;refine⟨_,?_,h⟩;have M:o.gA=false:=by cases o with|st n=>exact absurd rfl (hns n a)|_=>rfl
 rw[qs M];exact Y _ (by rw[j7 S M];rfl);cases h;cases h;rename_i e m f J o a p;split at h;obtain⟨t',n,gs,D,O,X,F⟩:=Rl h;subst D;refine⟨_,?_,F⟩;have:=YL.ZF (P:=P) (W:=W) (dst:=dst) (ty:=ty) (pos:=pos) (after:=after) (guard:=guard) (t:=t) (x:=x) (h:=H) (i:=i) (by rw[bi w];simp[TV.er,eN.sz]) (eG p) rfl X (gM C) B;rw[O] at this;exact this;cases h;rename_i e m E p;split at h;rename_i ki;obtain⟨_,u,h⟩:=bind_some h;have u:=cI u;refine⟨_,?_,h⟩;obtain⟨f,Q⟩:=xN (af u);rw[bC] at Q;have:=YL.DL (P:=P) (W:=W) (dst:=dst) (ty:=ty) (pos:=pos) (after:=after) (guard:=guard) (t:=t) (g:=.val (.int ki (lh ki (E.drop j))[i])) (bi w) (eG p) (by show(TV.er.go s.ln E)[i*1+j]?=_;rw[cW,ao,show i*1+j=j+i by omega,Q];exact congrArg some (tU f ki _)) (gM C) B rfl;rw[bl,af u];exact this;rename_i q;split at h;rename_i R _;obtain⟨_,u,h⟩:=bind_some h;have u:=cI u;refine⟨_,?_,h⟩;have Q:=Pp (af u);rw[bC] at Q;have:=YL.DL (P:=P) (W:=W) (dst:=dst) (ty:=ty) (pos:=pos) (after:=after) (guard:=guard) (t:=t) (g:=.ks R (GX q R (E.drop j))[i].1 1 (GX q R (E.drop j))[i].2) (bi w) (eG p) (by show(TV.er.go s.ln E)[i*1+j]?=_;rw[cW,ao,show i*1+j=j+i by omega,Q];rfl) (gM C) B rfl;rw[bl,af u];exact this;cases h;cases h;cases h;rename_i H I i j w;split at h;cases h;rename_i B;split at h;rename_i e m f J o a p;obtain⟨t',x',n,gs,D,O,X,e4,F⟩:=Ox h;subst D;refine⟨_,?_,F⟩;have:=YL.IR (P:=P) (W:=W) (dst:=dst) (ty:=ty) (pos:=pos) (after:=after) (guard:=guard) (t:=t) (x:=x) (bi w) (eG p) rfl X e4 (gM C) B;have e5:∀b,TD b (dM S I x')=(TV.aE true I x':TV S).er s.ln:=by intro b;cases I with|list _=>cases O|st _=>cases O|dC=>cases O|pt _=>cases O|_=>rfl
 rw[e5] at this;exact this;rename_i e m f q J Z d p;split at h;rename_i I;obtain⟨⟨z,l⟩,R,h⟩:=bind_some h;refine⟨_,?_,h⟩;obtain⟨e',F,h3⟩:=XT R q;have:=YL.Zf (P:=P) (W:=W) (dst:=dst) (ty:=ty) (pos:=pos) (after:=after) (guard:=guard) (t:=t) (x:=x) (h:=H) (tt:=i) (off:=j) (q:=q) (kty:=J) (tty:=Z) (n:=d.n) (pd:=SN q d.pd) (by rw[bi w];simp[TV.er,eN.sz]) (eG p) rfl F h3 (gM C) B;rw[VF] at this;exact this;rename_i q';split at h;rename_i e' _;subst e';obtain⟨x',u,h⟩:=bind_some h;obtain⟨l,R,F⟩:=bind_some u;refine⟨_,?_,h⟩;have:=YL.XU (P:=P) (W:=W) (dst:=dst) (ty:=ty) (pos:=pos) (after:=after) (guard:=guard) (t:=t) (x:=x) (h:=H) (z:=i) (off:=j) (q:=q') (kty:=J) (tty:=Z) (n:=d.n) (pd:=SN q' d.pd) (es:=d.es.map (l3.me q')) (gs:=pU q' l) (u:=.int q' x') (by rw[bi w];simp[TV.er,eN.sz]) (eG p) rfl (by rw[OT,R];rfl) (by unfold pU;rw[ao,F];rfl) (gM C) B;rw[qs rfl];exact this;cases h;cases h;cases h;cases h;rename_i C;split at h;rename_i z T;split at h;rename_i f n a w;split at h;rename_i u;have u:=ab u;refine⟨_,?_,h⟩;have N:=bi w;rw[Ho] at N;have hlen:(aX S (.st n) a).length=z:=by rw[tS,u];rfl
 show fQ P W s.er _ (.agg ((aX S (.st n) a).map (ei f)));cases f with|true=>have:=YL.XD (P:=P) (W:=W) (dst:=dst) (ty:=ty) (pos:=pos) (after:=after) (guard:=guard) (sz:=z) N (by omega) (gM C) (dG T);rw[dc (by omega)] at this;exact this|false=>have:=YL.YW (P:=P) (W:=W) (dst:=dst) (ty:=ty) (pos:=pos) (after:=after) (guard:=guard) (sz:=z) N (by omega) (gM C) (dG T);rw[dc (by omega)] at this;(have O:(aX S (.st n) a).map (ei false)=aX S (.st n) a:=by have:(ei false)=(id:G->G):=rfl;rw[this,List.map_id]);rw[O];exact this
 cases h;rename_i H L w;split at h;cases h;rename_i B;split at h;rename_i e m E p;split at h;rename_i u;refine⟨_,?_,h⟩;have:=YL.Pg (P:=P) (W:=W) (dst:=dst) (ty:=ty) (pos:=pos) (after:=after) (guard:=guard) (sz:=z) (bi w) (eG p) rfl (gM C) (dG T) (by show L+z<=(TV.er.go s.ln E).length;rw[cW,aJ];exact fS u) B;show fQ P W s.er _ (.agg (TV.er.go s.ln ((E.drop L).take z)));rw[cW,List.map_take,List.map_drop,<-cW];exact this;cases h;cases h;rename_i H I i j w;split at h;cases h;rename_i B;split at h;rename_i e m f o l p;split at h;rename_i D _;subst D;split at h;split at h;rename_i u;have u:=ab u;split at h;rename_i n _ _ _ _ _;obtain⟨a,K,h⟩:=Fv hl ⟨_,w⟩ p h;refine⟨_,?_,h⟩;have hil:=(ap.1 K).1;have:=YL.Vp (P:=P) (W:=W) (dst:=dst) (ty:=ty) (pos:=pos) (after:=after) (guard:=guard) (sz:=z) (bi w) (eG p) (gM C) (dG T) (by show i*S.sz _+0+z<=(List.flatMap (aX S _) l).length;have:=@fN _ (np S (.st n)) l;rw[show(List.flatMap (aX S (.st n)) l).length=_ from this,u];show i*S.sz _+0+S.sz _<=l.length*S.sz _;have:(i+1)*S.sz (.st n)<=l.length*S.sz (.st n):=b9 _ hil;rw[fp,Nat.one_mul] at this;omega) B;show fQ P W s.er _ (.agg ((aX S (.st n) a).map (ei f)));have X:((List.flatMap (aX S (.st n)) l).drop (i*S.sz (.st n)+0)).take z=aX S (.st n) a:=by rw[u,gu];exact @Ns _ (np S (.st n)) l (i:Int) a (by unfold idx;rw[if_pos (by omega)];simpa using K)
 have e4:((List.drop (i*S.sz (.st n)+0) (List.flatMap (aX S (.st n)) l)).take z).map (((TO.arr e m f (.st n) l:TO S).er s.ln).out)=(aX S (.st n) a).map (ei f):=by rw[X];exact ft fun g U=>O1 e m f (.st n) l _ (CT S _ a g U) (Kz _ a g U)
 rw[<-e4];exact this;cases h;cases h;cases h;cases h;cases h;cases h;cases h;cases h;rename_i t x y c;cases M:YJ s x with|true=>rw[M] at h;exact Vn h|false=>rw[M] at h;cases c with|true=>exact Vo h|false=>cases h
 cases h
end
end
end Go.DN
/-
 DN,part G:which handles are named;new ones;objects that change.
-/
namespace Go.DN
open Go.AM
section
variable {S:eN}
def TV.has (k:Nat):TV S→Bool
 | .loc h _=>Nat.beq h k
 | .iU h _ _ _=>Nat.beq h k
 | .aN h _=>Nat.beq h k
 | .sub h _ _ _=>Nat.beq h k
 | .agg l=>go k l
 | .bE l=>go k l
 | .bf _ l=>go k l
 | .da h=>Nat.beq h k
 | .mp h=>Nat.beq h k
 | .ks h _ _ _=>Nat.beq h k
 | .kp h _ _ _=>Nat.beq h k
 | .iQ b h _ _ _=>Nat.beq h k&&!b
 | .gG b h _=>Nat.beq h k&&!b
 | .ee b h=>Nat.beq h k&&!b
 | _=>false
where go (k:Nat):List (TV S)→Bool
 | []=>false
 | x::r=>x.has k||go k r
def Wk(k:Nat)(f:Bool)(τ:Ty)(a:S.D τ)(h:τ.gA=false):(ei f (dM S τ a)).cD k=false:=by cases τ with|st n=>cases h|pt n=>cases a <;> cases f <;> rfl|_=>cases f <;> rfl
def NF(k:Nat)(f:Bool)(τ:Ty)(a:S.D τ):(pe f τ a).cD k=false:=by cases τ with|st n=>(show G.cD.go k ((aX S (.st n) a).map (ei f))=false;rw[ir];have:=lH n a;generalize S.cells n a=l at this;induction l with|nil=>rfl|cons x r c=>simp only[bg,G.cD.go,Wk k f x.τ x.a (this x au),gm];exact c fun y b=>this y (ar _ b))|pt n=>cases a <;> cases f <;> rfl|_=>cases f <;> rfl
mutual
theorem zo (ln:Nat→Nat) (k:Nat):∀v:TV S,(v.er ln).cD k=v.has k
 | .aE f τ a=>NF k f τ a
 | .ptr f τ a=>by cases f <;> rfl
 | .agg l=>zn ln k l
 | .bE l=>zn ln k l
 | .bf _ l=>zn ln k l
 | .loc _ _=>rfl
 | .iU _ _ _ _=>rfl
 | .aN _ _=>rfl
 | .sub _ _ _ _=>rfl
 | .da _=>rfl
 | .mp _=>rfl
 | .ks _ _ _ _=>rfl
 | .kp _ _ _ _=>rfl
 | .iQ b h _ _ _=>by
  cases b with
  | true=>show false=(Nat.beq h k&&false);rw[Bool.and_false]
  | false=>show Nat.beq h k=(Nat.beq h k&&true);rw[kf]
 | .gG b h _=>by
  cases b with
  | true=>show false=(Nat.beq h k&&false);rw[Bool.and_false]
  | false=>show Nat.beq h k=(Nat.beq h k&&true);rw[kf]
 | .ee b h=>by
  cases b with
  | true=>show false=(Nat.beq h k&&false);rw[Bool.and_false]
  | false=>show Nat.beq h k=(Nat.beq h k&&true);rw[kf]
 | .val _=>rfl
 | .any=>rfl
theorem zn (ln:Nat→Nat) (k:Nat):∀l:List (TV S),G.cD.go k (TV.er.go ln l)=TV.has.go k l
 | []=>rfl
 | x::r=>by simp only[TV.er.go,G.cD.go,TV.has.go,zo ln k x,zn ln k r]
end
mutual
theorem tQ {ln ln':Nat→Nat}:∀v:TV S,(∀k,v.has k=true→ln k=ln' k)→v.er ln=v.er ln'
 | .aE f τ a,_=>rfl
 | .ptr f τ a,_=>rfl
 | .agg l,h=>congrArg G.agg (rS l h)
 | .bE l,h=>congrArg G.bE (rS l h)
 | .bf f l,h=>congrArg (G.bf f) (rS l h)
 | .loc _ _,_=>rfl
 | .iU _ _ _ _,_=>rfl
 | .aN h τ,hh=>congrArg (G.aN h (S.sz τ) 0) (hh h (aW h))
 | .sub _ _ _ _,_=>rfl
 | .da _,_=>rfl
 | .mp _,_=>rfl
 | .ks _ _ _ _,_=>rfl
 | .kp _ _ _ _,_=>rfl
 | .iQ _ _ _ _ _,_=>rfl
 | .gG _ _ _,_=>rfl
 | .ee _ _,_=>rfl
 | .val _,_=>rfl
 | .any,_=>rfl
theorem rS {ln ln':Nat→Nat}:∀l:List (TV S),(∀k,TV.has.go k l=true→ln k=ln' k)→TV.er.go ln l=TV.er.go ln' l
 | [],_=>rfl
 | x::r,h=>by
  simp only[TV.er.go];rw[tQ x fun k hk=>h k (by simp[TV.has.go,hk]),rS r fun k hk=>h k (by simp[TV.has.go,hk])]
end
def gT(k:Nat):List (Nat×TV S)->Bool|[]=>false|(_,v)::r=>v.has k||gT k r
def TO.has(k:Nat):TO S->Bool|.box _ _ a=>TV.has.go k a|.arr ..=>false|.lp _ _ a=>TV.has.go k a|.deep ..=>false
def dI(k:Nat):List (Nat×TO S)->Bool|[]=>false|(_,o)::r=>o.has k||dI k r
def ae.free(s:ae S)(k:Nat):Bool:=(match aB s.bo k with|none=>true|some _=>false)&&(!(gT k s.cm)&&(!(dI k s.bo)&&(!(TV.has.go k s.df)&&Nat.blt k 500)))
def PC(ln:Nat->Nat)(k:Nat):∀fr:List (Nat×TV S),CJ k (iC ln fr)=!(gT k fr)|[]=>rfl|(_,v)::r=>by simp only[iC,CJ,gT,zo,PC ln k r,Bool.not_or]
def ss{ln:Nat->Nat}:∀{st:List (Nat×TO S)}{t:Nat},aB st t=none->az (b6 ln st) t=none|[],_,_=>rfl|(k,g)::r,t,h=>by simp only[aB] at h;simp only[b6,az];cases a:Nat.beq k t with|true=>rw[a] at h;cases h|false=>rw[a] at h;exact ss h
def OK(ln:Nat->Nat)(k:Nat):∀st:List (Nat×TO S),dI k st=false->ym k (b6 ln st)=true|[],_=>rfl|(_,o)::r,h=>by simp only[dI,bj] at h;simp only[b6,ym,ag,OK ln k r h.2,and_true];cases o with|box e m a=>simp only[TO.er,zn,gm];have:=h.1;simp only[TO.has] at this;simp[this]|arr e m f b l=>rfl|lp l n a=>simp only[TO.er,zn,gm];have:=h.1;simp only[TO.has] at this;simp[this]|deep=>rfl
def DW(ln:Nat->Nat)(k:Nat):∀l:List (TV S),qE k (TV.er.go ln l)=!(TV.has.go k l)|[]=>rfl|x::r=>by simp only[TV.er.go,qE,TV.has.go,zo,DW ln k r,Bool.not_or]
def free_spec{s:ae S}{k:Nat}(h:s.free k=true):aB s.bo k=none/\gT k s.cm=false/\dI k s.bo=false/\TV.has.go k s.df=false/\Nat.blt k 500=true:=by unfold ae.free at h;simp only[ag,aT] at h;obtain⟨a,c,d,e,b⟩:=h;refine⟨?_,c,d,e,b⟩;split at a;assumption;cases a
def gD{s:ae S}{k:Nat}(h:s.free k=true):fresh s.er k=true:=by
 obtain⟨i,l,d,e,f⟩:=free_spec h;unfold fresh;have g:=ss (ln:=s.ln) i;have b:=PC s.ln k s.cm;rw[l] at b;have j:=OK s.ln k s.bo d;have a:=DW s.ln k s.df;rw[e] at a;have c:Nat.blt k 1000=true:=by simp only[gO] at f|-;omega
 simp only[ag];exact⟨by show(az (b6 s.ln s.bo) k).isNone=true;rw[g];rfl,b,j,a,c⟩
def xT{k:Nat}:∀{fr:List (Nat×TV S)}{t:Nat}{v:TV S},bw fr t=some v->gT k fr=false->v.has k=false|[],_,_,h,_=>by cases h|(c,d)::r,t,v,h,a=>by simp only[gT,bj] at a;simp only[bw] at h;cases b:Nat.beq c t with|true=>rw[b] at h;cases h;exact a.1|false=>rw[b] at h;exact xT h a.2
def Xn{s:ae S}{x:Operand}{v:TV S}{k:Nat}(h:cC s x=some v)(hf:gT k s.cm=false):v.has k=false:=by cases x with|tmp t=>exact xT h hf|const u=>cases h;cases u <;> rfl|func f=>cases h;rfl|global _=>cases h
def kT(ln ln':Nat->Nat)(k:Nat):Prop:=∀j,j≠k->ln j=ln' j
def CQ{ln ln':Nat->Nat}{k:Nat}(h:kT ln ln' k):∀fr:List (Nat×TV S),gT k fr=false->iC ln fr=iC ln' fr|[],_=>rfl|(t,v)::r,a=>by simp only[gT,bj] at a;simp only[iC,CQ h r a.2];rw[tQ v fun j b=>h j fun e=>by subst e;rw[a.1] at b;cases b]
def pX{ln ln':Nat->Nat}{k:Nat}(h:kT ln ln' k)(l:List (TV S))(hf:TV.has.go k l=false):TV.er.go ln l=TV.er.go ln' l:=rS l fun j a=>h j fun e=>by subst e;rw[hf] at a;cases a
def tR{ln ln':Nat->Nat}{k:Nat}(h:kT ln ln' k)(v:TV S)(hf:v.has k=false):v.er ln=v.er ln':=tQ v fun j a=>h j fun e=>by subst e;rw[hf] at a;cases a
def TO.tR{ln ln':Nat->Nat}{k:Nat}(h:kT ln ln' k)(o:TO S)(hf:o.has k=false):o.er ln=o.er ln':=by cases o with|box e m a=>simp only[TO.er,pX h a hf]|arr e m f b l=>rfl|lp l n a=>simp only[TO.er,pX h a hf]|deep=>rfl
def CP{ln ln':Nat->Nat}{k:Nat}(h:kT ln ln' k):∀st:List (Nat×TO S),dI k st=false->b6 ln st=b6 ln' st|[],_=>rfl|(t,o)::r,a=>by simp only[dI,bj] at a;simp only[b6,CP h r a.2,TO.tR h o a.1]
def ML{st:List (Nat×TO S)}(k:Nat)(o:TO S):kT (cw st) (cw ((k,o)::st)) k:=by
 intro j a;unfold cw;simp only[aB];have:Nat.beq k j=false:=by cases h:Nat.beq k j with|false=>rfl|true=>exact absurd (ab h).symm a
 rw[this];rfl
def wF{st:List (Nat×TO S)}(k:Nat)(o:TO S):cw ((k,o)::st) k=o.len:=by unfold cw;simp only[aB,aW,cond_true]
def ae.add(s:ae S)(k:Nat)(o:TO S):ae S:={s with st:=(k,o)::s.st,nx:=bif Nat.beq k s.nx then k+1 else s.nx}
def ae.dw(s:ae S)(d:Nat):Nat:=bif s.free d then d else s.nx
def qe{s:ae S}{k:Nat}(h:s.free k=true)(o:TO S)(ho:o.has k=false):(s.add k o).er={fr:=s.er.fr,st:=(k,o.er s.ln)::s.er.st,df:=s.er.df}/\kT s.ln (s.add k o).ln k:=by obtain⟨e,c,b,d,f⟩:=free_spec h;have a:kT s.ln (s.add k o).ln k:=ML k o;refine⟨?_,a⟩;show St.mk (iC (s.add k o).ln s.cm) (b6 (s.add k o).ln ((k,o)::s.bo)) (TV.er.go (s.add k o).ln s.df)=St.mk _ _ _;rw[<-CQ a s.cm c,<-pX a s.df d];simp only[b6];rw[<-CP a s.bo b,<-TO.tR a o ho];rfl
def sC:List (Nat×TO S)->Nat->TO S->List (Nat×TO S)|[],_,_=>[]|(k,g)::r,t,o=>bif Nat.beq k t then(k,o)::r else(k,g)::sC r t o
def Iq{st:List (Nat×TO S)}{h:Nat}{o o':TO S}(ho:aB st h=some o):aB (sC st h o') h=some o':=by induction st with|nil=>cases ho|cons x r b=>obtain⟨y,g⟩:=x;simp only[aB,sC] at ho|-;cases a:Nat.beq y h with|true=>simp[aB,a]|false=>simp only[a,cond_false] at ho|-;simp only[aB,a,cond_false];exact b ho
def xF{st:List (Nat×TO S)}{h a:Nat}{o:TO S}(b:a≠h):aB (sC st h o) a=aB st a:=by induction st with|nil=>rfl|cons x r d=>obtain⟨y,g⟩:=x;simp only[aB,sC];cases e:Nat.beq y h with|true=>have:y=h:=ab e;subst this;(have f:Nat.beq y a=false:=by cases c:Nat.beq y a with|false=>rfl|true=>exact absurd (ab c).symm b);simp[aB,f]|false=>simp only[cond_false,aB,d]
def Vq{st:List (Nat×TO S)}{h:Nat}{o o':TO S}(ho:aB st h=some o)(a:o'.len=o.len):cw (sC st h o')=cw st:=by funext j;unfold cw;by_cases e:j=h;subst e;rw[Iq ho,ho];exact a;rw[xF e]
def Nq(ln:Nat->Nat):∀(st:List (Nat×TO S)) (h:Nat) (o:TO S),b6 ln (sC st h o)=dJ (b6 ln st) h (o.er ln)|[],_,_=>rfl|(k,g)::r,h,o=>by simp only[sC,b6,dJ];cases Nat.beq k h with|true=>rfl|false=>simp only[cond_false,b6,Nq ln r h o]
def ae.set(s:ae S)(h:Nat)(o:TO S):ae S:={s with st:=sC s.st h o,last:=xC h s.last}
def Mv{st st':List (Nat×TO S)}{h:Nat}{o:TO S}(ho:aB st h=some o):aB (st++st') h=some o:=by induction st with|nil=>cases ho|cons x r b=>obtain⟨k,g⟩:=x;simp only[b7,aB] at ho|-;cases a:Nat.beq k h with|true=>rw[a] at ho;exact ho|false=>rw[a] at ho;exact b ho
def Mn{st st':List (Nat×TO S)}{h:Nat}{o o':TO S}(ho:aB st h=some o):sC (st++st') h o'=sC st h o'++st':=by induction st with|nil=>cases ho|cons x r b=>obtain⟨k,g⟩:=x;simp only[b7,aB,sC] at ho|-;cases a:Nat.beq k h with|true=>rfl|false=>rw[a] at ho;simp only[cond_false,b7];rw[b ho]
def fZ{s:ae S}{h:Nat}{o:TO S}(ho:aB s.st h=some o):aB s.bo h=some o:=Mv ho
def pM{s:ae S}{h:Nat}{o o':TO S}(ho:aB s.st h=some o)(b:o'.len=o.len):(s.set h o').er={fr:=s.er.fr,st:=dJ s.er.st h (o'.er s.ln),df:=s.er.df}/\(s.set h o').ln=s.ln:=by
 have a:(s.set h o').bo=sC s.bo h o':=(Mn ho).symm;have e:(s.set h o').ln=s.ln:=by show cw (s.set h o').bo=cw s.bo;rw[a];exact Vq (fZ ho) b
 refine⟨?_,e⟩;show St.mk (iC (s.set h o').ln s.cm) (b6 (s.set h o').ln (s.set h o').bo) (TV.er.go (s.set h o').ln s.df)=_;rw[e,a,Nq];rfl
def TV.kill(k:Nat)(v:TV S):TV S:=match v.has k with|true=>.any|false=>v
def ma(k:Nat):List (Nat×TV S)->List (Nat×TV S)|[]=>[]|(t,v)::r=>(t,v.kill k)::ma k r
def TO.kill(k:Nat):TO S->TO S|.box e m a=>.box e m (a.map (TV.kill k))|.lp l n a=>.lp l n (a.map (TV.kill k))|o=>o
def jR(k:Nat):List (Nat×TO S)->List (Nat×TO S)|[]=>[]|(t,o)::r=>(t,o.kill k)::jR k r
def Pu(ln:Nat->Nat)(k:Nat)(v:TV S):(v.kill k).er ln=uo k (v.er ln):=by unfold TV.kill uo;rw[zo];cases v.has k <;> rfl
def MX(k:Nat)(v:TV S):(v.kill k).has k=false:=by unfold TV.kill;cases h:v.has k with|true=>rfl|false=>exact h
def MZ(ln:Nat->Nat)(k:Nat):∀fr:List (Nat×TV S),iC ln (ma k fr)=nN k (iC ln fr)|[]=>rfl|(t,v)::r=>by simp only[ma,iC,nN,Pu,MZ ln k r]
def J8(k:Nat):∀fr:List (Nat×TV S),gT k (ma k fr)=false|[]=>rfl|(t,v)::r=>by simp only[ma,gT,MX,J8 k r,Bool.or_self]
def Ax(k:Nat):∀cs:List (TV S),TV.has.go k (cs.map (TV.kill k))=false|[]=>rfl|v::r=>by simp only[bg,TV.has.go,MX,Ax k r,Bool.or_self]
def J6(ln:Nat->Nat)(k:Nat)(cs:List (TV S)):TV.er.go ln (cs.map (TV.kill k))=(TV.er.go ln cs).map (uo k):=by rw[cW,cW,iY,iY];exact ft fun v _=>Pu ln k v
def MY(ln:Nat->Nat)(k:Nat):∀st:List (Nat×TO S),b6 ln (jR k st)=gJ k (b6 ln st)|[]=>rfl|(t,o)::r=>by simp only[jR,b6,gJ,MY ln k r];congr 2;cases o with|box e m a=>simp only[TO.kill,TO.er,J6];rfl|arr e m f b l=>rfl|lp l n a=>simp only[TO.kill,TO.er,J6];rfl|deep=>rfl
def J7(k:Nat):∀st:List (Nat×TO S),dI k (jR k st)=false|[]=>rfl|(t,o)::r=>by simp only[jR,dI,J7 k r,cJ];cases o with|box e m a=>exact Ax k a|arr e m f b l=>rfl|lp l n a=>exact Ax k a|deep=>rfl
def Aj{k h:Nat}:∀{st:List (Nat×TO S)},aB (jR k st) h=(aB st h).map (TO.kill k)|[]=>rfl|(t,o)::r=>by simp only[jR,aB];cases Nat.beq t h with|true=>rfl|false=>exact Aj
def Vv(k:Nat)(o:TO S):(o.kill k).len=o.len:=by cases o <;> rfl
def Td(k:Nat)(st:List (Nat×TO S)):cw (jR k st)=cw st:=by funext j;unfold cw;rw[Aj];cases aB st j with|none=>rfl|some o=>exact Vv k o
def ae.renew(s:ae S)(k:Nat)(o:TO S):ae S:={s with fr:=ma k s.fr,st:=(k,o)::jR k s.st,last:=xC k s.last}
def Pt{k:Nat}{v:TV S}(h:v.has k=false):v.kill k=v:=by unfold TV.kill;rw[h]
def Fe{k:Nat}:∀{fr:List (Nat×TV S)},gT k fr=false->ma k fr=fr|[],_=>rfl|(t,v)::r,h=>by simp only[gT,bj] at h;simp only[ma,Pt h.1,Fe h.2]
def Fc{k:Nat}:∀{l:List (TV S)},TV.has.go k l=false->l.map (TV.kill k)=l|[],_=>rfl|v::r,h=>by simp only[TV.has.go,bj] at h;simp only[bg,Pt h.1,Fc h.2]
def Ay{k:Nat}:∀{st:List (Nat×TO S)},dI k st=false->jR k st=st|[],_=>rfl|(t,o)::r,h=>by simp only[dI,bj] at h;simp only[jR,Ay h.2];(have:o.kill k=o:=by cases o with|box e m a=>simp only[TO.kill];rw[Fc h.1]|arr e m f b l=>rfl|lp l n a=>simp only[TO.kill];rw[Fc h.1]|deep=>rfl);rw[this]
def CC(k:Nat):∀(fr a:List (Nat×TV S)),ma k (fr++a)=ma k fr++ma k a|[],_=>rfl|(t,v)::r,a=>by simp only[b7,ma,CC k r a]
def xK(k:Nat):∀(st st':List (Nat×TO S)),jR k (st++st')=jR k st++jR k st'|[],_=>rfl|(t,v)::r,st'=>by simp only[b7,jR,xK k r st']
def EV{s:ae S}{k:Nat}(o:TO S)(ho:o.has k=false)(hd:TV.has.go k s.df=false)(c:gT k s.lo=false)(b:dI k s.bS=false):(s.renew k o).er={fr:=nN k s.er.fr,st:=(k,o.er s.ln)::gJ k s.er.st,df:=s.er.df}/\kT s.ln (s.renew k o).ln k/\(s.renew k o).ln k=o.len:=by
 have a:kT s.ln (s.renew k o).ln k:=by have:=ML (st:=jR k s.bo) k o;rw[Td] at this;(have e:(s.renew k o).bo=(k,o)::jR k s.bo:=by show(k,o)::(jR k s.st++s.bS)=_;unfold ae.bo;rw[xK,Ay b]);show kT (cw s.bo) (cw (s.renew k o).bo) k;rw[e];exact this
 have f:(s.renew k o).bo=(k,o)::jR k s.bo:=by show(k,o)::(jR k s.st++s.bS)=_;unfold ae.bo;rw[xK,Ay b]
 have d:(s.renew k o).cm=ma k s.cm:=by show ma k s.fr++s.lo=_;unfold ae.cm;rw[CC,Fe c]
 refine⟨?_,a,wF k o⟩;show St.mk (iC (s.renew k o).ln (s.renew k o).cm) (b6 (s.renew k o).ln (s.renew k o).bo) (TV.er.go (s.renew k o).ln s.df)=St.mk _ _ _;rw[f,d,<-CQ a _ (J8 k s.cm),<-pX a s.df hd,MZ];simp only[b6];rw[<-CP a _ (J7 k s.bo),<-TO.tR a o ho,MY];rfl
def kH{k t:Nat}(o:TO S)(st:List (Nat×TO S))(h:t≠k):aB ((k,o)::st) t=aB st t:=by simp only[aB];cases a:Nat.beq k t with|true=>exact absurd (ab a).symm h|false=>rfl
def aQ.add{s:ae S}(h:aQ s){k:Nat}(o:TO S)(hf:s.free k=true):aQ (s.add k o):=by intro d q x g;obtain⟨i,j,m,f,n,l,a,p,b,c⟩:=h d q x g;refine⟨i,j,m,f,n,l,a,p,?_,c⟩;refine(kH o s.bo ?_).trans b;intro e;subst e;rw[(free_spec hf).1] at b;cases b
def aQ.set{s:ae S}(h:aQ s){k:Nat}{c:TO S}(e:aB s.st k=some c)(o:TO S):aQ (s.set k o):=by have g:(s.set k o).bo=sC s.bo k o:=(Mn e).symm;intro d j x n;obtain⟨p,q⟩:=vZ n;obtain⟨i,r,m,f,t,l,a,u,v,b⟩:=h d j x p;exact⟨i,r,m,f,t,l,a,u,by rw[g];exact(xF q).trans v,b⟩
def Gc{k t:Nat}{v:TV S}:∀{fr:List (Nat×TV S)},bw fr t=some v->bw (ma k fr) t=some (v.kill k)|[],h=>by cases h|(b,c)::r,h=>by simp only[bw,ma] at h|-;cases a:Nat.beq b t with|true=>rw[a] at h;cases h;rfl|false=>rw[a] at h;exact Gc h
def aQ.renew{s:ae S}(h:aQ s)(k:Nat)(o:TO S)(c:gT k s.lo=false)(e:dI k s.bS=false):aQ (s.renew k o):=by
 have n:(s.renew k o).bo=(k,o)::jR k s.bo:=by show(k,o)::(jR k s.st++s.bS)=_;unfold ae.bo;rw[xK,Ay e]
 have r:(s.renew k o).cm=ma k s.cm:=by show ma k s.fr++s.lo=_;unfold ae.cm;rw[CC,Fe c]
 intro d b x p;obtain⟨q,g⟩:=vZ p;obtain⟨i,t,m,f,u,l,a,v,w,y⟩:=h d b x q;refine⟨i,t,m,f,u,l,a,?_,?_,y⟩;have:=Gc (k:=k) v;rw[r];refine this.trans ?_;unfold TV.kill TV.has;have:Nat.beq b k=false:=by cases j:Nat.beq b k with|true=>exact absurd (ab j) g|false=>rfl
 rw[this];rw[n];refine(kH o _ g).trans ?_;rw[Aj,w];rfl
end
end Go.DN
/-
 DN,part H:steps of the proof alone;boxes,blocks,stores.
-/
namespace Go.DN
open Go.AM
def Gh(s t:St):Prop:=∀(N:Nat) (f:Cx) (e:Mu) (a:Act) (w:World),Rel N f e s a w->∃b,Rel N f b t a w/\∀h k c m y,az t.st h=some k->b h=some (c,m)->In y c m->∃i g d,az s.st h=some i/\e h=some (g,d)/\In y g d
def Gh.same{s t:St}{μ μ':Mu}(h:∀h k b m,az t.st h=some k->μ' h=some (b,m)->∃a,az s.st h=some a/\μ h=some (b,m)):∀h k c m y,az t.st h=some k->μ' h=some (c,m)->In y c m->∃a c0 d,az s.st h=some a/\μ h=some (c0,d)/\In y c0 d:=fun x k c m y f g e=>let ⟨a,h4,h5⟩:=h x k c m f g;⟨a,c,m,h4,h5,e⟩
def Gh.refl(s:St):Gh s s:=fun _ _ c _ _ d=>⟨c,d,Gh.same fun h k b m e a=>⟨k,e,a⟩⟩
def Gh.trans{a b c:St}(h:Gh a b)(j:Gh b c):Gh a c:=fun N i l g w p=>by obtain⟨d,n,o⟩:=h N i l g w p;obtain⟨f,q,r⟩:=j N i d g w n;refine⟨f,q,fun x k c m y s t u=>?_⟩;obtain⟨v,z,A,B,C,e⟩:=r x k c m y s t u;exact o x v z A y B C e
def Gh.of{s t:St}(h:∀(N:Nat) (cx:Cx) (μ:Mu) (a:Act) (w:World),Rel N cx μ s a w->Rel N cx μ t a w)(hd:∀x k,az t.st x=some k->∃c,az s.st x=some c):Gh s t:=fun N cx μ a w e=>⟨μ,h N cx μ a w e,Gh.same fun x k b m f d=>let ⟨c,h3⟩:=hd x k f;⟨c,h3,d⟩⟩
section
variable {P:Program}{N:Nat}{cx:Cx}{ops:Array Oper}{Q:Exit→St→Prop}{s t:St}
def GW.gh{c:Code}(h:Gh s t)(k:GW P N cx c Q t):GW P N cx c Q s:=fun f a w e=>by obtain⟨b,d,_⟩:=h N cx f a w e;exact k b a w d
def GL.gh{rest:List Oper}(h:Gh s t)(k:GL P N cx ops Q rest t):GL P N cx ops Q rest s:=fun e a w d=>by obtain⟨b,c,_⟩:=h N cx e a w d;exact k b a w c
def gr.gh{W:List Nat}{e:Nat}{b:Array Bool}(h:Gh s t)(k:gr P N cx ops Q W e b t):gr P N cx ops Q W e b s:=fun o g i a w j l n=>by obtain⟨d,p,q⟩:=h N cx i a w j;refine k o g d a w p l fun x k c m y r u v z=>?_;obtain⟨A,B,C,D,E,f⟩:=q x k c m y u v z;exact n x A B C y r D E f
end
section
variable {S:eN}
def fL(P:Program)(W:List Nat)(s:ae S)(o:Oper){A:Type}(k:ae S->Option A)(r:A):Prop:=∃T:St->Prop,cu P W s.er o T/\∀a,T a->∃t:ae S,Gh a t.er/\aQ t/\bG s t/\k t=some r
def fL.one{P:Program}{W:List Nat}{s:ae S}{o:Oper}{A:Type}{k:ae S->Option A}{r:A}{s1:St}(t:ae S)(b:cu P W s.er o (·=s1))(hg:Gh s1 t.er)(c:aQ t)(a:bG s t)(d:k t=some r):fL P W s o k r:=⟨_,b,fun f e=>by subst e;exact⟨t,hg,c,a,d⟩⟩
def TA{k:Nat}(v:TV S)(h:v.has k=false):TV.has.go k (eM v)=false:=by cases v with|aE f c a=>(cases c with|st n=>(show TV.has.go k (split f n a)=false;unfold split;generalize S.cells n a=l;induction l with|nil=>rfl|cons x r b=>simp only[bg,TV.has.go,TV.has,gm];exact b)|_=>rfl)|agg l=>exact h|_=>simpa[eM,TV.has.go] using h
def YZ:TV S->Bool|.aE _ a _=>!a.gA|.val u=>u.oneCell'|.agg _=>false|.bE _=>false|.any=>false|_=>true
def U7{v:TV S}(h:YZ v=true)(ln:Nat->Nat):(v.er ln).one=true:=by cases v with|aE f c a=>(cases c with|st n=>cases h|pt n=>cases a <;> cases f <;> rfl|_=>cases f <;> rfl)|ptr f c a=>cases f <;> rfl|iQ b h c i j=>cases b <;> rfl|gG b h d=>cases b <;> rfl|ee b h=>cases b <;> rfl|val u=>exact h|agg l=>cases h|bE l=>cases h|any=>cases h|_=>rfl
def Gy:List (TV S)->Bool|[]=>true|v::r=>YZ v&&Gy r
def qk(ln:Nat->Nat):∀{l:List (TV S)},Gy l=true->(TV.er.go ln l).all G.one=true|[],_=>rfl|v::r,h=>by simp only[Gy,ag] at h;simp only[TV.er.go,List.all_cons,U7 h.1 ln,qk ln h.2,iA]
section
variable {P:Program}{W:List Nat}{s:ae S}{ty:TypeId}{pos:String}{after:Array Edge}{guard:Option (Nat×Bool)}{A:Type}{k:ae S→Option A}{r:A}
def Wu(s:ae S)(d:Nat)(t:TypeId)(x:Operand){A:Type}(k:ae S->Option A):Option A:=match s.free (s.dw d) with|true=>(match cC s x with|some v=>(match okV v with|true=>k ((s.add (s.dw d) (.box t true (eM v))).put d (.loc (s.dw d) 0))|false=>none)|none=>none)|false=>none
def Yr{d:Nat}{t:TypeId}{x:Operand}(f:aQ s)(h:Wu s d t x k=some r):fL P W s ⟨some d,.box t x,ty,pos,after,guard⟩ k r:=by unfold Wu at h;split at h;rename_i a;split at h;rename_i v b;split at h;rename_i c;have g:TV.has.go (s.dw d) (eM v)=false:=TA v (Xn b (free_spec a).2.1);obtain⟨e,_⟩:=qe a (.box t true (eM v)) g;refine .one _ (EF.box (s.dw d) (bi b) (tF c s.ln) (gD a)) ?_ ((f.add _ a).put _ _) ⟨rfl,rfl,rfl⟩ h;rw[iT,e];rw[xD c s.ln];exact Gh.refl _;cases h;cases h;cases h
def N7(P:Program)(s:ae S)(d:Nat)(t:TypeId){A:Type}(k:ae S->Option A):Option A:=match s.free (s.dw d) with|true=>(match (P.info? t).bind (·.zero) with|some z=>k ((s.add (s.dw d) (.box t true (z.cells.toList.map wk))).put d (.loc (s.dw d) 0))|none=>none)|false=>none
def Sa(k:Nat)(l:List Value):TV.has.go k (l.map (wk (S:=S)))=false:=by induction l with|nil=>rfl|cons v r a=>simp only[bg,TV.has.go,a,cJ];cases v <;> rfl
def UB(ln:Nat->Nat)(l:List Value):TV.er.go ln (l.map (wk (S:=S)))=l.map .val:=by rw[cW,iY];exact ft fun v _=>LA ln v
def Ut{t:TypeId}{z:Value}(h:(P.info? t).bind (·.zero)=some z):∀w,(zeroValue t).run P w=.ok z w:=by intro w;cases a:P.info? t with|none=>rw[a] at h;cases h|some i=>rw[a] at h;have h:i.zero=some z:=h;simp[zeroValue,typeInfo,a,h]
def Uk{d:Nat}{t:TypeId}(c:aQ s)(h:N7 P s d t k=some r):fL P W s ⟨some d,.alloc t,ty,pos,after,guard⟩ k r:=by unfold N7 at h;split at h;rename_i a;split at h;rename_i z e;obtain⟨b,_⟩:=qe a (.box t true (z.cells.toList.map wk)) (Sa _ _);refine .one _ (EF.alloc (s.dw d) (Ut e) (gD a)) ?_ ((c.add _ a).put _ _) ⟨rfl,rfl,rfl⟩ h;rw[iT,b];simp only[TO.er,UB];exact Gh.refl _;cases h;cases h
def PZ(τ:Ty)(z:Value):Option (S.D τ):=match τ with|.st n=>(match Ge (.st n) (.agg (z.cells.toList.map wk)) with|some x=>some x.2|none=>none)|τ=>match pH τ (wk z) with|some x=>(match z.cells.toList with|[_]=>some x.2|_=>none)|none=>none
def LH{τ:Ty}{u:Value}{f:Bool}{a:S.D τ}(h:pH τ (wk u)=some (f,a)):og u=dM S τ a:=by unfold pH at h;split at h;rename_i g d i e;split at h;cases h;split at h;rename_i b c;cases h;have:=e9 c;cases this;cases u <;> simp only[wk] at e <;> cases e <;> rfl;cases h;rename_i e;split at h;cases h;cases u <;> simp only[wk] at e <;> cases e;rfl;cases h;rename_i e;split at h;cases h;cases u <;> simp only[wk] at e <;> cases e;rfl;cases h;cases h
def Sf:∀{ts:List Ty}{b:List Value}{f:Bool}{l:List (bp S.α)},EI ts (b.map wk)=some (f,l)->b.map og=l.map fun x=>dM S x.τ x.a|[],[],_,_,h=>by cases h;rfl|e::ts,u::b,f,l,h=>by simp only[bg,EI] at h;split at h;rename_i i a d;split at h;rename_i g j c;cases h;simp only[bg,LH d,Sf c];cases h;cases h|[],_::_,_,_,h=>by cases h|_::_,[],_,_,h=>by cases h
def Uu{τ:Ty}{z:Value}{a:S.D τ}(h:PZ τ z=some a):z.cells.toList.map og=aX S τ a/\z.cells.size=S.sz τ:=by
 have c:z.cells.toList.map og=aX S τ a:=by unfold PZ at h;split at h;rename_i n;split at h;rename_i x b;cases h;unfold Ge at b;dsimp only at b;split at b;rename_i f l i;split at b;rename_i a j;cases b;rw[ir,S.ig _ _ _ j];exact Sf i;cases b;cases b;cases h;rename_i d;split at h;rename_i x b;obtain⟨f,x⟩:=x;split at h;rename_i u g;cases h;(have k:τ.gA=false:=by cases τ with|st n=>exact absurd rfl (d n)|_=>rfl);(have e:z=u:=by have o:=(LH b);cases z with|agg m=>simp[wk,pH] at b|_=>simpa[Value.cells] using g);rw[g,bg,sc,j7 S k,<-e,LH b];cases h;cases h
 refine⟨c,?_⟩;have:=congrArg List.length c;rw[aJ,tS,cj] at this;exact this
def GO(P:Program)(s:ae S)(d:Nat)(t:TypeId)(x y:Operand){A:Type}(k:ae S->Option A):Option A:=match s.free (s.dw d) with|true=>(match P.underlying t with|some (.slice e)=>(match S.WK e with|some b=>(match P.info? e with|some i=>(match i.zero with|some z=>(match PZ b z with|some a=>(match cC s x with|some (.aE _ (.int _) n)=>(match cC s y with|some (.aE _ (.int _) c)=>(match decEq i.size (S.sz b) with|isTrue _=>(ba (0<=n/\n<=c/\(i.bytes:Int)*c<=281474976710656/\c<=9223372036854775807)).bind fun _=>k ((s.add (s.dw d) (.arr e true true b (List.replicate (Int.toNat n) a))).put d (.aN (s.dw d) b))|isFalse _=>none)|_=>none)|_=>none)|none=>none)|none=>none)|none=>none)|none=>none)|_=>none)|false=>none
def Vk{d:Nat}{t:TypeId}{x y:Operand}(l:aQ s)(h:GO P s d t x y k=some r):fL P W s ⟨some d,.makeSlice t x y,ty,pos,after,guard⟩ k r:=by
 unfold GO at h;split at h;rename_i f;split at h;rename_i e j;split at h;rename_i b _;split at h;rename_i i m;split at h;rename_i z o;split at h;rename_i a p;split at h;rename_i n q;split at h;rename_i c v;split at h;rename_i w _;obtain⟨u,A,h⟩:=bind_some h;obtain⟨B,C,D,E⟩:=cI A;obtain⟨F,H⟩:=Uu p;obtain⟨I,J⟩:=qe f (.arr e true true b (List.replicate (Int.toNat n) a)) rfl;letI:=np S b;refine .one _ (ET.GO (α:=S.D b) (x:=a) (sz:=S.sz b) (bt:=i.bytes) (s.dw d) (kc q) (kc v) j (by rw[m,cn,o,w]) H rfl F B C D E (gD f)) ?_ ((l.add _ f).put _ _) ⟨rfl,rfl,rfl⟩ h;rw[iT,I];have g:(TV.aN (s.dw d) b:TV S).er (s.add (s.dw d) (.arr e true true b (List.replicate (Int.toNat n) a))).ln=.aN (s.dw d) (S.sz b) 0 (List.replicate (Int.toNat n) a).length:=by show G.aN _ _ _ ((s.add (s.dw d) _).ln (s.dw d))=_;rw[show(s.add (s.dw d) (.arr e true true b (List.replicate (Int.toNat n) a))).ln (s.dw d)=_ from wF _ _];rfl
 rw[g];exact Gh.refl _;cases h;cases h;cases h;cases h;cases h;cases h;cases h;cases h;cases h
end
end
end Go.DN
/-
 DN,part I:values as plain data,cell by cell;slices built;stores.
-/
namespace Go.DN
open Go.AM
def Pl(m:G):Prop:=(∃u,m=.val u)\/(∃n a,m=.sl n a)\/(∃b,m=.dC b)\/∃a,m=.ptr a
def PD{O:Nat->Prop}{base:Nat}{w:World}{μ:Mu}{f:Bool}{m:G}{v:Value}(c:Pl m)(h:aU O base w μ (ei f m) v):bN (bif f then iE O base else O) w m v:=by
 rcases c with ⟨u,rfl⟩|⟨n,a,rfl⟩|⟨b,rfl⟩|⟨a,rfl⟩;have:ei f (.val u)=.val u:=by cases f <;> rfl
 rw[this] at h;cases h with|aG h=>cases h;exact .val _
 cases f with|true=>(cases h with|aG h=>cases h|fr h=>exact h)|false=>cases h with|aG h=>exact h
 cases f with|true=>(cases h with|aG h=>cases h|fr h=>exact h)|false=>cases h with|aG h=>exact h
 cases f with|true=>(cases h with|aG h=>cases h|fr h=>exact h)|false=>cases h with|aG h=>exact h
section
variable {S:eN}
def zt{τ:Ty}(h:τ.gA=false)(a:S.D τ):Pl (dM S τ a):=by cases τ with|st n=>cases h|list t=>exact .inr (.inl ⟨_,_,rfl⟩)|dC=>exact .inr (.inr (.inl ⟨_,rfl⟩))|pt n=>(cases a with|none=>exact .inl ⟨_,rfl⟩|some a=>exact .inr (.inr (.inr ⟨_,rfl⟩)))|_=>exact .inl ⟨_,rfl⟩
def uR(τ:Ty)(a:S.D τ):∀m∈aX S τ a,Pl m:=by intro m b;cases τ with|st n=>rw[ir] at b;obtain⟨x,c,rfl⟩:=eL.1 b;exact zt (lH n a x c) x.a|_=>rw[j7 S rfl] at b;simp at b;subst b;exact zt rfl a
def Yf(τ:Ty)(l:List (S.D τ)):∀m∈List.flatMap (aX S τ) l,Pl m:=by intro m b;obtain⟨a,_,h⟩:=qf.1 b;exact uR τ a m h
def yh(gs:List G)(f:Bool)(ms:List G):Prop:=gs.length=ms.length/\∀(j:Nat) (m:G),ms[j]?=some m->∃g,gs[j]?=some g/\RW g (ei f m)
def yh.flag{gs ms:List G}{f f':Bool}(h:yh gs f ms)(hf:f'=true->f=true):yh gs f' ms:=⟨h.1,fun j m a=>let ⟨g,h1,h2⟩:=h.2 j m a;⟨g,h1,h2.trans (RW.ei _ _ _ hf)⟩⟩
def yh.append{gs ms b a:List G}{f:Bool}(h:yh gs f ms)(e:yh b f a):yh (gs++b) f (ms++a):=by refine⟨by simp[h.1,e.1],fun j m c=>?_⟩;rw[bZ] at c|-;rw[h.1];split at c;rename_i d;rw[if_pos d];exact h.2 j m c;rename_i d;rw[if_neg d];exact e.2 _ m c
def JF{τ:Ty}{v:TV S}{f:Bool}{a:S.D τ}(h:Ge τ v=some (f,a))(ln:Nat->Nat):yh (cZ (v.er ln)) f (aX S τ a):=by
 unfold Ge at h;split at h;rename_i c o B;split at h;rename_i b k;cases h;have:=e9 k;cases this;cases τ with|st n=>(have e:(c||(Ty.st n).jb)=c:=by cases c <;> rfl);rw[e];refine⟨by show((aX S (.st n) a).map (ei c)).length=_;rw[aJ],fun j m d=>⟨ei c m,?_,RW.refl _⟩⟩;show((aX S (.st n) a).map (ei c))[j]?=_;rw[ao,d];rfl|list t=>((have e:(c||(Ty.list t).jb)=c:=by cases c <;> rfl);rw[e,j7 S rfl];refine⟨by cases c <;> rfl,fun j m d=>⟨ei c m,?_,RW.refl _⟩⟩;cases j with|zero=>cases d;cases c <;> rfl|succ j=>cases d)|dC=>((have e:(c||Ty.dC.jb)=c:=by cases c <;> rfl);rw[e,j7 S rfl];refine⟨by cases c <;> rfl,fun j m d=>⟨ei c m,?_,RW.refl _⟩⟩;cases j with|zero=>cases d;cases c <;> rfl|succ j=>cases d)|pt n=>((have e:(c||(Ty.pt n).jb)=c:=by cases c <;> rfl);rw[e,j7 S rfl];refine⟨by cases a <;> cases c <;> rfl,fun j m d=>⟨ei c m,?_,RW.refl _⟩⟩;cases j with|zero=>cases d;cases a <;> cases c <;> rfl|succ j=>cases d)|_=>rw[j7 S rfl];refine⟨by cases c <;> rfl,fun j m d=>⟨ei c m,?_,?_⟩⟩;(cases j with|zero=>cases d;cases c <;> rfl|succ j=>cases d);cases j with|zero=>cases d;cases c <;> exact RW.refl _|succ j=>cases d
 cases h;split at h;cases h;refine⟨rfl,fun j m d=>⟨.val (.slice none 0 0),?_,?_⟩⟩;cases j with|zero=>rfl|succ j=>cases d
 cases j with|zero=>cases d;exact RW.nil|succ j=>cases d
 cases h;split at h;rename_i n;cases h;refine⟨rfl,fun j m d=>⟨.val (.pointer none),?_,?_⟩⟩;cases j with|zero=>rfl|succ j=>cases d
 cases j with|zero=>cases d;exact RW.refl _|succ j=>cases d
 cases h;split at h;rename_i _ p _ n;split at h;rename_i z l r;split at h;rename_i A i;cases h;obtain⟨q,s⟩:=Dy ln r;have w:=S.ig n l a i;rw[ir,w];show yh (TV.er.go ln p) _ _;rw[cW];refine⟨by simp[q],fun j m d=>?_⟩;rw[ao] at d;obtain⟨x,u,rfl⟩:=aA.1 d;obtain⟨v,y,g⟩:=s j x u;exact⟨v.er ln,by rw[ao,y];rfl,g⟩;cases h;cases h;cases h;cases h
def Gh.pure{s:St}{h:Nat}{k:aw}{cs:List G}{f:Bool}(i:az s.st h=some k)(u:k.pure=false)(c:k.lp=none)(n:∀m∈cs,Pl m)(o:yh k.cells f cs):Gh s {fr:=s.fr,st:=dJ s.st h {k with pure:=true,fresh:=f,cells:=cs},df:=s.df}:=by refine Gh.of (fun N A z a w r=>r.DA i rfl rfl rfl (by dsimp only;rw[o.1];exact aH _) c c fun j p b=>?_) fun x q t=>?_;obtain⟨g,l,y⟩:=o.2 j p b;refine⟨g,l,fun v d=>?_⟩;unfold dh at d|-;rw[u] at d;exact PD (n p (ak b)) (y _ _ _ _ _ d);rcases dz i t with ⟨e,_⟩|⟨_,l⟩;subst e;exact⟨k,i⟩;exact⟨q,l⟩
def Qc(τ:Ty):List (TV S)->Option (Bool×List (S.D τ))|[]=>some (true,[])|v::r=>match okV v with|true=>(match Ge τ v with|some (f,a)=>(match Qc τ r with|some (g,l)=>some (f&&g,a::l)|none=>none)|none=>none)|false=>none
def OI{τ:Ty}(ln:Nat->Nat):∀{vs:List (TV S)}{f:Bool}{l:List (S.D τ)},Qc τ vs=some (f,l)->rN (S.sz τ) (TV.er.go ln vs)=true/\l.length=vs.length/\yh ((TV.er.go ln vs).flatMap cZ) f (List.flatMap (aX S τ) l)|[],_,_,h=>by cases h;exact⟨rfl,rfl,rfl,fun j m h=>by simp at h⟩|v::r,f,l,h=>by simp only[Qc] at h;split at h;rename_i c;split at h;rename_i p a i;split at h;rename_i g o k;cases h;obtain⟨d,e,n⟩:=OI ln k;have b:=JF i ln;refine⟨?_,by simp[e],?_⟩;simp only[TV.er.go,rN,ag];refine⟨⟨tF c ln,?_⟩,d⟩;rw[b.1,tS];exact aW _;simp only[TV.er.go,cd];exact(b.flag fun h=>by simp at h;exact h.1).append (n.flag fun h=>by simp at h;exact h.2);cases h;cases h;cases h
def za(s:ae S):List (Nat×Operand)->Nat->Option (List (TV S))|[],_=>some []|(i,x)::r,j=>match Nat.beq i j with|true=>(match cC s x with|some v=>(match za s r (j+1) with|some a=>some (v::a)|none=>none)|none=>none)|false=>none
def Cm{s:ae S}:∀{l:List (Nat×Operand)}{j:Nat}{vs:List (TV S)},za s l j=some vs->Nk s.er l j=some (TV.er.go s.ln vs)|[],_,_,h=>by cases h;rfl|(i,x)::r,j,vs,h=>by simp only[za] at h;split at h;rename_i b;split at h;rename_i v c;split at h;rename_i d a;cases h;simp only[Nk,b,bi c,Cm a,TV.er.go];cases h;cases h;cases h
section
variable {P:Program}{W:List Nat}{s:ae S}{ty:TypeId}{pos:String}{after:Array Edge}{guard:Option (Nat×Bool)}{A:Type}{k:ae S→Option A}{r:A}
def Wt(P:Program)(s:ae S)(d:Nat)(t:TypeId)(n:Nat)(b:Array (Nat×Operand)){A:Type}(k:ae S->Option A):Option A:=match s.free (s.dw d) with|true=>(match P.underlying t with|some (.slice e)=>(match S.WK e with|some a=>(match P.info? e with|some i=>(match i.zero with|some _=>(match decEq i.size (S.sz a) with|isTrue _=>(match b.toList with|[]=>(match n with|0=>k ((s.add (s.dw d) (.arr e true true a [])).put d (.aN (s.dw d) a))|_=>none)|p::g=>match za s (p::g) 0 with|some c=>(match Qc a c with|some (f,l)=>(match Nat.beq c.length n&&(Nat.ble (n*S.sz a) 16777216&&Nat.blt 0 n) with|true=>k ((s.add (s.dw d) (.arr e true f a l)).put d (.aN (s.dw d) a))|false=>none)|none=>none)|none=>none)|isFalse _=>none)|none=>none)|none=>none)|none=>none)|_=>none)|false=>none
def Ml{s:ae S}{h:Nat}{e:TypeId}{m f:Bool}{τ:Ty}{l:List (S.D τ)}:(TV.aN h τ:TV S).er (s.add h (.arr e m f τ l)).ln=.aN h (S.sz τ) 0 l.length:=by show G.aN _ _ _ ((s.add h _).ln h)=_;rw[show(s.add h (.arr e m f τ l)).ln h=_ from wF _ _];rfl
def Sm{h:Nat}{k k':aw}{r:List (Nat×aw)}:dJ ((h,k)::r) h k'=(h,k')::r:=by simp only[dJ,aW,cond_true]
def Yq{d:Nat}{t:TypeId}{n:Nat}{b:Array (Nat×Operand)}(x:aQ s)(h:Wt P s d t n b k=some r):fL P W s ⟨some d,.buildSlice t n b,ty,pos,after,guard⟩ k r:=by
 unfold Wt at h;split at h;rename_i g;split at h;rename_i e w;split at h;rename_i c _;split at h;rename_i i A;split at h;rename_i z G;split at h;rename_i D _;have a:(P.info? e).map (fun i=>(i.zero,i.size,i.bytes))=some (some z,S.sz c,i.bytes):=by rw[A,cn,G,D]
 split at h;rename_i q;have:=H8 q;subst this;split at h;obtain⟨m,_⟩:=qe g (.arr e true true c ([]:List (S.D c))) rfl;refine .one _ (EF.OD (s.dw d) w a (gD g)) ?_ ((x.add _ g).put _ _) ⟨rfl,rfl,rfl⟩ h;rw[iT,m,Ml];exact Gh.refl _;cases h;rename_i p I q;split at h;rename_i y B;split at h;rename_i f l C;split at h;rename_i v;simp only[ag] at v;obtain⟨j,o,u⟩:=v;have j:=ab j;have o:=fS o;have u:0<n:=by simpa[gO] using u
 obtain⟨F,H,E⟩:=OI s.ln C;obtain⟨m,_⟩:=qe g (.arr e true f c l) rfl;refine .one _ (EF.buildSlice (sz:=S.sz c) (z:=z) (bt:=i.bytes) (s.dw d) (gs:=TV.er.go s.ln y) (by rw[q];exact Cm B) (by rw[cW,aJ,j]) w a (Nat.mul_pos u (LJ S c)) o F (gD g)) ?_ ((x.add _ g).put _ _) ⟨rfl,rfl,rfl⟩ h;rw[iT,m,Ml,H,j];have:=Gh.pure (s:={fr:=(d,.aN (s.dw d) (S.sz c) 0 n)::s.er.fr,st:=(s.dw d,⟨e,false,true,false,S.sz c,(TV.er.go s.ln y).flatMap cZ,none⟩)::s.er.st,df:=s.er.df}) (h:=s.dw d) (dY _ _ _) rfl rfl (Yf c l) E;rw[Sm] at this;exact this;cases h;cases h;cases h;cases h;cases h;cases h;cases h;cases h;cases h
end
end
end Go.DN
/-
 DN,part J:stores.
-/
namespace Go.DN
open Go.AM
section
variable {P:Program}{W:List Nat}{s:St}{ty:TypeId}{pos:String}{after:Array Edge}{guard:Option (Nat×Bool)}
def EF.OJ{t:TypeId}{x y:Operand}{h off sz:Nat}{k:aw}{g:G}{gs ms e:List G}{f:Bool}(hx:ev s x=some (.loc h off))(hy:ev s y=some g)(hk:az s.st h=some k)(Q:k.pure=true)(K:G8 g=true)(V:cZ g=gs)(C:gs.all G.one=true)(H:gs.length=sz)(O:∀w,(sizeOf t).run P w=.ok sz w)(hoff:off+sz<=k.cells.length)(hW:W.contains h=true)(B:yh gs f ms)(R:∀m∈ms,Pl m)(L:k.cells.take off++ms++k.cells.drop (off+sz)=e)(E:k.lp=none):cu P W s ⟨none,.store t x y,ty,pos,after,guard⟩ (·={fr:=s.fr,st:=dJ s.st h {k with fresh:=k.fresh&&f,cells:=e},df:=s.df}):=by
 refine cu.skip rfl (fun _ h=>by cases h) ?_;intro N cx μ a w F;obtain⟨b,m,e1,Y⟩:=F.loc hx;obtain⟨p,h1,h2,h3,h4,M,Z⟩:=F.own hk Y E;obtain⟨n,r⟩:=(F.ev hy).cells K;rw[V] at n r;have A:ms.length=sz:=B.1▸H;have i:(a.eval y).cells.toList.length=sz:=by rw[cj,n,H]
 have o:=run_storeCells_at P b off k.bP (a.eval y).cells.toList 0 p w h1 (by rw[i];omega) (fun v q=>by obtain⟨j,l⟩:=cF q;(have D:j<gs.length:=by have:=(ap.1 l).1;omega);obtain⟨u,hu,T⟩:=r j gs[j] (af D);rw[bz] at l;rw[l] at hu;cases hu;exact T.one (dF.1 C _ (ff D)));rw[gu,i] at o;refine⟨μ,w.setRow b (p.toList.take off++(a.eval y).cells.toList++p.toList.drop (off+sz)).toArray,?_,?_⟩;simp only[execOp,Instr.storeAt,Instr.sureAddr,e1,storeVar,O,Sem.run_bind,Sem.run_pure,Result.andThen_ok];rw[if_neg (by rw[n,H];simp)];rw[o];rfl;subst L;refine F.write (k':={k with fresh:=k.fresh&&f,cells:=k.cells.take off++ms++k.cells.drop (off+sz)}) hk Y (rr h1) ?_ (setRow_size _ _ _) (fun b' U=>setRow_other w b b' _ U) rfl rfl rfl id ?_ M ?_ W hW E;simp only[List.size_toArray,aK,bA,bY,cj,n,H];omega;simp only[aK,bA,bY,A];omega;intro j I c;have kW:∀(j:Nat),(p.toList.take off++(a.eval y).cells.toList++p.toList.drop (off+sz)).toArray[j]?=if j<off then p[j]? else if j<off+sz then(a.eval y).cells[j-off]? else p[j]?:=by intro j;rw[List.getElem?_toArray,aS,bZ,bA,cj,iX (by omega:off<=p.size)];split;rename_i l;rw[br,if_pos l,bz];rw[bZ,i];split;rename_i S z;rw[if_pos (by omega),bz];rename_i S z;rw[if_neg (by omega),bC,bz];congr 1;omega
 dsimp only at c;rw[aS,bZ,bA,iX (by omega:off<=k.cells.length)] at c;rw[kW];split at c;rename_i l;rw[if_pos l];rw[br,if_pos l] at c;obtain⟨v,q,d⟩:=Z j I c;refine⟨v,q,?_⟩;unfold dh at d|-;dsimp only;rw[Q] at d|-;exact d.flag fun h=>by simp at h;exact h.1
 rename_i l;rw[if_neg l];rw[bZ,A] at c;split at c;rename_i z;rw[if_pos (by omega)];obtain⟨g0,X,J⟩:=B.2 _ I c;obtain⟨v,q,d⟩:=r _ g0 X;refine⟨v,q,?_⟩;unfold dh;dsimp only;rw[Q];exact(PD (R I (ak c)) (J _ _ _ _ _ d)).flag fun h=>by simp at h;exact h.2
 rename_i z;rw[if_neg (by omega)];rw[bC] at c;have:off+sz+(j-off-sz)=j:=by omega
 rw[this] at c;obtain⟨v,q,d⟩:=Z j I c;refine⟨v,q,?_⟩;unfold dh at d|-;dsimp only;rw[Q] at d|-;exact d.flag fun h=>by simp at h;exact h.1
end
section
variable {S:eN}
def kz(τ:Ty)(l:List (S.D τ)):(List.flatMap (aX S τ) l).length=l.length*S.sz τ:=@fN _ (np S τ) l
def Hr(τ:Ty)(l:List (S.D τ))(n:Nat):(List.flatMap (aX S τ) l).take (n*S.sz τ)=List.flatMap (aX S τ) (l.take n):=@uQ _ (np S τ) l n
def Hs(τ:Ty)(l:List (S.D τ))(n:Nat):(List.flatMap (aX S τ) l).drop (n*S.sz τ)=List.flatMap (aX S τ) (l.drop n):=@CR _ (np S τ) l n
def wP(τ:Ty)(l m:List (S.D τ)):List.flatMap (aX S τ) (l++m)=List.flatMap (aX S τ) l++List.flatMap (aX S τ) m:=qA
def TX(τ:Ty){l:List (S.D τ)}{i:Nat}{a b:S.D τ}(hi:l[i]?=some b):List.flatMap (aX S τ) (l.set i a)=(List.flatMap (aX S τ) l).take (i*S.sz τ)++aX S τ a++(List.flatMap (aX S τ) l).drop (i*S.sz τ+S.sz τ):=by
 have c:=(ap.1 hi).1;rw[fx,if_pos c,wP,cd,Hr];have:i*S.sz τ+S.sz τ=(i+1)*S.sz τ:=by rw[fp,Nat.one_mul]
 rw[this,Hs,aS]
theorem Kr (n:Nat){l:List (S.α n)}{i j:Nat}{a b:S.α n}{x:bp S.α}(hi:l[i]?=some b) (hj:j<(S.cells n b).length) (ha:S.cells n a=(S.cells n b).set j x):
  List.flatMap (aX S (.st n)) (l.set i a)=(List.flatMap (aX S (.st n)) l).take (i*S.sz (.st n)+j)++[dM S x.τ x.a]++(List.flatMap (aX S (.st n)) l).drop (i*S.sz (.st n)+j+1):=by
 have hlt:=(ap.1 hi).1;have hlen:(S.cells n b).length=S.sz (.st n):=by
  have:=congrArg List.length (S.nZ n b);rw[aJ] at this;exact this
 have hsplit:List.flatMap (aX S (.st n)) l=List.flatMap (aX S (.st n)) (l.take i)++((S.cells n b).map (fun x=>dM S x.τ x.a)++List.flatMap (aX S (.st n)) (l.drop (i+1))):=by
  have e:l=l.take i++b::l.drop (i+1):=by
   have:=(ap.1 hi).2;rw[←this,List.getElem_cons_drop,o7]
  conv=>lhs;rw[e]
  rw[wP,cd];show _++(aX S (.st n) b++_)=_;rw[ir]
 have hset:List.flatMap (aX S (.st n)) (l.set i a)=List.flatMap (aX S (.st n)) (l.take i)++((S.cells n a).map (fun x=>dM S x.τ x.a)++List.flatMap (aX S (.st n)) (l.drop (i+1))):=by
  rw[fx,if_pos hlt,wP,cd];show _++(aX S (.st n) a++_)=_;rw[ir]
 have hpre:(List.flatMap (aX S (.st n)) (l.take i)).length=i*S.sz (.st n):=by
  rw[kz,bA,iX (Nat.le_of_lt hlt)]
 rw[hset,hsplit,ha];generalize List.flatMap (aX S (.st n)) (l.take i)=pre at hpre;generalize List.flatMap (aX S (.st n)) (l.drop (i+1))=post;generalize S.cells n b=cb at hj;have e1:(pre++(cb.map (fun x=>dM S x.τ x.a)++post)).take (i*S.sz (.st n)+j)=pre++(cb.map (fun x=>dM S x.τ x.a)).take j:=by
  rw[List.take_append,hpre,dc (by omega),List.take_append];have:i*S.sz (.st n)+j-i*S.sz (.st n)=j:=by omega
  rw[this];have:j-(cb.map (fun x=>dM S x.τ x.a)).length=0:=by rw[aJ];omega
  rw[this,dE,bR]
 have e2:(pre++(cb.map (fun x=>dM S x.τ x.a)++post)).drop (i*S.sz (.st n)+j+1)=(cb.map (fun x=>dM S x.τ x.a)).drop (j+1)++post:=by
  rw[List.drop_append,hpre,List.drop_of_length_le (by omega),iz,List.drop_append];have:i*S.sz (.st n)+j+1-i*S.sz (.st n)=j+1:=by omega
  rw[this];have:j+1-(cb.map (fun x=>dM S x.τ x.a)).length=0:=by rw[aJ];omega
  rw[this,ib]
 rw[e1,e2,oe,fx,if_pos (by rw[aJ];exact hj)];simp only[aS,b7,iz]
def T8{τ:Ty}(a:τ.jb=true)(x:S.D τ):∃u,dM S τ x=.val u:=by cases τ with|list _=>cases a|st _=>cases a|dC=>cases a|pt _=>cases a|_=>exact⟨_,rfl⟩
def Wf{f:Bool}{τ:Ty}(a:τ.jb=true){x:S.D τ}{u:Value}(b:dM S τ x=.val u):pe f τ x=.val u:=by rw[<-b];cases τ with|list _=>cases a|st _=>cases a|dC=>cases a|pt _=>cases a|_=>cases f <;> rfl
def T3{f:Bool}{τ:Ty}(a:τ.jb=true){x:S.D τ}:eM (TV.aE f τ x:TV S)=[.aE f τ x]:=by cases τ with|list _=>cases a|st _=>cases a|dC=>cases a|pt _=>cases a|_=>rfl
def IP{A:Type}:(a:Ty)->S.D a->Ty->Nat->Nat->TV S->(S.D a->Option A)->Option A|.list (.list t),b,d,i,j,c,k=>(match t.jb with|true=>(match decEq d t with|isTrue _=>(match pH t c with|some x=>(b[i]?).bind fun r=>(ba (j<List.length r)).bind fun _=>k (List.set b i (List.set r j x.2))|none=>none)|isFalse _=>none)|false=>none)|_,_,_,_,_,_,_=>none
def Rk{A:Type}{D:A}:∀{c:Ty}{a:S.D c}{τ:Ty}{i j:Nat}{m:TV S}{k:S.D c->Option A},IP c a τ i j m k=some D->∃(u:Value) (n:Nat) (gs:List G) (q:S.D c),S.sz τ=1/\(∀ln,m.er ln=.val u)/\eM m=[m]/\(kJ c a).2[i]?=some (n,gs)/\j<gs.length/\k q=some D/\yj c q=yj c a/\(kJ c q).1=(kJ c a).1/\(kJ c q).2=(kJ c a).2.set i (n,gs.set j (.val u))|.list (.list t),p,τ,i,j,m,k,h=>by simp only[IP] at h;split at h;rename_i o;split at h;rename_i e _;subst e;split at h;rename_i x d;obtain⟨r,E,h⟩:=bind_some h;obtain⟨_,C,h⟩:=bind_some h;have C:=cI C;obtain⟨f,x⟩:=x;(have v:τ.gA=false:=by cases τ <;> first|rfl|cases o);(have H:∃u,dM S τ x=.val u/\(∀ln,m.er ln=.val u)/\eM m=[m]:=by unfold pH at d;split at d;split at d;cases d;rename_i I;split at d;rename_i b J;cases d;have:=e9 J;cases this;obtain⟨u,s⟩:=T8 o x;exact⟨u,s,fun _=>Wf o s,T3 o⟩;cases d;split at d;cases o;cases d;split at d;cases o;cases d;cases d);obtain⟨u,s,z,B⟩:=H;(have w:S.sz τ=1:=by cases τ <;> first|rfl|cases o);(have g:∀l:List (S.D τ),List.flatMap (aX S τ) l=l.map (dM S τ):=by intro l;induction l with|nil=>rfl|cons y r F=>rw[cd,F,j7 S v];rfl);refine⟨u,List.length r,List.flatMap (aX S τ) r,_,w,z,B,by show(List.map _ p)[i]?=_;rw[ao,E];rfl,?_,h,?_,rfl,?_⟩;rw[g,aJ];exact C;show(List.set p i _).length=p.length;exact fX;show List.map _ (List.set p i _)=List.set (List.map _ p) i _;rw[oe];congr 1;show(List.length (List.set r j x),List.flatMap (aX S τ) (List.set r j x))=_;rw[fX,g,g,oe,s];cases h;cases h;cases h|.list (.int _),_,_,_,_,_,_,h=>by cases h|.list .bool,_,_,_,_,_,_,h=>by cases h|.list .dC,_,_,_,_,_,_,h=>by cases h|.list (.pt _),_,_,_,_,_,_,h=>by cases h|.list .str,_,_,_,_,_,_,h=>by cases h|.list (.st _),_,_,_,_,_,_,h=>by cases h|.int _,_,_,_,_,_,_,h=>by cases h|.bool,_,_,_,_,_,_,h=>by cases h|.dC,_,_,_,_,_,_,h=>by cases h|.pt _,_,_,_,_,_,_,h=>by cases h|.str,_,_,_,_,_,_,h=>by cases h|.st _,_,_,_,_,_,_,h=>by cases h
def gw(a:IntKind)(l:List Int)(i:Nat)(v:Int):List (TV S):=(List.range l.length).map fun m=>.aE true (.int a) ((l.set i v).getD m 0)
def XB(b:IntKind)(cs:List (TV S))(j i:Nat)(v:Int)(hi:i<(lh b (cs.drop j)).length)(ln:Nat->Nat):(cs.take j++gw b (lh b (cs.drop j)) i v++cs.drop (j+(lh b (cs.drop j)).length)).map (TV.er ln)=(cs.map (TV.er ln)).set (j+i) (.val (.int b v)):=by
 generalize r:lh b (cs.drop j)=l at hi;have k:∀m,m<l.length->∃f,cs[j+m]?=some (.aE f (.int b) (l.getD m 0)):=fun m d=>by (have g:(lh b (cs.drop j))[m]?=some (l.getD m 0):=by rw[r,bl,af d];rfl);obtain⟨f,n⟩:=xN g;exact⟨f,by rwa[bC] at n⟩
 have o:j+l.length<=cs.length:=by obtain⟨f,h⟩:=k (l.length-1) (by omega);have:=(ap.1 h).1;omega
 have a:(cs.take j).length=j:=by rw[bA];omega
 have c:(gw (S:=S) b l i v).length=l.length:=by unfold gw;simp
 apply dm;intro q;rw[ao,dQ,aJ];by_cases g:q<j;rw[ew (by rw[aK,a];omega),ew (by omega),br,if_pos g,if_neg (by omega),ao];by_cases n:q<j+l.length;obtain⟨m,rfl⟩:∃m,q=j+m:=⟨q-j,by omega⟩;have d:m<l.length:=by omega
 rw[ew (by rw[aK,a,c];omega),fY (by omega),a,show j+m-j=m by omega];unfold gw;rw[ao,cN d,cn,cn];show some (pe true (.int b) _)=_;rw[tU];by_cases h3:m=i;subst h3;rw[if_pos rfl,if_pos (by omega),bl,List.getElem?_set_self d];rfl;rw[if_neg (by omega),bl,List.getElem?_set_ne (fun e=>h3 e.symm),<-bl];obtain⟨f,p⟩:=k m d;rw[ao,p];exact congrArg some (tU f b _).symm;rw[fY (by rw[aK,a,c];omega),aK,a,c,bC,show j+l.length+(q-(j+l.length))=q by omega,if_neg (by omega),ao]
def VE(b:IntKind):TV S->Option Int|.aE _ (.int k) a=>(match decEq k b with|isTrue _=>some a|isFalse _=>none)|_=>none
def X1{c:IntKind}{v:TV S}{a:Int}(h:VE c v=some a):∃f,v=.aE f (.int c) a:=by unfold VE at h;split at h;rename_i f k b;split at h;rename_i e _;subst e;cases h;exact⟨f,rfl⟩;cases h;cases h
def Ca(P:Program)(ok:Nat->Bool)(s:ae S)(t:TypeId)(x y:Operand){A:Type}(k:ae S->Option A):Option A:=match cC s y with|some d=>(match okV d&&Gy (eM d) with|true=>(match decEq (nL P t) (some (eM d).length) with|isTrue _=>(match cC s x with|some (.loc h o)=>(match ok h with|true=>(match aB s.st h with|some (.box e m g)=>(match Nat.ble (o+(eM d).length) g.length with|true=>k (s.set h (.box e m (g.take o++eM d++g.drop (o+(eM d).length))))|false=>none)|_=>none)|false=>none)|some (.iU h r i j)=>(match ok h with|true=>(match aB s.st h with|some (.arr e m f c l)=>(match decEq c r with|isTrue _=>(Ht s x h l i fun y=>match Nat.beq (eM d).length (S.sz c) with|true=>(match j with|0=>(match Ge c d with|some (w,a)=>k (s.set h (.arr e m (f&&w) c (l.set i a)))|none=>none)|_=>none)|false=>match c,l,y with|.st n,l,⟨.st z,b⟩=>(match decEq z n with|isTrue D=>(match (S.dd n)[j]? with|some q=>(match pH q d with|some (w,a)=>(match S.put n ((S.cells z b).set j ⟨q,a⟩) with|some B=>k (s.set h (.arr e m (f&&w) (.st n) (l.set i B)))|none=>none)|none=>none)|none=>none)|isFalse _=>none)|_,_,_=>none)|isFalse _=>none)|some (.box e m g)=>(match r with|.int p=>(match VE p d with|some v=>(ba (i<(lh p (g.drop j)).length)).bind fun _=>k (s.set h (.box e m (g.take j++gw p (lh p (g.drop j)) i v++g.drop (j+(lh p (g.drop j)).length))))|none=>none)|_=>none)|_=>none)|false=>none)|some (.kp h r i j)=>(match ok h with|true=>(match aB s.st h with|some (.deep e m f (.wN u) c a)=>IP c a r i j d fun C=>k (s.set h (.deep e m f (.wN u) c C))|_=>none)|false=>none)|_=>none)|isFalse _=>none)|false=>none)|none=>none
def Qd{τ:Ty}{v:TV S}{f:Bool}{a:S.D τ}(h:pH τ v=some (f,a))(ln:Nat->Nat):yh (cZ (v.er ln)) f [dM S τ a]/\eM v=[v]:=by
 have ⟨h1,h2⟩:=H9 h ln;have i:eM v=[v]:=by cases v with|aE c b g=>(cases b with|st n=>simp[pH,Ty.gA] at h|_=>rfl)|agg l=>simp[pH] at h|_=>rfl
 refine⟨?_,i⟩;have k:cZ (v.er ln)=[v.er ln]:=by cases v with|aE c b g=>(cases b with|st n=>simp[pH,Ty.gA] at h|pt n=>cases g <;> cases c <;> rfl|_=>cases c <;> rfl)|val u=>unfold pH at h;split at h;rename_i e;cases e;rename_i e;cases e;rfl;rename_i e;cases e;rfl;cases h|_=>simp[pH] at h
 rw[k];refine⟨rfl,fun j m d=>?_⟩;cases j with|zero=>cases d;exact⟨_,rfl,h2⟩|succ j=>cases d
section
variable {P:Program}{W:List Nat}{s:ae S}{ty:TypeId}{pos:String}{after:Array Edge}{guard:Option (Nat×Bool)}{A:Type}{k:ae S→Option A}{r:A}
def Sk{t:TypeId}{x y:Operand}{A n i j:Nat}{e:TypeId}{m f fy:Bool}{l:List (S.D (.st n))}{b p:S.D (.st n)}{w:TV S}{c:Ty}{a:S.D c}(L:aQ s)(hx:cC s x=some (.iU A (.st n) i j))(K:cC s y=some w)(q:okV w=true)(d:Gy (eM w)=true)(o:nL P t=some (eM w).length)(M:W.contains A=true)(ho:aB s.st A=some (.arr e m f (.st n) l))(hb:l[i]?=some b)(I:(S.dd n)[j]?=some c)(H:pH c w=some (fy,a))(J:S.put n ((S.cells n b).set j ⟨c,a⟩)=some p)(h:k (s.set A (.arr e m (f&&fy) (.st n) (l.set i p)))=some r):fL P W s ⟨none,.store t x y,ty,pos,after,guard⟩ k r:=by
 have D:=xD q s.ln;have B:=(ap.1 hb).1;have v:(i+1)*S.sz (.st n)<=l.length*S.sz (.st n):=b9 _ B;rw[fp,Nat.one_mul] at v;obtain⟨F,C⟩:=Qd H s.ln;have u:(S.cells n b).length=S.sz (.st n):=by have:=congrArg List.length (S.nZ n b);rw[aJ] at this;exact this
 have E:j<S.sz (.st n):=(ap.1 I).1;rw[C] at o d D;have g:=S.ig _ _ _ J;have z:=Kr n hb (by rw[u];exact E) g;obtain⟨N,_⟩:=pM (o':=.arr e m (f&&fy) (.st n) (l.set i p)) ho (by show(l.set i p).length=l.length;exact fX);refine .one _ (EF.OJ (f:=fy) (ms:=[dM S c a]) (bi hx) (bi K) (eG (fZ ho)) rfl (tF q s.ln) D (qk s.ln d) (by rw[cW,aJ]) (dG o) (by show i*S.sz (.st n)+j+1<=(List.flatMap (aX S (.st n)) l).length;rw[kz];omega) M (D▸F) (fun m G=>by simp at G;subst G;exact zt (H9 H s.ln).1 a) rfl rfl) ?_ (L.set ho _) ⟨rfl,rfl,rfl⟩ h;rw[N];have:(TO.arr e m (f&&fy) (.st n) (l.set i p):TO S).er s.ln=⟨e,true,m,f&&fy,S.sz (.st n),(List.flatMap (aX S (.st n)) l).take (i*S.sz (.st n)+j)++[dM S c a]++(List.flatMap (aX S (.st n)) l).drop (i*S.sz (.st n)+j+1),none⟩:=by simp only[TO.er];rw[z]
 rw[this];exact Gh.refl _
def B9{ok:Nat->Bool}(p:∀h,ok h=true->W.contains h=true){t:TypeId}{x y:Operand}(K:aQ s)(h:Ca P ok s t x y k=some r):fL P W s ⟨none,.store t x y,ty,pos,after,guard⟩ k r:=by
 unfold Ca at h;split at h;rename_i H L;split at h;rename_i Q;simp only[ag] at Q;obtain⟨A,d⟩:=Q;have X:=xD A s.ln;split at h;rename_i w _;split at h;rename_i hh z E;split at h;rename_i I;split at h;rename_i e m o q;split at h;rename_i J;have J:=fS J;obtain⟨G,_⟩:=pM (o':=.box e m (o.take z++eM H++o.drop (z+(eM H).length))) q rfl;refine .one _ (EF.LM (bi E) (bi L) (eG (fZ q)) rfl (tF A s.ln) X (qk s.ln d) (by rw[cW,aJ]) (dG w) (by show _<=(TV.er.go s.ln o).length;rw[cW,aJ];exact J) (p _ I) rfl) ?_ (K.set q _) ⟨rfl,rfl,rfl⟩ h;rw[G];have:(TO.box e m (o.take z++eM H++o.drop (z+(eM H).length)):TO S).er s.ln={(TO.box e m o:TO S).er s.ln with cells:=((TO.box e m o:TO S).er s.ln).cells.take z++TV.er.go s.ln (eM H)++((TO.box e m o:TO S).er s.ln).cells.drop (z+(eM H).length)}:=by simp only[TO.er,cW,cS,List.map_take,List.map_drop]
 rw[this];exact Gh.refl _;cases h;cases h;cases h;rename_i hh τ i j E;split at h;rename_i I;split at h;rename_i e m f c l q;split at h;rename_i G _;subst G;obtain⟨b,J,U⟩:=Fv K ⟨j,E⟩ (fZ q) h;replace h:=U;clear U;have Y:=(ap.1 J).1;have O:(i+1)*S.sz c<=l.length*S.sz c:=b9 _ Y;rw[fp,Nat.one_mul] at O;split at h;rename_i C;have C:=ab C;split at h;split at h;rename_i M a Z;have hcs:=JF Z s.ln;obtain⟨e2,_⟩:=pM (o':=.arr e m (f&&M) c (l.set i a)) q (by show(l.set i a).length=l.length;simp);refine .one _ (EF.OJ (f:=M) (ms:=aX S c a) (bi E) (bi L) (eG (fZ q)) rfl (tF A s.ln) X (qk s.ln d) (by rw[cW,aJ]) (dG w) (by show _<=(List.flatMap (aX S c) l).length;rw[kz,C];omega) (p _ I) (X▸hcs) (uR c a) rfl rfl) ?_ (K.set q _) ⟨rfl,rfl,rfl⟩ h;rw[e2];have:(TO.arr e m (f&&M) c (l.set i a):TO S).er s.ln=⟨e,true,m,f&&M,S.sz c,(List.flatMap (aX S c) l).take (i*S.sz c+0)++aX S c a++(List.flatMap (aX S c) l).drop (i*S.sz c+0+(eM H).length),none⟩:=by simp only[TO.er];rw[TX c J,C,gu]
 rw[this];exact Gh.refl _;cases h;cases h;rename_i C;split at h;rename_i n l' n' b' _ _ _;split at h;rename_i hn _;subst hn;split at h;rename_i τj hj;split at h;rename_i M a Z;split at h;rename_i b2 hp;have he:=‹({τ:=Ty.st n,a:=b}:bp S.α)={τ:=Ty.st n,a:=l'}›;cases he;exact Sk K E L A d w (p _ I) q J hj Z hp h;cases h;cases h;cases h;cases h;cases h;cases h;rename_i e m o q;split at h;rename_i B;split at h;rename_i v hiv;obtain⟨fv,rfl⟩:=X1 hiv;obtain⟨_,C,h⟩:=bind_some h;have C:=cI C;obtain⟨f0,N⟩:=xN (af C);rw[bC] at N;have hjl:=(ap.1 N).1;obtain⟨G,_⟩:=pM (o':=.box e m (o.take j++gw B (lh B (o.drop j)) i v++o.drop (j+(lh B (o.drop j)).length))) q rfl;refine .one _ (EF.LM (bi E) (bi L) (eG (fZ q)) rfl (tF A s.ln) X (qk s.ln d) (by rw[cW,aJ]) (dG w) (by show i*1+j+1<=(TV.er.go s.ln o).length;rw[cW,aJ];omega) (p _ I) rfl) ?_ (K.set q _) ⟨rfl,rfl,rfl⟩ h;rw[G];have:(TO.box e m (o.take j++gw B (lh B (o.drop j)) i v++o.drop (j+(lh B (o.drop j)).length)):TO S).er s.ln={(TO.box e m o:TO S).er s.ln with cells:=((TO.box e m o:TO S).er s.ln).cells.take (i*1+j)++TV.er.go s.ln (eM (.aE fv (.int B) v:TV S))++((TO.box e m o:TO S).er s.ln).cells.drop (i*1+j+1)}:=by simp only[TO.er,cW];rw[XB B o j i v C s.ln,fx,if_pos (by rw[aJ];omega),show i*1+j=j+i by omega];have:(eM (.aE fv (.int B) v:TV S)).map (TV.er s.ln)=[.val (.int B v)]:=congrArg (fun g=>[g]) (tU fv B v);rw[this];simp
 rw[this];exact Gh.refl _;cases h;cases h;cases h;cases h;rename_i hh τ i j E;split at h;rename_i I;split at h;rename_i e m f D c a q;obtain⟨u,n,gs,V,F,R,T,h1,U,h0,h3,h4,h5⟩:=Rk h;rw[T] at w;obtain⟨G,_⟩:=pM (o':=.deep e m f (.wN D) c V) q h3;refine .one _ (EF.IR (f:=true) (g:=.val u) (g':=.val u) (by rw[bi E];rfl) (by rw[bi L,R]) (eG (fZ q)) rfl h1 (by rw[F,pD];exact U) rfl (by have:=qk s.ln d;rw[T] at this;simpa[TV.er.go,R] using this) (dG w) (p _ I)) ?_ (K.set q _) ⟨rfl,rfl,rfl⟩ h0;rw[G,F,pD];have:(TO.deep e m f (.wN D) c V:TO S).er s.ln=⟨e,true,m,f&&true,1,[],some (.deep (ur e D (kJ c a).1 ((kJ c a).2.set i (n,gs.set j (.val u)))))⟩:=by show aw.mk _ _ _ _ _ _ (some (.deep (ur e D (kJ c V).1 (kJ c V).2)))=_;rw[h4,h5,kf]
 rw[this];exact Gh.refl _;cases h;cases h;cases h;cases h;cases h;cases h
end
end
end Go.DN
/-
 DN,part K:append.
-/
namespace Go.DN
open Go.AM
def cu.gh{P:Program}{W:List Nat}{s t:St}{o:Oper}{T:St->Prop}(h:Gh s t)(A:cu P W t o T):cu P W s o T:=by refine⟨A.1,fun N D S a w F G K Q O=>?_⟩;obtain⟨p,Y,C⟩:=h N D S a w F;refine A.2 N D p a w Y G K Q fun g H L M i R d=>O g H L M i R ⟨d.size,fun b U V=>d.block b U fun x k c m l n j f=>?_,fun x I c J b l n j f=>?_⟩;obtain⟨q,r,u,e,y,v⟩:=C x k c m b n j f;exact V x q r u l e y v;rcases d.hand x I c J b l n j f with ⟨B,k,X,m,e,y,v,z⟩|e;obtain⟨q,r,u,Z,h7,E⟩:=C B k X m b y v z;exact .inl ⟨B,q,r,u,e,Z,h7,E⟩;exact .inr e
def Gh.pz{s:St}{t:Nat}(hd:Nat)(k:aw)(hg:get s.fr t=some (.val (.slice none 0 0)))(hf:fresh s hd=true)(q:k.cells=[])(l:k.lp=none):Gh s {fr:=(t,.aN hd k.sz 0 0)::s.fr,st:=(hd,k)::s.st,df:=s.df}:=fun N G z a w h=>by obtain⟨A,B,C,E,F⟩:=gC hf;obtain⟨r,p⟩:=h.st.GG A C (kj F) q l;refine⟨lD z hd none,{st:=r,nd:=(h.nd.mono (Kept.refl _ _) (fun b _=>p b)).gZ (fun g hg y f=>bc fun e=>by subst e;rw[p8 E hg] at f;cases f),sz:=h.sz,fr:=fun o g c=>?_},Gh.same fun x u b m D i=>?_⟩;rw[jc] at c;(cases j:Nat.beq t o with|true=>(rw[j] at c;cases c;have:=ab j;subst this;obtain⟨v,n,d⟩:=h.fr t _ hg;cases d with|aG d=>cases d;exact⟨_,n,.gz hd k.sz (cf _ _ _)⟩)|false=>rw[j] at c;obtain⟨v,n,d⟩:=h.fr o g c;refine⟨v,n,(d.mono (Kept.refl _ _) (fun b _=>p b) (aH _)).gZ fun y f=>bc ?_⟩;intro e;subst e;rw[nm B c] at f;cases f);by_cases e:x=hd;subst e;rw[cf] at i;cases i;rw[bc e] at i;exact⟨u,by rw[<-aD k _ e];exact D,i⟩
section
variable {S:eN}
def UL(s:ae S)(h:Nat)(τ:Ty):TV S->Option (Bool×List (S.D τ))|.aE f (.list a) m=>(match jF (.list a) (.list τ) m with|some m=>some (f,m)|none=>none)|.aN c b=>(match Nat.beq c h with|true=>none|false=>match aB s.bo c with|some (.arr _ _ f a m)=>(match decEq a b with|isTrue _=>(match jF (.list a) (.list τ) m with|some m=>some (f,m)|none=>none)|isFalse _=>none)|_=>none)|.sub c b o n=>(match Nat.beq c h with|true=>none|false=>match aB s.bo c with|some (.arr _ _ f a m)=>(match decEq a b with|isTrue _=>(match jF (.list a) (.list τ) m with|some m=>some (f,(m.drop o).take n)|none=>none)|isFalse _=>none)|_=>none)|.val (.slice none 0 0)=>some (true,[])|_=>none
def UM(s:ae S)(v:TV S){A:Type}(k:Option A):Option A:=match v with|.sub b a o n=>(match aB s.bo b with|some (.arr _ _ _ _ m)=>(ba (o+n<=m.length)).bind fun _=>k|_=>none)|_=>k
def Wq(b:ByteArray):List.flatMap (aX S (.int .u8)) (jH b)=wm b:=by unfold jH wm;generalize b.data.toList=l;induction l with|nil=>rfl|cons x r a=>rw[bg,cd,a,bg];rfl
def WB(P:Program)(ok:Nat->Bool)(s:ae S)(d:Nat)(t t' h:Nat)(b:ByteArray){A:Type}(k:ae S->Option A):Option A:=match ok h&&(Nat.blt h 1000&&(!(TV.has.go h s.df)&&(!(gT h s.lo)&&!(dI h s.bS)))) with|true=>(match aB s.st h with|some (.arr e m f (.int .u8) l)=>(match P.underlying t with|some (.slice a)=>(match decEq e a with|isTrue _=>(match P.underlying t' with|some .string=>(match (P.info? e).map (fun i=>(i.zero,i.size,i.bytes)) with|some (some (Value.int IntKind.u8 0),1,1)=>(ba (List.length l+b.size<=140737488355328)).bind fun _=>k ((s.renew h (.arr e m f (.int .u8) (List.append l (jH b)))).put d (.aN h (.int .u8)))|_=>none)|_=>none)|isFalse _=>none)|_=>none)|_=>none)|false=>none
def RT(P:Program)(ok:Nat->Bool)(s:ae S)(d:Nat)(t h:Nat)(τ:Ty)(c:TV S){A:Type}(k:ae S->Option A):Option A:=match ok h&&(Nat.blt h 1000&&(!(TV.has.go h s.df)&&(!(gT h s.lo)&&!(dI h s.bS)))) with|true=>(match aB s.st h with|some (.arr e m f a l)=>(match decEq a τ with|isTrue _=>(match P.underlying t with|some (.slice g)=>(match decEq e g with|isTrue _=>(match P.info? e with|some i=>(match i.zero with|some z=>(match decEq i.size (S.sz τ),decEq z.cells.size (S.sz τ) with|isTrue _,isTrue _=>(match UL s h a c with|some (j,b)=>UM s c ((ba (List.length l+List.length b<=maxLen/\(List.length l+List.length b)*i.bytes<=140737488355328)).bind fun _=>k ((s.renew h (.arr e m (f&&(j||a.jb)) a (l++b))).put d (.aN h a)))|none=>none)|_,_=>none)|none=>none)|none=>none)|isFalse _=>none)|_=>none)|isFalse _=>none)|_=>none)|false=>none
def Gh.jb{s:St}{h:Nat}{k:aw}{τ:Ty}{l:List (S.D τ)}(c:τ.jb=true)(d:az s.st h=some k)(f:k.cells=List.flatMap (aX S τ) l)(i:k.pure=true)(e:k.lp=none):Gh s {fr:=s.fr,st:=dJ s.st h {k with fresh:=true},df:=s.df}:=by letI:=np S τ;haveI:Flat (S.D τ):=⟨fun a g b=>by have b:g∈aX S τ a:=b;cases τ with|int _=>exact⟨_,dj.1 b⟩|bool=>exact⟨_,dj.1 b⟩|str=>exact⟨_,dj.1 b⟩|list _=>cases c|st _=>cases c|map=>cases c|dC=>cases c|pt _=>cases c⟩;refine Gh.of (fun N p q a w m=>m.DC (l:=l) d f i e) fun x o n=>?_;rcases dz d n with ⟨rfl,_⟩|⟨_,j⟩;exact⟨k,d⟩;exact⟨o,j⟩
def Qh{h:Nat}{k k':aw}{r:List (Nat×aw)}:dJ ((h,k)::r) h k'=(h,k')::r:=by simp[dJ]
def Gh.aae{fr:List (Nat×G)}{r:List (Nat×aw)}{df:List G}{h:Nat}{e:TypeId}{m f fy:Bool}{n:Nat}{τ:Ty}{l:List (S.D τ)}:Gh ⟨fr,(h,⟨e,true,m,f&&fy,n,List.flatMap (aX S τ) l,none⟩)::r,df⟩ ⟨fr,(h,⟨e,true,m,f&&(fy||τ.jb),n,List.flatMap (aX S τ) l,none⟩)::r,df⟩:=by cases b:τ.jb with|false=>rw[cJ];exact Gh.refl _|true=>cases f with|false=>exact Gh.refl _|true=>rw[Bool.or_true,qK];(have a:az ((h,(⟨e,true,m,fy,n,List.flatMap (aX S τ) l,none⟩:aw))::r) h=some ⟨e,true,m,fy,n,List.flatMap (aX S τ) l,none⟩:=by simp[az]);have:=Gh.jb (s:=⟨fr,(h,⟨e,true,m,fy,n,List.flatMap (aX S τ) l,none⟩)::r,df⟩) b a rfl rfl rfl;rw[Qh] at this;exact this
def sV{a τ:Ty}{m:List (S.D a)}{b:List (S.D τ)}(h:jF (α:=S.α) (.list a) (.list τ) m=some b):∃e:a=τ,e▸m=b:=by have:=e9 h;cases this;exact⟨rfl,rfl⟩
def Xs{s:ae S}{h:Nat}{τ:Ty}{v:TV S}{f:Bool}{m:List (S.D τ)}{A:Type}{k:Option A}{r:A}(ht:UL s h τ v=some (f,m))(c:UM s v k=some r):AF s.er.st (S.sz τ) (v.er s.ln)=some (List.flatMap (aX S τ) m,m.length,f)/\v.has h=false/\k=some r:=by unfold UL at ht;split at ht;rename_i t a w;split at ht;rename_i q b;cases ht;obtain⟨e,b⟩:=sV b;subst e;cases b;refine⟨?_,rfl,c⟩;rw[wg];cases f <;> rfl;cases ht;rename_i g l;split at ht;cases ht;rename_i i;split at ht;rename_i e y t a w d;split at ht;rename_i p _;subst p;split at ht;rename_i q b;cases ht;obtain⟨e,b⟩:=sV b;subst e;cases b;refine⟨?_,i,c⟩;show AF s.er.st (S.sz a) (.aN g (S.sz a) 0 (s.ln g))=_;simp only[AF,eG d,TO.er];rw[pQ d,ib,dc (by rw[kz];exact aH _)];cases ht;cases ht;cases ht;rename_i g l o n;split at ht;cases ht;rename_i i;split at ht;rename_i e y t a w d;split at ht;rename_i p _;subst p;split at ht;rename_i q b;cases ht;obtain⟨e,b⟩:=sV b;subst e;cases b;unfold UM at c;dsimp only at c;rw[d] at c;obtain⟨u,x,j⟩:=bind_some c;have x:=cI x;refine⟨?_,i,j⟩;show AF s.er.st (S.sz a) (.aN g (S.sz a) (o*S.sz a) n)=_;simp only[AF,eG d,TO.er];rw[Hs,Hr,bA,bY,iX (by omega)];cases ht;cases ht;cases ht;cases ht;exact⟨rfl,rfl,c⟩;cases ht
section
variable {P:Program}{W:List Nat}{s:ae S}{ty:TypeId}{pos:String}{after:Array Edge}{guard:Option (Nat×Bool)}{A:Type}{k:ae S→Option A}{r:A}
def O2{s:ae S}{h:Nat}{e:TypeId}{m f:Bool}{τ:Ty}{l:List (S.D τ)}:(TV.aN h τ:TV S).er (s.renew h (.arr e m f τ l)).ln=.aN h (S.sz τ) 0 l.length:=by show G.aN _ _ _ ((s.renew h _).ln h)=_;rw[show(s.renew h (.arr e m f τ l)).ln h=_ from wF _ _];rfl
def PV{ok:Nat->Bool}(o:∀h,ok h=true->W.contains h=true){d t h:Nat}{τ:Ty}{x y:Operand}{K:TV S}(Z:aQ s)(hx:cC s x=some (.aN h τ))(M:cC s y=some K)(a:RT P ok s d t h τ K k=some r):fL P W s ⟨some d,.call ⟨.builtin .append,#[x,y],#[t,t]⟩,ty,pos,after,guard⟩ k r:=by
 unfold RT at a;split at a;rename_i J;simp only[ag,aT] at J;obtain⟨Y,F,q,j,g⟩:=J;split at a;rename_i e m f b l I;split at a;rename_i A _;subst A;split at a;rename_i e' T;split at a;rename_i X _;subst X;split at a;rename_i i L;split at a;rename_i z O;split at a;rename_i N B _ _;split at a;rename_i H C w;obtain⟨Q,R,a⟩:=Xs w a;obtain⟨u,E,a⟩:=bind_some a;obtain⟨U,V⟩:=cI E;letI:=np S b;have D:=eG (fZ I);have n:pinned h=false:=kj F;have p:qE h s.er.df=true:=by show qE h (TV.er.go s.ln s.df)=true;rw[DW,q];rfl
 have c:(P.info? e).map (fun i=>(i.zero,i.size,i.bytes))=some (some z,S.sz b,i.bytes):=by rw[L,cn,O,N]
 have v:ev s.er x=some (.aN h (S.sz b) 0 l.length):=by rw[bi hx];show some (G.aN _ _ _ (s.ln h))=_;rw[pQ (fZ I)]
 obtain⟨A,_,_⟩:=EV (.arr e m (f&&(H||b.jb)) b (l++C)) rfl q j g;refine .one _ (ET.append (α:=S.D b) (m:=C) v (bi M) D rfl rfl rfl rfl Q (by rw[zo];exact R) T c B U V (o h Y) rfl n p) ?_ ((Z.renew h _ j g).put _ _) ⟨rfl,rfl,rfl⟩ a;rw[iT,A,O2];exact Gh.aae (h:=h) (e:=e) (m:=m) (f:=f) (fy:=H) (τ:=b) (l:=l++C) (n:=S.sz b);cases a;cases a;cases a;cases a;cases a;cases a;cases a;cases a;cases a
def YA{ok:Nat->Bool}(g:∀h,ok h=true->W.contains h=true){d t t' h:Nat}{x y:Operand}{b:ByteArray}{f:Bool}(E:aQ s)(hx:cC s x=some (.aN h (.int .u8)))(H:cC s y=some (.aE f .str b))(a:WB P ok s d t t' h b k=some r):fL P W s ⟨some d,.call ⟨.builtin .append,#[x,y],#[t,t']⟩,ty,pos,after,guard⟩ k r:=by
 unfold WB at a;split at a;rename_i B;simp only[ag,aT] at B;obtain⟨J,w,i,c,n⟩:=B;split at a;rename_i e m A l C;split at a;rename_i O L;split at a;rename_i K _;subst K;split at a;rename_i p;split at a;rename_i F;obtain⟨u,q,a⟩:=bind_some a;have I:=cI q;have v:=eG (fZ C);have j:pinned h=false:=kj w;have o:qE h s.er.df=true:=by show qE h (TV.er.go s.ln s.df)=true;rw[DW,i];rfl
 have z:ev s.er x=some (.aN h 1 0 (List.length l)):=by rw[bi hx];show some (G.aN _ _ _ (s.ln h))=_;rw[pQ (fZ C)];rfl
 obtain⟨M,_,_⟩:=EV (.arr e m A (.int .u8) (List.append l (jH b))) rfl i c n;refine .one _ (EF.Ui z (Hm H) v rfl rfl rfl (by show(List.flatMap (aX S (.int .u8)) l).length=_;rw[kz];exact pD _) L p F I (g h J) rfl j o) ?_ ((E.renew h _ c n).put _ _) ⟨rfl,rfl,rfl⟩ a;rw[iT,M,O2];have N:List.flatMap (aX S (.int .u8)) (List.append l (jH b))=List.flatMap (aX S (.int .u8)) l++wm b:=by rw[<-Wq (S:=S) b];exact qA
 have D:List.length (List.append l (jH b))=List.length l+b.size:=by rw[<-Bw b];exact aK
 show Gh _ {fr:=(d,.aN h 1 0 (List.length (List.append l (jH b))))::nN h s.er.fr,st:=(h,⟨e,true,m,A,1,List.flatMap (aX S (.int .u8)) (List.append l (jH b)),none⟩)::gJ h s.er.st,df:=s.er.df};rw[N,D];exact Gh.refl _;cases a;cases a;cases a;cases a;cases a;cases a
def ae.pz(s:ae S)(hd t:Nat)(e:TypeId)(τ:Ty):ae S:={s.add hd (.arr e true true τ []) with fr:=(t,.aN hd τ)::s.fr,last:=L1 t s.last}
def F5{hd t:Nat}{e:TypeId}{τ:Ty}(b:aQ s)(hx:bw s.cm t=some (.val (.slice none 0 0)))(hf:s.free hd=true):Gh s.er (s.pz hd t e τ).er/\aQ (s.pz hd t e τ):=by obtain⟨c,_⟩:=qe hf (.arr e true true τ ([]:List (S.D τ))) rfl;have d:=Gh.pz (s:=s.er) (t:=t) hd ⟨e,true,true,true,S.sz τ,[],none⟩ (gd hx) (gD hf) rfl rfl;have a:(s.pz hd t e τ).er=((s.add hd (.arr e true true τ [])).put t (.aN hd τ)).er:=rfl;refine⟨?_,(b.add (.arr e true true τ []) hf).put t (.aN hd τ)⟩;rw[a,iT,c,Ml];exact d
def WC(P:Program)(ok:Nat->Bool)(s:ae S)(d:Nat)(c:Call){A:Type}(k:ae S->Option A):Option A:=match c.args.toList,c.argTypes.toList with|[x,y],[t,j]=>(match decEq t j with|isTrue _=>(match cC s x with|some (.aN h a)=>(match cC s y with|some g=>RT P ok s d t h a g k|none=>none)|some (.val (.slice none 0 0))=>(match x with|.tmp i=>(match s.free (s.dw d) with|true=>(match P.underlying t with|some (.slice e)=>(match S.WK e with|some a=>(match cC (s.pz (s.dw d) i e a) y with|some g=>(match cC (s.pz (s.dw d) i e a) x with|some (.aN h f)=>RT P ok (s.pz (s.dw d) i e a) d t h f g k|_=>none)|none=>none)|none=>none)|_=>none)|false=>none)|_=>none)|_=>none)|isFalse _=>match cC s x with|some (.aN h (.int .u8))=>(match cC s y with|some (.aE _ .str b)=>WB P ok s d t j h b k|_=>none)|_=>none)|_,_=>none
def fL.gh{s t:ae S}{o:Oper}(hg:Gh s.er t.er)(a:bG s t)(h:fL P W t o k r):fL P W s o k r:=by obtain⟨T,c,d⟩:=h;exact⟨T,cu.gh hg c,fun e b=>let ⟨u,a1,a2,a3,a4⟩:=d e b;⟨u,a1,a2,a.trans a3,a4⟩⟩
def YB{ok:Nat->Bool}(a:∀h,ok h=true->W.contains h=true){d:Nat}{args:Array Operand}{ts:Array TypeId}(f:aQ s)(h:WC P ok s d ⟨.builtin .append,args,ts⟩ k=some r):fL P W s ⟨some d,.call ⟨.builtin .append,args,ts⟩,ty,pos,after,guard⟩ k r:=by unfold WC at h;dsimp only at h;split at h;rename_i j g;have j:=Dx j;have g:=Dx g;subst j;subst g;split at h;rename_i e _;subst e;split at h;rename_i b;split at h;rename_i c;exact PV a f b c h;cases h;rename_i b;split at h;rename_i m;split at h;rename_i l;split at h;split at h;split at h;rename_i c;split at h;rename_i i;exact fL.gh (F5 f b l).1 ⟨rfl,rfl,rfl⟩ (PV a (F5 f b l).2 i c h);cases h;cases h;cases h;cases h;cases h;cases h;cases h;split at h;rename_i b;split at h;rename_i c;exact YA a f b c h;cases h;cases h;cases h
def EF.W0{s:St}{d:Nat}{op:BinOp}{t t' e:TypeId}{x:Operand}{g:G}{n:Int}(hx:ev s x=some g)(hn:Q4 g=some n)(ht:P.underlying t=some (.slice e))(k:op=.eql\/op=.neq):cu P W s ⟨some d,.binOp op t x (.const (.slice none 0 0)) t',ty,pos,after,guard⟩ (fun u=>∃b:Bool,(b=true->n=0)/\u=s.put d (.val (.bool (match op with|.eql=>b|_=>!b)))):=by
 refine⟨fun _ h=>(by cases h),?_⟩;intro N E j a w l p K Q o;obtain⟨b,m,c,q,F,v⟩:=aU.UP (l.ev hx) hn;have i:Step W s.st j s.st j w w:=⟨aH _,fun _ _ _=>rfl,fun h z c A b B y D C=>.inl ⟨h,z,c,A,B,y,D,C⟩⟩;have r:b.isNone=true->n=0:=fun h=>v (Option.isNone_iff_eq_none.1 h);unfold Oper.wp;rcases k with rfl|rfl;have f:(execOp a.eval ⟨some d,.binOp .eql t x (.const (.slice none 0 0)) t',ty,pos,after,guard⟩).run P w=.ok (.value (.bool b.isNone)) w:=by have:=Ss (P:=P) ht x (.const (.slice none 0 0)) b m c w;simp only[execOp,q,show a.eval (.const (.slice none 0 0))=.slice none 0 0 from rfl,Sem.run_bind,this,Result.andThen_ok,Sem.run_pure]
 rw[f];exact o j _ _ w (l.put (d:=d) (p d rfl) (.aG (.val _))) ⟨b.isNone,r,rfl⟩ i;have f:(execOp a.eval ⟨some d,.binOp .neq t x (.const (.slice none 0 0)) t',ty,pos,after,guard⟩).run P w=.ok (.value (.bool (!b.isNone))) w:=by have:=Sr (P:=P) ht x (.const (.slice none 0 0)) b m c w;simp only[execOp,q,show a.eval (.const (.slice none 0 0))=.slice none 0 0 from rfl,Sem.run_bind,this,Result.andThen_ok,Sem.run_pure]
 rw[f];exact o j _ _ w (l.put (d:=d) (p d rfl) (.aG (.val _))) ⟨b.isNone,r,rfl⟩ i
noncomputable def Ve(P:Program)(s:ae S)(d:Nat)(op:BinOp)(t:TypeId)(x y:Operand){A:Type}(k:ae S->Option A):Option A:=match y with|.const (.slice none 0 0)=>(match P.underlying t with|some (.slice _)=>(match cC s x with|some v=>(match Q3 s v with|some n=>(match op with|.eql=>Al n (k (s.put d (.aE true .bool true))) (k (s.put d (.aE true .bool false)))|.neq=>Al n (k (s.put d (.aE true .bool false))) (k (s.put d (.aE true .bool true)))|_=>none)|none=>none)|none=>none)|_=>none)|_=>none
def XR{d:Nat}{op:BinOp}{t t':TypeId}{x y:Operand}(g:aQ s)(h:Ve P s d op t x y k=some r):fL P W s ⟨some d,.binOp op t x y t',ty,pos,after,guard⟩ k r:=by
 unfold Ve at h;split at h;split at h;rename_i l;split at h;rename_i m;split at h;rename_i i;have j:∀b:Bool,(s.put d (.aE true .bool b)).er=s.er.put d (.val (.bool b)):=fun b=>by rw[iT];exact congrArg _ (iu true b)
 split at h;obtain⟨c,f⟩:=J0 h;refine⟨_,EF.W0 (bi m) (IE i) l (.inl rfl),fun n ⟨b,a,e⟩=>?_⟩;subst e;refine⟨s.put d (.aE true .bool b),by rw[j];exact Gh.refl _,g.put _ _,⟨rfl,rfl,rfl⟩,?_⟩;cases b with|true=>exact c (a rfl)|false=>exact f
 obtain⟨c,f⟩:=J0 h;refine⟨_,EF.W0 (bi m) (IE i) l (.inr rfl),fun n ⟨b,a,e⟩=>?_⟩;subst e;refine⟨s.put d (.aE true .bool (!b)),by rw[j];exact Gh.refl _,g.put _ _,⟨rfl,rfl,rfl⟩,?_⟩;cases b with|true=>exact c (a rfl)|false=>exact f
 cases h;cases h;cases h;cases h;cases h
end
end
end Go.DN
/-
 DN,part Kb:a state told in another way:less of it,ay as plain data,blocks that are written no more.
-/
namespace Go.DN
open Go.AM
def CV(st st':List (Nat×aw))(g g':G):Prop:=∀(c:Cx) (a:Mu) (w:World) (v:Value),cM c a st w->(∀b,b<w.heap.size->¬c.O st a b->¬c.O st' a b)->aU (c.O st a) c.base w a g v->aU (c.O st' a) c.base w a g' v
def CV.rw{st st':List (Nat×aw)}{g g':G}(h:RW g g'):CV st st' g g':=fun c d w v _ a b=>h _ _ _ _ _ (b.mono (Kept.refl _ _) a (aH _))
def CV.refl(st st':List (Nat×aw))(g:G):CV st st' g g:=CV.rw (RW.refl g)
def CV.any(st st':List (Nat×aw))(g:G):CV st st' g .any:=fun _ _ _ v _ _ _=>.aG (.any v)
def CV.fz{st st':List (Nat×aw)}{g g':G}(hd:∀x k,az st' x=some k->∃c,az st x=some c)(h:jj st st' g=some g'):CV st st' g g':=fun d e w v a _ b=>Nb a hd b h
def Us(st st':List (Nat×aw))(gs a:List G):Prop:=a.length=gs.length/\∀(j:Nat) (b:G),a[j]?=some b->∃g,gs[j]?=some g/\CV st st' g b
def CV.agg{st st':List (Nat×aw)}{gs c:List G}(h:Us st st' gs c):CV st st' (.agg gs) (.agg c):=fun o p w v d n b=>by cases b with|aG b=>(cases b with|agg _ k f i=>exact .agg _ k (f.trans h.1.symm) fun j l v a b=>(by obtain⟨g,m,e⟩:=h.2 j l a;exact e o p w _ d n (.aG (i j g v m b))))|agg _ k f i=>exact .agg _ k (f.trans h.1.symm) fun j l v a b=>(by obtain⟨g,m,e⟩:=h.2 j l a;exact e o p w _ d n (i j g v m b))
def CV.bE{st st':List (Nat×aw)}{gs b:List G}(h:Us st st' gs b):CV st st' (.bE gs) (.bE b):=fun o i w v c f a=>by cases a with|aG a=>cases a|bE _ k l m=>exact .bE _ k (l.trans h.1.symm) fun j n v d a=>(by obtain⟨g,p,e⟩:=h.2 j n d;exact e o i w _ c f (m j g v p a))
def CV.bf{st st':List (Nat×aw)}{f:FuncId}{gs b:List G}(h:Us st st' gs b):CV st st' (.bf f gs) (.bf f b):=fun p k w v c i a=>by cases a with|aG a=>cases a|bf _ _ l m n=>exact .bf f _ l (m.trans h.1.symm) fun j o v d a=>(by obtain⟨g,q,e⟩:=h.2 j o d;exact e p k w _ c i (n j g v q a))
structure xi (st st':List (Nat×aw)) (k k':aw):Prop where
 bP:k'.bP=k.bP
 eC:k'.eC=true→k.eC=true
 sz:k'.sz=k.sz
 lp:k'.lp=k.lp
 pure:k'.pure=k.pure
 len:k'.cells.length=k.cells.length
 cells:(k.pure=true∧k'.cells=k.cells∧(k'.fresh=true→k.fresh=true∨(k.lp=none∧∀g,g∈k.cells→∃v,g=.val v)∨∃d,k.lp=some (.deep d)∧∀(O O':Nat→Prop) (w:World) (b:Nat) (m:Mm),d.φ O w b m→d.φ O' w b m))∨(k.pure=false∧∀(j:Nat) (g':G),k'.cells[j]?=some g'→∃g,k.cells[j]?=some g∧CV st st' g g')
def xi.refl(st st':List (Nat×aw))(k:aw):xi st st' k k:=by refine⟨rfl,id,rfl,rfl,rfl,rfl,?_⟩;cases h:k.pure with|true=>exact .inl ⟨rfl,rfl,.inl⟩|false=>exact .inr ⟨rfl,fun j g a=>⟨g,a,CV.refl _ _ g⟩⟩
def Gh.gen{s t:St}(X:∀d g',get t.fr d=some g'->∃g,get s.fr d=some g/\CV s.st t.st g g')(I:∀x k',az t.st x=some k'->∃k,az s.st x=some k/\xi s.st t.st k k')(hdf:s.df=t.df):Gh s t:=by
 have l:∀x k,az t.st x=some k->∃T,az s.st x=some T:=fun x k P=>let ⟨T,i,_⟩:=I x k P;⟨T,i⟩;refine Gh.of (fun N F B a w h=>?_) l;have W:∀b,b<w.heap.size->¬F.O s.st B b->¬F.O t.st B b:=fun b _ hn Z=>hn (Z.imp id fun ⟨x,k,c,m,i,o,hi⟩=>let ⟨T,C⟩:=l x k i;⟨x,T,c,m,C,o,hi⟩);have Y:∀{g g':G}{v:Value},CV s.st t.st g g'->aU (F.O s.st B) F.base w B g v->aU (F.O t.st B) F.base w B g' v:=by intro g g' v E r;exact E F B w v h.st W r
 refine {st:={ez:=?_,dr:=?_,cy:=?_,fJ:=?_,fq:=h.st.fq,hb:=h.st.hb,os:=h.st.os,tape:=h.st.tape,output:=h.st.output,gl:=h.st.gl,dB:=h.st.dB},nd:=hdf▸h.nd.mono (Kept.refl _ _) W,sz:=h.sz,fr:=fun d g' n=>?_};{intro x k' hk';obtain⟨k,P,c⟩:=I x k' hk';have q:=h.st.ez x k P;cases V:B x with|none=>rw[V] at q;exact q.zi (by rw[q.1];exact bu (by rw[c.len,q.1];rfl)) c.lp c.pure|some bm=>obtain⟨b,m⟩:=bm;rw[V] at q;cases f:k.lp with|none=>obtain⟨cs,i,o,C,O,h5,h6⟩:=q.cells f;refine .mk (c.lp.trans f) (q.nv f) ⟨cs,by rw[c.bP];exact i,o,by rw[c.len];exact C,fun K=>O (c.eC K),by rw[c.sz];exact h5,fun j g' n=>?_⟩;rcases c.cells with ⟨z,e,p⟩|⟨z,e⟩;{rw[e] at n;obtain⟨v,r,A⟩:=h6 j g' n;refine⟨v,r,?_⟩;have:=A.mono (Kept.refl _ _) W;unfold dh at this|-;rw[c.pure];rw[z] at this|-;by_cases hk2:k'.fresh=true->k.fresh=true;exact this.flag hk2;{rcases Classical.em (k'.fresh=true) with H|H;{rcases p H with p|⟨_,p⟩|⟨d,R,_⟩;exact this.flag fun _=>p;rotate_left;rw[f] at R;cases R;obtain⟨u,rfl⟩:=p g' (ak n);revert this;show bN _ w (.val u) v->bN _ w (.val u) v;intro this;cases this;exact .val _};exact absurd (fun h=>absurd h H) hk2}};obtain⟨g,S,E⟩:=e j g' n;obtain⟨v,r,A⟩:=h6 j g S;refine⟨v,r,?_⟩;unfold dh at A|-;rw[c.pure];simp only[z] at A|-;exact Y E A|some kd=>cases kd with|loop lp=>obtain⟨D,vs,i,o,C,O,h5⟩:=(aV.loop f).1 q;refine(aV.loop (c.lp.trans f)).2 ⟨D,vs,i,o,(by cases H:k'.eC with|false=>rfl|true=>rw[c.eC H] at C;cases C),c.pure.trans O,fun j t g' ht n=>?_⟩;rcases c.cells with ⟨z,_⟩|⟨_,e⟩;rw[O] at z;cases z;obtain⟨g,S,E⟩:=e j g' n;obtain⟨v,r,A⟩:=h5 j t g ht S;exact⟨v,r,Y E A⟩|deep d=>obtain⟨i,o,C,O⟩:=((aV.deep f).1 q).mono (fun _ _=>rfl) (Kept.refl _ _) W;refine(aV.deep (c.lp.trans f)).2 ⟨?_,c.pure.trans o,bu (by rw[c.len,C];rfl),fun K=>O (c.eC K)⟩;rcases c.cells with ⟨_,_,p⟩|⟨z,_⟩;(cases J:k.fresh with|true=>(rw[J] at i;cases k'.fresh with|true=>exact i|false=>exact d.mono i (Kept.refl _ _) (fun x _ hn Z=>hn (.inr Z)) (fun _ _=>rfl))|false=>rw[J] at i;cases H:k'.fresh with|false=>exact i|true=>rcases p H with p|⟨p,_⟩|⟨d',R,Q⟩;rw[J] at p;cases p;rw[f] at p;cases p;rw[f] at R;cases R;exact Q _ _ _ _ _ i);rw[o] at z;cases z};intro x x' U k2 y b m b' m' i o;obtain⟨M,L⟩:=l x U i;obtain⟨k2',h2'⟩:=l x' k2 o;exact h.st.dr x x' M k2' y b m b' m' L h2';intro x U b m y i o hi;obtain⟨k,P,c⟩:=I x U i;obtain⟨a1,a2,a3,a4⟩:=h.st.cy x k b m y P o hi;exact⟨a1,a2,a3,fun V=>a4 (c.eC V)⟩;intro x U i o;obtain⟨M,L⟩:=l x U i;exact h.st.fJ x M L o;obtain⟨g,S,E⟩:=X d g' n;obtain⟨v,r,A⟩:=h.fr d g S;exact⟨v,r,Y E A⟩
section
variable {S:eN}
inductive Fz (S:eN) where
 | sl (f:Bool) (τ:Ty) (l:List (S.D τ))
 | bx (f:Bool) (n:Nat) (a:S.α n)
def Fz.aN:Fz S->Ty->TV S|.sl f b l,a=>(match decEq a b with|isTrue _=>.aE f (.list b) l|isFalse _=>.any)|.bx _ _ _,_=>.any
def Fz.loc:Fz S->Nat->TV S|.bx f n a,o=>(match Nat.beq o 0 with|true=>.aE f (.pt n) (some a:Option (S.α n))|false=>.any)|.sl _ _ _,_=>.any
def TV.fz (h:Nat) (z:Fz S):TV S→TV S
 | .aN h' τ'=>match Nat.beq h' h with
  | true=>z.aN τ'
  | false=>.aN h' τ'
 | .agg vs=>.agg (go h z vs)
 | .bE vs=>.bE (go h z vs)
 | .bf g vs=>.bf g (go h z vs)
 | .sub h' τ' o n=>match Nat.beq h' h with
  | true=>.any
  | false=>.sub h' τ' o n
 | .iU h' τ' i j=>match Nat.beq h' h with
  | true=>.any
  | false=>.iU h' τ' i j
 | .loc h' o=>match Nat.beq h' h with
  | true=>z.loc o
  | false=>.loc h' o
 | .da h'=>match Nat.beq h' h with
  | true=>.any
  | false=>.da h'
 | .mp h'=>match Nat.beq h' h with
  | true=>.any
  | false=>.mp h'
 | v=>v
where go (h:Nat) (z:Fz S):List (TV S)→List (TV S)
 | []=>[]
 | v::r=>v.fz h z::go h z r
def Hb(h:Nat)(z:Fz S):List (Nat×TV S)->List (Nat×TV S)|[]=>[]|(t,v)::r=>(t,v.fz h z)::Hb h z r
def TO.fz(h:Nat)(z:Fz S):TO S->TO S|.box e m a=>.box e m (TV.fz.go h z a)|.lp p n a=>.lp p n (TV.fz.go h z a)|o=>o
def wI(h:Nat)(z:Fz S):List (Nat×TO S)->List (Nat×TO S)|[]=>[]|(t,o)::r=>match Nat.beq t h with|true=>wI h z r|false=>(t,o.fz h z)::wI h z r
def DT(s:ae S)(h:Nat):Option (ae S):=match aB s.st h with|some (.arr e true f b l)=>(match !(gT h s.lo)&&(!(dI h s.bS)&&(!(TV.has.go h s.df)&&(match aB s.bS h with|none=>true|some _=>false))) with|true=>some {s with fr:=Hb h (.sl f b l) s.fr,st:=wI h (.sl f b l) s.st,last:=xC h s.last}|false=>none)|some (.box d true g)=>(match S.ty d with|some n=>(match EI (S.dd n) g with|some (f,c)=>(match S.put n c with|some a=>(match !(gT h s.lo)&&(!(dI h s.bS)&&(!(TV.has.go h s.df)&&(match aB s.bS h with|none=>true|some _=>false))) with|true=>some {s with fr:=Hb h (.bx f n a) s.fr,st:=wI h (.bx f n a) s.st,last:=xC h s.last}|false=>none)|none=>none)|none=>none)|none=>none)|_=>none
def E5{h:Nat}{z:Fz S}:∀{st:List (Nat×TO S)}{x:Nat}{o:TO S},aB (wI h z st) x=some o->x≠h/\∃b,aB st x=some b/\o=b.fz h z|[],_,_,e=>by cases e|(t,b)::r,x,o,e=>by simp only[wI] at e;cases a:Nat.beq t h with|true=>rw[a] at e;obtain⟨d,f,g,i⟩:=E5 e;refine⟨d,f,?_,i⟩;have:=ab a;subst this;rw[kH _ _ d];exact g|false=>rw[a] at e;simp only[aB] at e|-;cases c:Nat.beq t x with|true=>rw[c] at e;cases e;refine⟨?_,b,rfl,rfl⟩;intro e;subst e;have:=ab c;subst this;rw[aW] at a;cases a|false=>rw[c] at e;exact E5 e
def KM{h:Nat}{z:Fz S}:∀(st:List (Nat×TO S)),aB (wI h z st) h=none:=by intro st;cases e:aB (wI h z st) h with|none=>rfl|some o=>exact absurd rfl (E5 e).1
def Zx(h:Nat)(z:Fz S)(o:TO S):(o.fz h z).len=o.len:=by cases o <;> rfl
def yr{h:Nat}{z:Fz S}{x:Nat}(hx:x≠h):∀{st:List (Nat×TO S)},aB (wI h z st) x=(aB st x).map (TO.fz h z)|[]=>rfl|(t,c)::r=>by simp only[wI,aB];cases b:Nat.beq t h with|true=>have:=ab b;subst this;(have:Nat.beq t x=false:=by cases a:Nat.beq t x with|true=>exact absurd (ab a).symm hx|false=>rfl);rw[this];exact yr hx|false=>simp only[aB];cases Nat.beq t x with|true=>rfl|false=>exact yr hx
def LF{h:Nat}{z:Fz S}:∀{fr:List (Nat×TV S)}{t:Nat},bw (Hb h z fr) t=(bw fr t).map (TV.fz h z)|[],_=>rfl|(a,v)::r,t=>by simp only[Hb,bw];cases Nat.beq a t with|true=>rfl|false=>exact LF
def rp{fr a:List (Nat×TV S)}{t:Nat}:bw (fr++a) t=match bw fr t with|some v=>some v|none=>bw a t:=by induction fr with|nil=>rfl|cons x r b=>obtain⟨k,g⟩:=x;simp only[b7,bw];cases Nat.beq k t with|true=>rfl|false=>exact b
def eH{st st':List (Nat×TO S)}{t:Nat}:aB (st++st') t=match aB st t with|some v=>some v|none=>aB st' t:=by induction st with|nil=>rfl|cons x r a=>obtain⟨k,g⟩:=x;simp only[b7,aB];cases Nat.beq k t with|true=>rfl|false=>exact a
mutual
theorem Rd {h:Nat}{z:Fz S}:∀v:TV S,v.has h=false→v.fz h z=v
 | .aE _ _ _,_=>rfl
 | .ptr _ _ _,_=>rfl
 | .agg vs,e=>congrArg TV.agg (zq vs e)
 | .bE vs,e=>congrArg TV.bE (zq vs e)
 | .bf g vs,e=>congrArg (TV.bf g) (zq vs e)
 | .loc h' o,e=>by simp only[TV.has] at e;simp only[TV.fz,e]
 | .iU h' _ _ _,e=>by simp only[TV.has] at e;simp only[TV.fz,e]
 | .aN h' _,e=>by simp only[TV.has] at e;simp only[TV.fz,e]
 | .sub h' _ _ _,e=>by simp only[TV.has] at e;simp only[TV.fz,e]
 | .da h',e=>by simp only[TV.has] at e;simp only[TV.fz,e]
 | .mp h',e=>by simp only[TV.has] at e;simp only[TV.fz,e]
 | .ks _ _ _ _,_=>rfl
 | .kp _ _ _ _,_=>rfl
 | .iQ _ _ _ _ _,_=>rfl
 | .gG _ _ _,_=>rfl
 | .ee _ _,_=>rfl
 | .val _,_=>rfl
 | .any,_=>rfl
theorem zq {h:Nat}{z:Fz S}:∀vs:List (TV S),TV.has.go h vs=false→TV.fz.go h z vs=vs
 | [],_=>rfl
 | v::r,e=>by
  simp only[TV.has.go,bj] at e;simp only[TV.fz.go,Rd v e.1,zq r e.2]
end
structure Jx (st st':List (Nat×aw)) (ln ln':Nat→Nat) (h:Nat) (z:Fz S):Prop where
 get:match z with
  | .sl f τ l=>ln h=l.length∧∃bP,az st h=some ⟨bP,true,true,f,S.sz τ,List.flatMap (aX S τ) l,none⟩
  | .bx f n a=>∃bP sz,az st h=some ⟨bP,true,true,f,sz,aX S (.st n) a,none⟩
 gone:az st' h=none
 Nw:∀x k,az st' x=some k→∃k0,az st x=some k0
 agree:kT ln ln' h
def Zt{st st':List (Nat×aw)}{ln ln':Nat->Nat}{h:Nat}{f:Bool}{τ:Ty}{l:List (S.D τ)}(H:Jx (S:=S) st st' ln ln' h (.sl f τ l)):jj st st' (.aN h (S.sz τ) 0 (ln h))=some ((TV.aE f (.list τ) l:TV S).er ln'):=by obtain⟨b,c,a⟩:=H.get;rw[wg];simp only[jj,H.gone,a,b,ib];rw[dc (by rw[kz];exact aH _)];cases f <;> rfl
def Zv{st st':List (Nat×aw)}{ln ln':Nat->Nat}{h:Nat}{f:Bool}{n:Nat}{a:S.α n}(H:Jx (S:=S) st st' ln ln' h (.bx f n a)):jj st st' (.loc h 0)=some ((TV.aE f (.pt n) (some a:Option (S.α n)):TV S).er ln'):=by obtain⟨c,d,b⟩:=H.get;simp only[jj,H.gone,b,Ra,cond_true,ib];cases f <;> rfl
mutual
theorem W8 {st st':List (Nat×aw)}{ln ln':Nat→Nat}{h:Nat}{z:Fz S}(H:Jx (S:=S) st st' ln ln' h z):∀v:TV S,CV st st' (v.er ln) ((v.fz h z).er ln')
 | .aE _ _ _=>CV.refl _ _ _
 | .ptr _ _ _=>CV.refl _ _ _
 | .agg vs=>CV.agg (uM H vs)
 | .bE vs=>CV.bE (uM H vs)
 | .bf g vs=>CV.bf (uM H vs)
 | .loc h' o=>by
  simp only[TV.fz];cases hb:Nat.beq h' h with
  | true=>
   have:=ab hb;subst this;cases z with
   | sl f τ l=>exact CV.any _ _ _
   | bx f n a=>
    dsimp only[Fz.loc];cases ho:Nat.beq o 0 with
    | true=>
     have:=ab ho;subst this;exact CV.fz H.Nw (Zv H)
    | false=>exact CV.any _ _ _
  | false=>exact CV.refl _ _ _
 | .iU h' _ _ _=>by
  simp only[TV.fz];cases Nat.beq h' h with
  | true=>exact CV.any _ _ _
  | false=>exact CV.refl _ _ _
 | .aN h' τ'=>by
  simp only[TV.fz];cases hb:Nat.beq h' h with
  | true=>
   have:=ab hb;subst this;cases z with
   | bx f n a=>exact CV.any _ _ _
   | sl f τ l=>
    dsimp only[Fz.aN];split
    ·rename_i e _;subst e;exact CV.fz H.Nw (Zt H)
    ·exact CV.any _ _ _
  | false=>
   show CV st st' (.aN h' _ 0 (ln h')) (.aN h' _ 0 (ln' h'));rw[H.agree h' fun e=>by subst e;rw[aW] at hb;cases hb];exact CV.refl _ _ _
 | .sub h' _ _ _=>by
  simp only[TV.fz];cases Nat.beq h' h with
  | true=>exact CV.any _ _ _
  | false=>exact CV.refl _ _ _
 | .da h'=>by
  simp only[TV.fz];cases Nat.beq h' h with
  | true=>exact CV.any _ _ _
  | false=>exact CV.refl _ _ _
 | .mp h'=>by
  simp only[TV.fz];cases Nat.beq h' h with
  | true=>exact CV.any _ _ _
  | false=>exact CV.refl _ _ _
 | .ks _ _ _ _=>CV.refl _ _ _
 | .kp _ _ _ _=>CV.refl _ _ _
 | .iQ _ _ _ _ _=>CV.refl _ _ _
 | .gG _ _ _=>CV.refl _ _ _
 | .ee _ _=>CV.refl _ _ _
 | .val _=>CV.refl _ _ _
 | .any=>CV.refl _ _ _
theorem uM {st st':List (Nat×aw)}{ln ln':Nat→Nat}{h:Nat}{z:Fz S}(H:Jx (S:=S) st st' ln ln' h z):∀vs:List (TV S),Us st st' (TV.er.go ln vs) (TV.er.go ln' (TV.fz.go h z vs))
 | []=>⟨rfl,fun j g' hg'=>by simp[TV.fz.go,TV.er.go] at hg'⟩
 | v::r=>by
  obtain⟨h1,h2⟩:=uM H r;refine⟨by simp only[TV.fz.go,TV.er.go,bQ,h1],fun j g' hg'=>?_⟩;simp only[TV.fz.go,TV.er.go] at hg'⊢;cases j with
  | zero=>cases hg';exact⟨_,rfl,W8 H v⟩
  | succ j=>exact h2 j g' hg'
end
def ZA{st st':List (Nat×aw)}{ln ln':Nat->Nat}{h:Nat}{z:Fz S}(H:Jx (S:=S) st st' ln ln' h z)(o:TO S):xi st st' (o.er ln) ((o.fz h z).er ln'):=by cases o with|box e m a=>exact⟨rfl,id,rfl,rfl,rfl,(uM H a).1,.inr ⟨rfl,(uM H a).2⟩⟩|arr e m f b l=>exact xi.refl _ _ _|lp p n a=>exact⟨rfl,id,rfl,rfl,rfl,(uM H a).1,.inr ⟨rfl,(uM H a).2⟩⟩|deep=>exact xi.refl _ _ _
def uy{k:Nat}:∀{st:List (Nat×TO S)}{x:Nat}{o:TO S},aB st x=some o->dI k st=false->o.has k=false|[],_,_,h,_=>by cases h|(t,c)::r,x,o,h,a=>by simp only[dI,bj] at a;simp only[aB] at h;cases b:Nat.beq t x with|true=>rw[b] at h;cases h;exact a.1|false=>rw[b] at h;exact uy h a.2
def Zy{h:Nat}{z:Fz S}{o:TO S}(e:o.has h=false):o.fz h z=o:=by cases o with|box c m a=>simp only[TO.fz];rw[zq a e]|arr e m f b l=>rfl|lp p n a=>simp only[TO.fz];rw[zq a e]|deep=>rfl
def AH{ln:Nat->Nat}:∀{fr:List (Nat×TV S)}{t:Nat}{g:G},AM.get (iC ln fr) t=some g->∃v,bw fr t=some v/\g=v.er ln|[],_,_,h=>by cases h|(k,v)::r,t,g,h=>by simp only[iC,AM.get] at h;simp only[bw];cases a:Nat.beq k t with|true=>rw[a] at h;cases h;exact⟨v,rfl,rfl⟩|false=>rw[a] at h;exact AH h
def uB{ln:Nat->Nat}:∀{st:List (Nat×TO S)}{t:Nat}{k:aw},az (b6 ln st) t=some k->∃o,aB st t=some o/\k=o.er ln|[],_,_,h=>by cases h|(x,o)::r,t,k,h=>by simp only[b6,az] at h;simp only[aB];cases a:Nat.beq x t with|true=>rw[a] at h;cases h;exact⟨o,rfl,rfl⟩|false=>rw[a] at h;exact uB h
def Gh.typed{s t:ae S}(c:∀d a,bw t.cm d=some a->∃v,bw s.cm d=some v/\CV s.er.st t.er.st (v.er s.ln) (a.er t.ln))(e:∀x o',aB t.bo x=some o'->∃o,aB s.bo x=some o/\xi s.er.st t.er.st (o.er s.ln) (o'.er t.ln))(f:TV.er.go s.ln s.df=TV.er.go t.ln t.df):Gh s.er t.er:=by refine Gh.gen (fun d k h=>?_) (fun x l g=>?_) f;obtain⟨a,j,rfl⟩:=AH h;obtain⟨v,i,b⟩:=c d a j;exact⟨_,gd i,b⟩;obtain⟨o',j,rfl⟩:=uB g;obtain⟨o,i,b⟩:=e x o' j;exact⟨_,gv i,b⟩
def W7{s:ae S}{s1:St}{h:Nat}{z:Fz S}(R:aQ s)(T:gT h s.lo=false)(U:dI h s.bS=false)(P:TV.has.go h s.df=false)(A:aB s.bS h=none)(K:s1.fr=s.er.fr)(B:∀x,x≠h->az s1.st x=az s.er.st x)(I:s1.df=s.er.df)(Y:match z with|.sl f τ l=>s.ln h=l.length/\∃C,az s1.st h=some ⟨C,true,true,f,S.sz τ,List.flatMap (aX S τ) l,none⟩|.bx f n a=>∃C sz,az s1.st h=some ⟨C,true,true,f,sz,aX S (.st n) a,none⟩):Gh s1 ({s with fr:=Hb h z s.fr,st:=wI h z s.st,last:=xC h s.last}:ae S).er/\aQ ({s with fr:=Hb h z s.fr,st:=wI h z s.st,last:=xC h s.last}:ae S):=by
 generalize E:({s with fr:=Hb h z s.fr,st:=wI h z s.st,last:=xC h s.last}:ae S)=t;have c:aB t.bo h=none:=by subst E;show aB (wI h z s.st++s.bS) h=none;rw[eH,KM];exact A
 have b:∀{x:Nat},x≠h->∃g:TO S->TO S,(∀o,(g o).len=o.len)/\aB t.bo x=(aB s.bo x).map g/\∀o,aB s.bo x=some o->g o=o.fz h z:=by intro x r;subst E;show ∃g:TO S->TO S,_/\aB (wI h z s.st++s.bS) x=(aB (s.st++s.bS) x).map g/\_;refine⟨TO.fz h z,Zx h z,?_,fun o _=>rfl⟩;rw[eH,eH,yr r];cases j:aB s.st x with|some o=>rfl|none=>show aB s.bS x=(aB s.bS x).map _;cases p:aB s.bS x with|none=>rfl|some o=>rw[cn,Zy (uy p U)]
 have y:kT s.ln t.ln h:=by intro x r;show cw s.bo x=cw t.bo x;obtain⟨g,V,w,_⟩:=b r;unfold cw;rw[w];cases aB s.bo x with|none=>rfl|some o=>exact(V o).symm
 have H:Jx (S:=S) s1.st t.er.st s.ln t.ln h z:={get:=Y,gone:=ss c,Nw:=fun x k Q=>by obtain⟨X,j,_⟩:=uB Q;(have r:x≠h:=fun e=>by subst e;rw[c] at j;cases j);obtain⟨g,_,w,_⟩:=b r;rw[w] at j;obtain⟨o,p,_⟩:=aA.1 j;exact⟨_,by rw[B x r];exact gv p⟩,agree:=y};have u:∀d,bw t.cm d=(bw s.cm d).map (TV.fz h z):=by intro d;subst E;show bw (Hb h z s.fr++s.lo) d=(bw (s.fr++s.lo) d).map _;rw[rp,rp,LF];cases bw s.fr d with|some v=>rfl|none=>show bw s.lo d=(bw s.lo d).map _;cases p:bw s.lo d with|none=>rfl|some v=>rw[cn,Rd v (xT p T)]
 refine⟨Gh.gen (fun d g' J=>?_) (fun x k' N=>?_) ?_,?_⟩;obtain⟨v',D,rfl⟩:=AH J;rw[u] at D;obtain⟨v,j,rfl⟩:=aA.1 D;exact⟨_,by rw[K];exact gd j,W8 H v⟩;obtain⟨X,q,rfl⟩:=uB N;have r:x≠h:=fun e=>by subst e;rw[c] at q;cases q
 obtain⟨g,_,w,L⟩:=b r;rw[w] at q;obtain⟨o,j,p⟩:=aA.1 q;refine⟨_,by rw[B x r];exact gv j,?_⟩;rw[<-p,L o j];exact ZA H o;rw[I];have:t.df=s.df:=by subst E;rfl
 show TV.er.go s.ln s.df=TV.er.go t.ln t.df;rw[this];exact pX y s.df P;intro d G x M;have M:(d,G,x)∈xC h s.last:=by subst E;exact M
 obtain⟨j,p⟩:=vZ M;obtain⟨i,C,m,W,F,Z,a,K,B,I⟩:=R d G x j;refine⟨i,C,m,W,F,Z,a,?_,?_,I⟩;rw[u,K];show some ((TV.iU G F i 0:TV S).fz h z)=_;rw[Rd _ (by simp only[TV.has];cases O:Nat.beq G h with|false=>rfl|true=>exact absurd (ab O) p)];obtain⟨g,_,w,L⟩:=b p;rw[w,B,cn,L _ B];rfl
def Hf{s t:ae S}{h:Nat}(z:aQ s)(hf:DT s h=some t):Gh s.er t.er/\aQ t/\bG s t:=by
 have b:∀{o:Option (TO S)},(match o with|none=>true|some _=>false)=true->o=none:=by intro o h;cases o with|none=>rfl|some _=>cases h
 unfold DT at hf;split at hf;rename_i e f E l d;split at hf;rename_i c;simp only[ag,aT] at c;obtain⟨k,p,g,r⟩:=c;cases hf;obtain⟨i,u⟩:=W7 (s1:=s.er) (z:=.sl f E l) z k p g (b r) rfl (fun _ _=>rfl) rfl ⟨pQ (fZ d),e,eG (fZ d)⟩;exact⟨i,u,⟨rfl,rfl,rfl⟩⟩;cases hf;rename_i e B d;split at hf;rename_i n L;split at hf;rename_i f F q;split at hf;rename_i a J;split at hf;rename_i c;simp only[ag,aT] at c;obtain⟨k,p,g,r⟩:=c;cases hf;have A:=gv (ln:=s.ln) (fZ d);have w:yh (TV.er.go s.ln B) f (aX S (.st n) a):=by obtain⟨G,H⟩:=Dy s.ln q;rw[ir,S.ig n F a J,cW];refine⟨by simp[G],fun j m C=>?_⟩;rw[ao] at C;obtain⟨x,y,rfl⟩:=aA.1 C;obtain⟨v,I,K⟩:=H j x y;exact⟨v.er s.ln,by rw[ao,I];rfl,K⟩
 have D:=Gh.pure (s:=s.er) A rfl rfl (uR (S:=S) (.st n) a) w;obtain⟨i,u⟩:=W7 (s1:=_) (z:=.bx f n a) z k p g (b r) (show({fr:=s.er.fr,st:=dJ s.er.st h {(TO.box e true B:TO S).er s.ln with pure:=true,fresh:=f,cells:=aX S (.st n) a},df:=s.er.df}:St).fr=s.er.fr from rfl) (fun x y=>pj y) rfl ⟨e,0,(tv A).trans rfl⟩;exact⟨D.trans i,u,⟨rfl,rfl,rfl⟩⟩;cases hf;cases hf;cases hf;cases hf;cases hf
end
end Go.DN
