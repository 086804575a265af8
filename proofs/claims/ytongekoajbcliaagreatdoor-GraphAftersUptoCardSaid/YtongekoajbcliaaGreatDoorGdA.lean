/-
  Graphs: the plain law of their dimensions: parameters; one node.
-/
import Derived.Test.YtongekoajbcliaaGreatDoorWtA
set_option linter.all false
set_option maxRecDepth 20000
namespace Go.DN.Pl
open Go.AM Go.PL
def Nf{α a c:Type}(f:α->Option a)(g:a->c):∀l:List α,(l.findSome? fun x=>(f x).map g)=(l.findSome? f).map g|[]=>rfl|x::r=>by rw[dX,dX];cases f x with|some b=>rfl|none=>exact Nf f g r
def um(x:ai):Bool:=x.Op.Kind !=1
def Co(nodes:List ai)(k:Nat):Option Nat:=match nodes[k]? with|some x=>if um x then some k else none|none=>none
def yq(nodes:List ai):Option Nat:=(List.range nodes.length).findSome? (Co nodes)
def bF(nodes:List ai):Nat:=(yq nodes).getD nodes.length
def XE{nodes:List ai}{k:Nat}(h:yq nodes=some k):k<nodes.length:=by obtain⟨j,c,a⟩:=List.exists_of_findSome?_eq_some h;unfold Co at a;split at a;rename_i x b;split at a;cases a;exact bO b;cases a;cases a
def tA(nodes:List ai):bF nodes<=nodes.length:=by unfold bF;cases h:yq nodes with|none=>exact aH _|some k=>exact Nat.le_of_lt (XE h)
def Mj{body:Int->Option (Int⊕Ex Unit Int)}(nodes:List ai)(hn:nodes.length<=4000000)(a:∀(k:Nat) x,nodes[k]?=some x->body (k:Int)=some (if um x then .inr (.ret (k:Int)) else .inl ((k+1:Nat):Int)))(b:body (nodes.length:Int)=some (.inr (.bL ())))(fu:Nat)(hf:4000000<fu):aL body fu 0=some (match yq nodes with|some k=>.ret (k:Int)|none=>.bL ()):=by have:=gL (body:=body) nodes.length (fun k=>(k:Int)) (fun k=>(Co nodes k).map fun (j:Nat)=>Ex.ret (j:Int)) (.bL ()) (fun k d _=>by have c:=af d;rw[a k _ c];unfold Co;rw[c];simp only;cases um nodes[k] <;> rfl) (fun _=>b) fu (by omega);rw[show((0:Nat):Int)=0 from rfl] at this;rw[this,Nf];unfold yq;cases (List.range nodes.length).findSome? (Co nodes) <;> rfl
def Cn(fu:Nat)(g:bn)(hn:g.ah.length<=4000000)(hf:4000000<fu):F.nP fu g=some (bF g.ah:Int):=by have h:=Mj (body:=F.kF fu g.ah) g.ah hn (fun k x a=>by simp only[F.kF,F.tL,dec_lt a,cond_true,aC a,aa,aP (bO a) (by omega)];unfold um;cases (x.Op.Kind !=1) <;> rfl) (by simp only[F.kF,bq,cond_false]) fu hf;unfold F.nP F.pJ bF;rw[h];cases b:yq g.ah with|none=>simp only[aY,aa,en (show((-1:Int)<0) by omega),cond_true];rfl|some k=>simp only[aY,aa,cG (show ¬((k:Int)<0) by omega),cond_false];rfl
def sA(fu:Nat)(g:bn)(hn:g.ah.length<=4000000)(hf:4000000<fu):F.iw fu g=some (bF g.ah:Int):=by have h:=Mj (body:=F.kN fu g) g.ah hn (fun k x a=>by simp only[F.kN,dec_lt a,cond_true,aC a,aa,aP (bO a) (by omega)];unfold um;cases (x.Op.Kind !=1) <;> rfl) (by simp only[F.kN,bq,cond_false]) fu hf;unfold F.iw bF;rw[h];cases b:yq g.ah with|none=>simp only[aY];rfl|some k=>simp only[aY];rfl
def jz(i:Nat)(a:Int):Bool:=decide (a<0)||decide (a>=(i:Int))
def uS(b:List (List Int))(args:List Int):List (List Int):=args.map fun a=>b.getD a.toNat []
def Yh{b:List (List Int)}{args:List Int}{k:Nat}{a:Int}(h:args[k]?=some a)(hb:jz b.length a=false):idx b a=some (b.getD a.toNat [])/\uS b (args.take (k+1))=uS b (args.take k)++[b.getD a.toNat []]:=by
 unfold jz at hb;rw[bj] at hb;have d:¬(a<0):=by simpa using hb.1
 have e:¬(a>=(b.length:Int)):=by simpa using hb.2
 refine⟨?_,?_⟩;have c:a.toNat<b.length:=by omega
 have:idx b ((a.toNat:Nat):Int)=some (b.getD a.toNat []):=aC (by rw[bl,af c];rfl);rwa[show((a.toNat:Nat):Int)=a by omega] at this;unfold uS;rw[take_succ h,cS];rfl
def T1(a:List (List Int))(args:List Int):(uS a args).length=args.length:=by unfold uS;simp
def DE(a:List (List Int)):Prop:=∀d∈a,d.length<=6
def IY{b:List (List Int)}{args:List Int}(h:DE b)(f:args.length<=1048576):zg (uS b args):=by refine⟨by rw[T1];exact f,fun d c=>?_⟩;unfold uS at c;obtain⟨a,_,rfl⟩:=eL.1 c;rw[bl];cases e:b[a.toNat]? with|none=>simp|some d=>have:=h d (ak e);show d.length<=1048576;omega
def PM{i:Type}{body:Int×List (List Int)->Option ((Int×List (List Int))⊕i)}(b:List (List Int))(args:List Int)(e:i)(c:List (List Int)->i)(r:args.length<=1048576)(f:∀(k:Nat) a m,args[k]?=some a->m.length=k->(jz b.length a=true->body ((k:Int),m)=some (.inr e))/\(jz b.length a=false->∀d,idx b a=some d->body ((k:Int),m)=some (.inl (((k+1:Nat):Int),m++[d]))))(g:∀m,body ((args.length:Int),m)=some (.inr (c m)))(fu:Nat)(hf:4000000<fu):aL body fu (0,[])=some (if args.any (jz b.length) then e else c (uS b args)):=by have:=oa (body:=body) args (fun k=>((k:Int),uS b (args.take k))) (fun a=>if jz b.length a then some e else none) (c (uS b args)) (fun k a h=>by obtain⟨n,o⟩:=f k a (uS b (args.take k)) h (by rw[T1];exact ox h);cases j:jz b.length a with|true=>rw[n j];rfl|false=>obtain⟨p,q⟩:=Yh h j;rw[o j _ p,q];rfl) (by simp only[bM];exact g _) fu (by omega);have l:(((0:Nat):Int),uS b (args.take 0))=((0:Int),([]:List (List Int))):=rfl;simp only[l] at this;rw[this,gW];cases args.any (jz b.length) <;> rfl
noncomputable def DS(fu:Nat)(op:cq)(args:List (List Int)):List Int×Int:=(F.fo fu op args).getD ([],0)
def RZ(fu:Nat)(op:cq)(args:List (List Int))(ho:wB op)(c:zg args)(hf:4000000<fu):F.fo fu op args=some (DS fu op args)/\F.iy fu op args=some (DS fu op args)/\(DS fu op args).1.length<=6:=by
 obtain⟨r,a,d,b,_⟩:=T2 fu op args ho c hf;have:DS fu op args=r:=by unfold DS;rw[a];rfl
 rw[this];exact⟨a,d,b⟩
def HR(p:Int)(op:cq)(i:Nat):Bool:=decide ((i:Int)>=p)||(((op.At.length:Int) !=1)||(op.At.getD 0 0 !=(i:Int)))
def N2(p:Int)(op:cq)(i:Nat):(cond (decide ((i:Int)>=p)) (some true) (cond ((op.At.length:Int) !=1) (some true) ((idx op.At 0).bind fun x=>some (x !=(i:Int)))))=some (HR p op i):=by unfold HR;cases decide ((i:Int)>=p) with|true=>rfl|false=>by_cases h:(op.At.length:Int)=1;obtain⟨a,b⟩:=CB (show op.At.length=1 by omega);rw[b,oz];rfl;rw[bne_true h];rfl
noncomputable def lg(fu:Nat)(p:Int)(x:ai)(a:List (List Int)):List Int×Int:=if x.bU.any (jz a.length) then([],10) else if um x then DS fu x.Op (uS a x.bU) else if HR p x.Op a.length then([],7) else if decide ((x.bU.length:Int)>0) then([],2) else(x.Op.av,(cv x.Op.av).2)
def Mq(x:ai):Prop:=wB x.Op/\x.bU.length<=1048576
def XQ(fu:Nat)(p:Int)(x:ai)(b:List (List Int))(hx:Mq x)(ho:DE b)(r:b.length<=5000)(hf:4000000<fu):F.sJ fu x (b.length:Int) p b=some ((lg fu p x b).1,(lg fu p x b).2,b):=by have i:=PM (body:=F.mP fu x (b.length:Int) b) b x.bU (.ret (([]:List Int),10,b)) .bL hx.2 (fun k a m h o=>by have j:=hx.2;have f:=bO h;have c:(cond (decide (a<0)) (some true) (some (decide (a>=(b.length:Int)))))=some (jz b.length a):=cc _ _;refine⟨fun e=>?_,fun e d g=>?_⟩;simp only[F.mP,dec_lt h,cond_true,aC h,aa,c,e];have l:ba (m.length+[d].length<=maxLen/\(m.length+[d].length)*24<=140737488355328)=some ():=b8 (by simp only[aj];omega) (by simp only[aj];omega);simp only[F.mP,dec_lt h,cond_true,aC h,aa,c,e,cond_false,g,l,aP f (by omega)]) (fun m=>by simp only[F.mP,bq,cond_false]) fu hf;unfold F.sJ;rw[i];unfold lg;cases e:x.bU.any (jz b.length) with|true=>rfl|false=>obtain⟨n,_,_⟩:=RZ fu x.Op (uS b x.bU) hx.1 (IY ho hx.2) hf;simp only[if_neg ja,aY];unfold um;cases f:(x.Op.Kind !=1) with|true=>simp only[cond_true,n,aa,if_pos]|false=>simp only[cond_false,N2,aa,if_neg ja];cases s:HR p x.Op b.length with|true=>rfl|false=>simp only[cond_false,if_neg ja];cases q:decide ((x.bU.length:Int)>0) with|true=>rfl|false=>have g:x.Op.av.length<=1048576:=hx.1.1;simp only[cond_false,if_neg ja,rJ fu x.Op.av (by omega) hf,j6 fu x.Op.av (by omega),aa]
def Vc(fu:Nat)(p:Int)(x:ai)(a:List (List Int))(hx:Mq x)(ho:DE a)(hf:4000000<fu)(h:(lg fu p x a).2=0):(lg fu p x a).1.length<=6:=by unfold lg at h|-;split;simp;rename_i c;rw[if_neg c] at h;split;exact(RZ fu x.Op (uS a x.bU) hx.1 (IY ho hx.2) hf).2.2;rename_i d;rw[if_neg d] at h;split;simp;rename_i e;rw[if_neg e] at h;split;simp;rename_i b;rw[if_neg b] at h;exact(lc h).1
def JZ(fu:Nat)(p:Int)(x:ai)(a:List (List Int))(h:(lg fu p x a).2=0):x.bU.any (jz a.length)=false:=by unfold lg at h;cases b:x.bU.any (jz a.length) with|false=>rfl|true=>rw[b,if_pos rfl] at h;exact absurd h (by simp)
end Go.DN.Pl
