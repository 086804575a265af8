/-
  From a e8 to what a row asks.
-/
import Derived.Test.YtongekoajbcliaaGreatDoorMgB
import Derived.Test.YtongekoajbcliaaGreatDoorRows
import Derived.WalkKit
import Derived.ProofKit
import Derived.OpenShut
import Derived.JoinedCond
import Derived.Deep.Slices
import Derived.WideKeyArgs
set_option linter.all false
/-
 AM,part Z:from a e8 to what a row asks.
-/
namespace Go.AM
structure yV (W W':World):Prop where
 os:W'.os=W.os
 output:W'.output=W.output
 size:W.heap.size≤W'.heap.size
 heap:∀b,b<W.heap.size→W'.heap[b]?=W.heap[b]?
def yV.frame{W b:World}(h:yV W b)(a:MemPlace->Prop):W.keptBut b a:=by refine⟨h.os,h.output,fun i c=>?_⟩;rw[h.heap i c];cases W.heap[i]? with|none=>exact rfl|some o=>cases o <;> first|exact⟨rfl,rfl,rfl,fun _ _=>rfl⟩|exact .inr ⟨rfl,rfl⟩|exact rfl
theorem SE (W:World) (μ:Mu) (hgl:Jw (fun _=>False) W.heap.size W):cM (jl (fun _=>False) [] μ W) μ [] W where
 gl:=fun p hp=>⟨(hgl p hp).1,fun (ha:Own [] μ p.1)=>oW ha,(hgl p hp).2.2⟩
 ez:=fun h k hk=>by cases hk
 dr:=fun h h' k k' y b m b' m' hk=>by cases hk
 cy:=fun h k b m y hk=>by cases hk
 fJ:=fun h k hk=>by cases hk
 fq:=fun b hb=>hb.elim
 hb:=aH _
 os:=rfl
 tape:=rfl
 output:=rfl
 dB:=fun _ _ _=>rfl
def Arg(W:World)(g:G)(v:Value):Prop:=bN (fun _=>False) W g v
def GM.calls{P:Program}{f:FuncId}{args:List G}{x:Value}(h:GM P f args [] (fun g st=>g=.val x/\st=[]))(W:World)(vs:List Value)(q:vs.length=args.length)(y:∀(j:Nat) (g:G) (v:Value),args[j]?=some g->vs[j]?=some v->Arg W g v)(l:Jw (fun _=>False) W.heap.size W:=by intro _ h;cases h):Calls P f vs.toArray W fun e o=>e=.returned x/\yV W o:=by refine(h.returned (fun _=>False) (fun _=>none) W vs (fun _ h=>h.elim) (SE W _ l) q (fun j g v t a=>.aG ((y j g v t a).mono (Kept.refl _ _) fun b _ _ i=>?_))).mono fun e o s=>?_;rcases i with i|⟨h,k,c,m,n,_⟩;exact i;cases n;obtain⟨v,r,u,w,rfl,⟨rfl,rfl⟩,d,a⟩:=s;cases a with|aG a=>cases a with|val=>exact⟨rfl,d.os,d.output,d.hb,fun b p=>d.dB b p fun ⟨h,k,c,m,n,_⟩=>by cases n⟩
section
variable {H:Type}{gK:TypeId×Value→H}{P:Program}
open Go.ChangeShapes Go.WideShapes Go.ChangeAt Go.RowKit
def yV.frozen{W b:World}(h:yV W b)(a:Addr)(c:a.block<W.heap.size):b.frozen? a=W.frozen? a:=by unfold World.frozen?;rw[h.heap _ c]
def Mg{f:Func}{s:ChangeSpec}{e fresh d m:Bool}{W n:World}{args:Array Value}{v:Value}{u gs:List (DataW H)}{a pa pv:List MemPlace}(x:DataW.Whole gK P f.params.toList s.vars e W args.toList u gs a)(A:yV W n)(h:∀(b:Nat) (l:Nat->Bool) (hd:Bool),DataW.TrodAll gK P n b l hd f.resultTypes.toList (v.resultList f.resultTypes.size) (s.fn H (u++gs)).results [])(c:∀l:Nat->Bool,(∀p∈a,l p.block=true)->DataW.TrodAll gK P n 0 l true f.params.toList args.toList (s.fn H (u++gs)).args pa)(g:∀l:Nat->Bool,(∀p∈a,l p.block=true)->DataW.TrodVars gK P n l s.vars (s.fn H (u++gs)).vars pv)(y:a=pa++pv)(z:∀(j:Nat) (t:TypeId) (r:Value),f.resultTypes[j]?=some t->(v.resultList f.resultTypes.size)[j]?=some r->Value.okWide P n .any 0 t r):s.post gK P f e fresh d m W args v n:=by
 have q:=x.lt;have k:∀p∈a,(fun b=>decide (b<W.heap.size)) p.block=true:=fun p i=>by simpa using q p i
 obtain⟨_,_,_,_,_,D,B⟩:=id x;subst y;refine⟨u,gs,pa++pv,[],pa,pv,x,h _ _ _,c _ k,g _ k,World.keptBut_mono (fun p i=>⟨i,.inr (by simpa using i)⟩) (A.frame _),fun _=>⟨z,_,_,([]++pa)++pv,⟨[]++pa,pv,trodAll_append (c _ (fun _ _=>rfl)) (h _ _ _),g _ (fun _ _=>rfl),rfl,?_,?_⟩,?_⟩⟩;intro b o i;have w:MemPlace.cell b o∈pa++pv:=by simpa using i
 rw[A.frozen _ (q _ w)];exact D b o w;intro C;simpa using B C;intro p i _;simpa using i
end
def xg(W:World)(gs:List G)(cs:List Value):Prop:=cs.length=gs.length/\∀(j:Nat) (g:G) (v:Value),gs[j]?=some g->cs[j]?=some v->Arg W g v
def oJ(P:Program)(t:TypeId)(α:Type)[aI α](ok:α->Prop):Prop:=∀{H:Type}(e:TypeId×Value->H) (W:World) (c:Nat) (f:Nat->Bool) (b:Bool) (g:Nat) (d:List Value) (x:DataW H×List MemPlace),DataW.trod e P W c f b g t d=some x->∃a:α,ok a/\xg W (aI.cells a) d
def xg.one{W:World}{g:G}{v:Value}(h:Arg W g v):xg W [g] [v]:=by refine⟨rfl,fun j c d a b=>?_⟩;match j with|0=>cases a;cases b;exact h|j+1=>cases a
section
variable {P:Program}
def oJ.int{t:TypeId}(ht:P.underlying t=some (.int .i64)):oJ P t Int Cs:=fun e W a d b f g x h=>by obtain⟨n,rfl,_,c⟩:=DataW.trod_int ht h;refine⟨n,?_,.one (.val _)⟩;simpa[Cs,Lit.wf,IntKind.min,IntKind.max,IntKind.signed,IntKind.bits] using c
def oJ.slice{t e:TypeId}{α:Type}[aI α]{ok:α->Prop}(ht:P.underlying t=some (.slice e))(hc:P.cellsOf e=aI.sz α)(he:oJ P e α ok):oJ P t (List α) (abd ok):=fun gK W u sp M bK cs x h=>by rcases Go.Deep.open_slice ht h with ⟨rfl,_⟩|⟨a,w,L,m,n,D,Pl,rfl,_,hl,hm,H,R,I⟩;exact⟨[],⟨iO _,fun x J=>by cases J⟩,.one .nil⟩;(have U:w<=m:=by rw[H];split <;> omega);rcases jX w with V|V;subst V;exact⟨[],⟨iO _,fun x J=>by cases J⟩,.one (.jk a L)⟩;(have C:∀i,i<w->∃(p:List Value) (b:α),W.cells? u (a.add (i*aI.sz α)) (aI.sz α)=some p/\ok b/\xg W (aI.cells b) p:=fun i z=>by obtain⟨p,B,E⟩:=I i (by omega);obtain⟨b,q,F⟩:=he gK W u sp M n p _ E;rw[hc] at B;exact⟨p,b,B,q,F⟩);(have S:∃(l:List α) (d:Nat->List Value),l.length=w/\∀i b,l[i]?=some b->W.cells? u (a.add (i*aI.sz α)) (aI.sz α)=some (d i)/\ok b/\xg W (aI.cells b) (d i):=by clear h I hl U H V R;induction w with|zero=>exact⟨[],fun _=>[],rfl,fun i b o=>by cases o⟩|succ k ih=>obtain⟨l,d,B,E⟩:=ih (fun i z=>C i (by omega));obtain⟨p,b,q,F,Q⟩:=C k (by omega);refine⟨l++[b],fun i=>if i=k then p else d i,by simp[B],fun i b' o=>?_⟩;rw[bZ] at o;split at o;rename_i z;(have T:i≠k:=by omega);simp only[T,if_false];exact E i b' o;rename_i z;(have:i=k:=by have:=(ap.1 o).1;simp at this;omega);subst this;rw[B,Nat.sub_self] at o;cases o;simp only[if_true];exact⟨q,F,Q⟩);obtain⟨l,d,B,E⟩:=S;(have f:∀(i:Nat) (b:α),l[i]?=some b->∀r,r<aI.sz α->W.cell? ((a.add (i*aI.sz α)).add r)=(d i)[r]?/\(d i).length=aI.sz α:=fun i b o r G=>by obtain⟨q,_,Q⟩:=E i b o;obtain⟨_,h6,h7⟩:=World.cells?_some q;exact⟨h7 r G,h6⟩);(have A:∃v,W.cell? a=some v:=by obtain⟨b,o⟩:∃b,l[0]?=some b:=⟨l[0]'(by omega),af _⟩;obtain⟨q,F⟩:=f 0 b o 0 aI.pos;(have e:(a.add (0*aI.sz α)).add 0=a:=by simp[Addr.add]);rw[e] at q;exact⟨_,q.trans (af (by rw[F];exact aI.pos))⟩);obtain⟨v0,y⟩:=A;(have K:a.spot=none/\a.block<W.heap.size:=by unfold World.cell? at y;split at y;rename_i c _ _ o;split at y;cases y;rename_i hs;exact⟨by simpa using hs,(ie.1 o).1⟩;cases y);obtain⟨b,s,Z⟩:=a;obtain⟨rfl,o⟩:=K;simp only[Addr.lK] at f;refine⟨l,⟨by rw[B];simp only[maxLen] at hm;omega,fun x J=>?_⟩,.one ?_⟩;obtain⟨i,z⟩:=cF J;exact(E i x z).2.1;rw[<-B];refine .sl l.length (cz l) b s L (fun j=>(W.cell? ⟨b,s+j,none⟩).getD undef) (by omega) (fun h=>h) o (fun j O=>?_) (fun j g Y=>?_);rw[fN] at O;have z:j/aI.sz α<l.length:=pE (by rwa[k6] at O);have G:j%aI.sz α<aI.sz α:=Nat.mod_lt _ aI.pos;obtain⟨q,F⟩:=f (j/aI.sz α) _ (af z) _ G;(have e:s+j/aI.sz α*aI.sz α+j%aI.sz α=s+j:=by have:=Nat.div_add_mod j (aI.sz α);rw[k6] at this;omega);rw[e] at q;rw[q,af (by omega)];rfl;have O:=(ap.1 Y).1;rw[fN] at O;have z:j/aI.sz α<l.length:=pE (by rwa[k6] at O);have G:j%aI.sz α<aI.sz α:=Nat.mod_lt _ aI.pos;obtain⟨q,F⟩:=f (j/aI.sz α) _ (af z) _ G;obtain⟨_,_,Q⟩:=E _ _ (af z);(have e:s+j/aI.sz α*aI.sz α+j%aI.sz α=s+j:=by have:=Nat.div_add_mod j (aI.sz α);rw[k6] at this;omega);rw[e] at q;have N:=rC (af z) G;(have e2:j/aI.sz α*aI.sz α+j%aI.sz α=j:=by omega);rw[e2,Y] at N;have X:=af (l:=d (j/aI.sz α)) (i:=j%aI.sz α) (by omega);rw[q,X];exact Q.2 _ _ _ N.symm X
def u0(W:World)(gs:List G)(cs:List Value)(off:Nat):Prop:=∀(j:Nat) (g:G),gs[j]?=some g->∃v,cs[off+j]?=some v/\Arg W g v
def xg.at{W:World}{gs:List G}{cs:List Value}{off sz:Nat}(h:xg W gs ((cs.drop off).take sz)):u0 W gs cs off:=fun j g b=>by have c:=(ap.1 b).1;rw[<-h.1] at c;have a:=af c;refine⟨_,?_,h.2 j g _ b a⟩;rw[br] at a;split at a;rw[bC] at a;exact a;cases a
def u0.append{W:World}{c d:List G}{cs:List Value}{off a:Nat}(h1:u0 W c cs off)(ho:a=off+c.length)(h2:u0 W d cs a):u0 W (c++d) cs off:=fun j g b=>by rw[bZ] at b;split at b;exact h1 j g b;rename_i h;obtain⟨v,f,e⟩:=h2 _ g b;exact⟨v,by rw[<-f,ho];congr 1;omega,e⟩
def u0.all{W:World}{gs:List G}{cs:List Value}(h:u0 W gs cs 0)(e:cs.length=gs.length):xg W gs cs:=⟨e,fun j g v c d=>by obtain⟨f,a,b⟩:=h j g c;rw[dl,d] at a;cases a;exact b⟩
end
section
variable {H:Type}{gK:TypeId×Value→H}{P:Program}
open Go.ChangeShapes Go.WideShapes Go.ChangeAt Go.RowKit
def yV.at{W c:World}(h:yV W c)(p:MemPlace)(a:p.block<W.heap.size):W.sameAt c p:=by cases p with|cell b d=>exact World.cell?_of_block (h.heap b a)|map b=>exact h.heap b a
def SB{W i:World}(l:laidOutB P=true)(m:yV W i):∀{ts:List TypeId}{vs:List Value}{g:List (DataW H)}{c:List MemPlace}{f:Nat->Bool},(∀t∈ts,P.readableRec t=true/\t<P.types.size)->DataW.TrodAll gK P W 0 (fun _=>true) true ts vs g c->(∀p∈c,p.block<W.heap.size)->(∀p∈c,f p.block=true)->DataW.TrodAll gK P i 0 f true ts vs g c|[],[],[],_,_,_,h,_,_=>h|t::ts,v::vs,d::g,_,f,k,⟨p,q,u,o,e⟩,b,j=>by subst e;obtain⟨r,s⟩:=k t (au ..);exact⟨p,q,Go.WideElems.Trod_stays l r s u (fun x a=>m.at x (b x (ca _ a))) (fun x a=>j x (ca _ a)),SB l m (fun w n=>k w (ar _ n)) o (fun x a=>b x (cA _ a)) (fun x a=>j x (cA _ a)),rfl⟩
def U2{f:Func}{s:ChangeSpec}{W l:World}{args:Array Value}{o:TypeId}{k gs:List (DataW H)}{a:List MemPlace}(m:s.vars=[])(n:f.resultTypes=#[o])(hb:P.underlying o=some .bool)(u:laidOutB P=true)(e:∀t∈f.params.toList,P.readableRec t=true/\t<P.types.size)(g:DataW.Whole gK P f.params.toList s.vars false W args.toList k gs a)(r:yV W l)(b:gs=[]->s.fn H (k++gs)={results:=[.lit (.bool true)],args:=k}):s.post gK P f false true false false W args (.bool true) l:=by
 have i:=g.lt;obtain⟨p,q,w,h,rfl,y,z⟩:=id g;have j:gs=[]/\q=[]:=by rw[m] at h;cases gs with|nil=>exact⟨rfl,h⟩|cons _ _=>exact h.elim
 obtain⟨rfl,rfl⟩:=j;refine Mg (pa:=p) (pv:=[]) g r (fun _ _ _=>?_) (fun v c=>?_) (fun v c=>?_) rfl (ok_one n rfl (okWide_bool_mk hb _));rw[n,b rfl];exact trodAll_cons_mk (shut_bool hb _) trodAll_mk0;rw[b rfl];exact SB u r e w (fun x d=>i x (ca _ d)) (fun x d=>c x (ca _ d));rw[b rfl,m];rfl
end
end Go.AM
/-
 AM,part Zu:arguments of small bulk,opened.
-/
namespace Go.Proofs.YtongekoajbcliaaGreatDoor.Up
open Go.AM
open Go.Proofs.YtongekoajbcliaaGreatDoor.Rows (uptoBulk uptoBulkAll uptoSmall)
open Go.Deep
def Ai{α:Type}(ok:α->Prop)(l:List α):Prop:=l.length<=1048576/\∀x∈l,ok x
def Wr{H:Type}(d:DataW H):1<=uptoBulk d:=by cases d with|lit l=>cases l <;> simp[uptoBulk]|_=>simp[uptoBulk]
def N0{H:Type}:∀l:List (DataW H),l.length<=uptoBulkAll l|[]=>iO _|d::r=>by have b:=N0 r;have a:=Wr d;simp only[uptoBulkAll,bQ];omega
def xb{H:Type}{d:DataW H}:∀{l:List (DataW H)},d∈l->uptoBulk d<=uptoBulkAll l|[],h=>by cases h|x::r,h=>by simp only[uptoBulkAll];rcases bh.1 h with e|h;subst e;omega;have:=xb h;omega
def dW(P:Program)(t:TypeId)(α:Type)[aI α](ok:α->Prop):Prop:=∀{H:Type}(e:TypeId×Value->H) (W:World) (c:Nat) (f:Nat->Bool) (b:Bool) (g:Nat) (d:List Value) (x:DataW H×List MemPlace),DataW.trod e P W c f b g t d=some x->uptoBulk x.1<=1048576->∃a:α,ok a/\xg W (aI.cells a) d
section
variable {P:Program}
def dW.of{t:TypeId}{α:Type}[aI α]{ok:α->Prop}(h:oJ P t α ok):dW P t α ok:=fun e W a d b f g x c _=>h e W a d b f g x c
def dW.slice{t e:TypeId}{α:Type}[aI α]{ok:α->Prop}(ht:P.underlying t=some (.slice e))(hc:P.cellsOf e=aI.sz α)(he:dW P e α ok):dW P t (List α) (Ai ok):=fun gK W y sp K bK cs x h U=>by rcases Go.Deep.open_slice ht h with ⟨rfl,_⟩|⟨a,f,L,m,n,D,Pl,rfl,_,hl,hm,M,J,Q⟩;exact⟨[],⟨iO _,fun x N=>by cases N⟩,.one .nil⟩;(have Y:f<=m:=by rw[M];split <;> omega);rw[J] at U;have hB:uptoBulkAll ((List.range f).map D)+uptoBulkAll ((List.range (m-f)).map fun j=>D (f+j))+1<=1048576:=U;(have H:f<=1048576:=by have:=N0 ((List.range f).map D);simp only[aJ,jA] at this;omega);(have I:∀i,i<f->uptoBulk (D i)<=1048576:=fun i u=>by have:=xb (kX (f:=D) (gH.2 u));omega);rcases jX f with Z|Z;subst Z;exact⟨[],⟨iO _,fun x N=>by cases N⟩,.one (.jk a L)⟩;(have C:∀i,i<f->∃(q:List Value) (b:α),W.cells? y (a.add (i*aI.sz α)) (aI.sz α)=some q/\ok b/\xg W (aI.cells b) q:=fun i u=>by obtain⟨q,B,F⟩:=Q i (by omega);obtain⟨b,s,E⟩:=he gK W y sp K n q _ F (I i (by omega));rw[hc] at B;exact⟨q,b,B,s,E⟩);(have X:∃(l:List α) (d:Nat->List Value),l.length=f/\∀i b,l[i]?=some b->W.cells? y (a.add (i*aI.sz α)) (aI.sz α)=some (d i)/\ok b/\xg W (aI.cells b) (d i):=by clear h Q hl Y M Z J hB H I U;induction f with|zero=>exact⟨[],fun _=>[],rfl,fun i b p=>by cases p⟩|succ k ih=>obtain⟨l,d,B,F⟩:=ih (fun i u=>C i (by omega));obtain⟨q,b,s,E,T⟩:=C k (by omega);refine⟨l++[b],fun i=>if i=k then q else d i,by simp[B],fun i b' p=>?_⟩;rw[bZ] at p;split at p;rename_i u;(have V:i≠k:=by omega);simp only[V,if_false];exact F i b' p;rename_i u;(have:i=k:=by have:=(ap.1 p).1;simp at this;omega);subst this;rw[B,Nat.sub_self] at p;cases p;simp only[if_true];exact⟨s,E,T⟩);obtain⟨l,d,B,F⟩:=X;(have o:∀(i:Nat) (b:α),l[i]?=some b->∀r,r<aI.sz α->W.cell? ((a.add (i*aI.sz α)).add r)=(d i)[r]?/\(d i).length=aI.sz α:=fun i b p r G=>by obtain⟨s,_,T⟩:=F i b p;obtain⟨_,h6,h7⟩:=World.cells?_some s;exact⟨h7 r G,h6⟩);(have A:∃v,W.cell? a=some v:=by obtain⟨b,p⟩:∃b,l[0]?=some b:=⟨l[0]'(by omega),af _⟩;obtain⟨s,E⟩:=o 0 b p 0 aI.pos;(have e:(a.add (0*aI.sz α)).add 0=a:=by simp[Addr.add]);rw[e] at s;exact⟨_,s.trans (af (by rw[E];exact aI.pos))⟩);obtain⟨v0,z⟩:=A;(have O:a.spot=none/\a.block<W.heap.size:=by unfold World.cell? at z;split at z;rename_i c _ _ p;split at z;cases z;rename_i hs;exact⟨by simpa using hs,(ie.1 p).1⟩;cases z);obtain⟨b,w,spot⟩:=a;obtain⟨rfl,p⟩:=O;simp only[Addr.lK] at o;refine⟨l,⟨by rw[B];exact H,fun x N=>?_⟩,.one ?_⟩;obtain⟨i,u⟩:=cF N;exact(F i x u).2.1;rw[<-B];refine .sl l.length (cz l) b w L (fun j=>(W.cell? ⟨b,w+j,none⟩).getD undef) (by omega) (fun h=>h) p (fun j S=>?_) (fun j g hg=>?_);rw[fN] at S;have u:j/aI.sz α<l.length:=pE (by rwa[k6] at S);have G:j%aI.sz α<aI.sz α:=Nat.mod_lt _ aI.pos;obtain⟨s,E⟩:=o (j/aI.sz α) _ (af u) _ G;(have e:w+j/aI.sz α*aI.sz α+j%aI.sz α=w+j:=by have:=Nat.div_add_mod j (aI.sz α);rw[k6] at this;omega);rw[e] at s;rw[s,af (by omega)];rfl;have S:=(ap.1 hg).1;rw[fN] at S;have u:j/aI.sz α<l.length:=pE (by rwa[k6] at S);have G:j%aI.sz α<aI.sz α:=Nat.mod_lt _ aI.pos;obtain⟨s,E⟩:=o (j/aI.sz α) _ (af u) _ G;obtain⟨_,_,T⟩:=F _ _ (af u);(have e:w+j/aI.sz α*aI.sz α+j%aI.sz α=w+j:=by have:=Nat.div_add_mod j (aI.sz α);rw[k6] at this;omega);rw[e] at s;have R:=rC (af u) G;(have e2:j/aI.sz α*aI.sz α+j%aI.sz α=j:=by omega);rw[e2,hg] at R;have hv:=af (l:=d (j/aI.sz α)) (i:=j%aI.sz α) (by omega);rw[s,hv];exact T.2 _ _ _ R.symm hv
def dW.field{H:Type}{gK:TypeId×Value->H}{W:World}{base:Nat}{g:Nat->Bool}{b:Bool}{n:Nat}{cs:List Value}{xs:List (DataW H×List MemPlace)}{d:Array Field}{α:Type}[aI α]{ok:α->Prop}(c:xs.length=d.size)(hf:∀(i:Nat) (f:Field),d[i]?=some f->DataW.trod gK P W base g b n f.type ((cs.drop f.offset).take (P.cellsOf f.type))=xs[i]?)(i:Nat){f:Field}(hi:d[i]?=some f)(l:dW P f.type α ok)(e:uptoBulkAll (xs.map (·.1))<=1048576):∃a:α,ok a/\u0 W (aI.cells a) cs f.offset:=by
 have j:=hf i f hi;have h:i<xs.length:=by rw[c];exact(ie.1 hi).1
 rw[af h] at j;obtain⟨a,m,k⟩:=l gK W base g b n _ _ j (cL (xb (kX (ff h))) e);exact⟨a,m,k.at⟩
def N4{H:Type}{gK:TypeId×Value->H}{W:World}{m base:Nat}{h:Nat->Bool}{c:Bool}{r:Reach}{t:TypeId}{v:Value}{d:DataW H}{l:List MemPlace}{α:Type}[aI α]{ok:α->Prop}{q:Array Field}(k:dW P t α ok)(ht:P.underlying t=some (.struct q))(b:Value.okWide P W r m t v)(hd:DataW.Trod gK P W base h c t v d l)(e:uptoBulk d<=1048576):∃a:α,ok a/\Arg W (.agg (aI.cells a)) v:=by obtain⟨n,o⟩:=hd;obtain⟨a,p,f⟩:=k gK W base h c n _ _ o e;refine⟨a,p,?_⟩;unfold Value.okWide at b;rw[ht] at b;obtain⟨s,rfl,_⟩:=b;exact .agg _ s.toList f.1 fun j g v u i=>f.2 j g v u i
end
end Go.Proofs.YtongekoajbcliaaGreatDoor.Up
/-
 AM,part Zw:arguments of small bulk,opened,with what they weigh (for types that hold themselves).
-/
namespace Go.Proofs.YtongekoajbcliaaGreatDoor.Up
open Go.AM
open Go.Proofs.YtongekoajbcliaaGreatDoor.Rows (uptoBulk uptoBulkAll uptoSmall)
open Go.Deep
section
variable {P:Program}
end
end Go.Proofs.YtongekoajbcliaaGreatDoor.Up
