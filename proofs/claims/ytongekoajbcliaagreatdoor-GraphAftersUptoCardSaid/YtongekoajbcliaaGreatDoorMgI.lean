/-
  AM, fourth part: maps.
-/
import Derived.Test.YtongekoajbcliaaGreatDoorMgF
import Derived.Lib.AppendStr
import Derived.Lib.Builder
import Derived.MapKept
set_option linter.all false
/-
 AM:maps:keys that are structs of two numbers.
-/
namespace Go.AM
section
variable {P:Program}
def VA(q:IntKind)(k:Int×Int):Value:=.agg #[.int q k.1,.int q k.2]
def zr(q:IntKind)(k:Int×Int):List ((Int×Int)×Value)->Nat->Option (Nat×Value)|[],_=>none|e::r,i=>if k=e.1 then some (i,e.2) else zr q k r (i+1)
end
end Go.AM
/-
 AM:maps from two numbers to pointers:the structs that they lead to are of slices;all of it belongs to the map.
-/
namespace Go.AM
structure ME where
 key:Int×Int
 t:Nat
 f:List (Nat×List G)
def F6(O:Nat->Prop)(w:World)(kty:TypeId)(m:Mm)(p:Nat×List G)(u:Value):Prop:=(p.2=[]/\p.1=Jq/\u=.slice none 0 0)\/(p.2≠[]/\∃c k,m.2[p.1]?=some (some (c,k))/\vW O w kty 1 p.2.length p.2 u (some (c,k)))
def Zn:List (Nat×List G)->Nat->Option Nat|[],_=>none|(x,a)::_,0=>(match a with|[]=>none|_::_=>some x)|_::r,j+1=>Zn r j
def Zo(e:ME):Nat->Option Nat|0=>some e.t|j+1=>Zn e.f j
def aah(m:Mm)(t:Nat):Value:=match m.2[t]? with|some (some (c,_))=>.pointer (some ⟨c,0,none⟩)|_=>.pointer none
structure Lm (q:IntKind) (kty tty:TypeId) (n:Nat) (es:List ME) (pd:Option (Option (Nat×Nat)×Nat×List G)) (O:Nat→Prop) (w:World) (b:Nat) (m:Mm):Prop where
 len:m.2.length=n
 Pj:n≤maxLen
 vm:m.1=0
 heap:∃ms clock,w.heap[b]?=some (.map ms clock)∧ms.toList.map (fun e=>(e.key,e.val))=es.map fun e=>(VA q e.key,aah m e.t)
 root:∀(i c k:Nat),m.2[i]?=some (some (c,k))→c≠b∧c<w.heap.size
 JE:∀e∈es,∃c cs,m.2[e.t]?=some (some (c,cs.size))∧w.heap[c]?=some (.cells cs tty (0,0))∧e.f.length≤cs.size∧∀(j:Nat) (p:Nat×List G),e.f[j]?=some p→∃u,cs[j]?=some u∧F6 O w kty m p u
 inj:∀(i i':Nat) (e e':ME) (j j' x x' c k k':Nat),es[i]?=some e→es[i']?=some e'→Zo e j=some x→Zo e' j'=some x'→m.2[x]?=some (some (c,k))→m.2[x']?=some (some (c,k'))→i=i'∧j=j'
 OZ:∀(sr:Option (Nat×Nat)) (x:Nat) (gs:List G),pd=some (sr,x,gs)→gs≠[]∧(∃c k cs,m.2[x]?=some (some (c,k))∧w.heap[c]?=some (.cells cs kty (0,0))∧cs.size=k∧k≤maxLen∧gs.length≤k∧∀(i:Nat) (g:G),gs[i]?=some g→∃v,cs[i]?=some v∧bN O w g v)∧
  ∀(e:ME) (j' x' c k k':Nat),e∈es→Zo e j'=some x'→m.2[x]?=some (some (c,k))→m.2[x']?=some (some (c,k'))→∃j,sr=some (e.t,j)∧j'=j+1
def F6.mono{O O':Nat->Prop}{w w':World}{kty:TypeId}{m:Mm}{p:Nat×List G}{u:Value}(h:F6 O w kty m p u)(i:Kept O w w')(d:∀x,x<w.heap.size->¬O x->¬O' x)(f:∀c k,m.2[p.1]?=some (some (c,k))->w'.heap[c]?=w.heap[c]?):F6 O' w' kty m p u:=h.imp id fun ⟨b,c,k,a,g⟩=>⟨b,c,k,a,g.mono i d fun l j e=>by cases e;exact f c k a⟩
def F6.shut{O Z:Nat->Prop}{w w':World}{kty:TypeId}{m:Mm}{p:Nat×List G}{u:Value}(h:F6 O w kty m p u)(b:iW Z w w'):F6 O w' kty m p u:=h.imp id fun ⟨d,c,k,e,a⟩=>⟨d,c,k,e,a.shut b⟩
def Cg(i:Nat):List (Nat×List G)->Option (List G)|[]=>none|(x,b)::r=>match b with|[]=>Cg i r|g::a=>bif Nat.beq x i then some (g::a) else Cg i r
def ES(i:Nat):List ME->Option (List G)|[]=>none|e::r=>match Cg i e.f with|some a=>some a|none=>ES i r
def Cf{i:Nat}{gs:List G}:∀{f:List (Nat×List G)},Cg i f=some gs->gs≠[]/\∃j:Nat,f[j]?=some (i,gs)|[],h=>by cases h|(x,b)::r,h=>by simp only[Cg] at h;cases b with|nil=>obtain⟨c,j,d⟩:=Cf (f:=r) h;exact⟨c,j+1,d⟩|cons g e=>dsimp only at h;cases a:Nat.beq x i with|true=>rw[a] at h;cases h;rw[ab a];exact⟨by simp,0,rfl⟩|false=>rw[a] at h;obtain⟨c,j,d⟩:=Cf (f:=r) h;exact⟨c,j+1,d⟩
def Ce{i:Nat}{gs:List G}:∀{es:List ME},ES i es=some gs->gs≠[]/\∃e∈es,∃j:Nat,e.f[j]?=some (i,gs)|[],h=>by cases h|e::r,h=>by simp only[ES] at h;cases b:Cg i e.f with|some f=>rw[b] at h;cases h;obtain⟨a,j,c⟩:=Cf b;exact⟨a,e,au,j,c⟩|none=>rw[b] at h;obtain⟨a,g,c,d⟩:=Ce (es:=r) h;exact⟨a,g,ar _ c,d⟩
def GN (q:IntKind) (kty tty:TypeId) (n:Nat) (es:List ME) (pd:Option (Option (Nat×Nat)×Nat×List G)):Dp where
 φ:=Lm q kty tty n es pd
 jk:=False
 row:=fun i=>ES i es
 LZ:=fun h=>(Ce h).1
 Qt:=by
  intro O w b m i gs h hrow;obtain⟨h0,e,he,j,hj⟩:=Ce hrow;obtain⟨c,cs,h1,h2,h3,h4⟩:=h.JE e he;obtain⟨u,h5,h6⟩:=h4 j _ hj;rcases h6 with ⟨h6,_⟩ | ⟨_,c',k',h7,cap,cs',_,_,_,h8,_,_,_,h9⟩
  ·exact absurd h6 h0
  ·exact⟨c',k',cs',kty,h7,h8,h9⟩
 mono:=by
  intro O O' w w' b m h hk hO hb;refine {len:=h.len,Pj:=h.Pj,vm:=h.vm,heap:=?_,root:=fun i c k e=>⟨(h.root i c k e).1,cO (h.root i c k e).2 hk.size⟩,JE:=fun e he=>?_,inj:=h.inj,OZ:=fun sr x gs e=>?_}
  ·obtain⟨ms,cl,h1,h2⟩:=h.heap;exact⟨ms,cl,(hb b (.self _ _)).trans h1,h2⟩
  ·obtain⟨c,cs,h1,h2,h3,h4⟩:=h.JE e he;refine⟨c,cs,h1,(hb c (.xM h1)).trans h2,h3,fun j p hp=>?_⟩;obtain⟨u,h5,h6⟩:=h4 j p hp;exact⟨u,h5,h6.mono hk hO fun c k e=>hb c (.xM e)⟩
  ·obtain⟨h0,⟨c,k,cs,h1,h2,h3,h4,h5,h6⟩,h7⟩:=h.OZ sr x gs e;exact⟨h0,⟨c,k,cs,h1,(hb c (.xM h1)).trans h2,h3,h4,h5,fun i g hg=>let ⟨v,hv,hr⟩:=h6 i g hg;⟨v,hv,hr.mono hk hO⟩⟩,h7⟩
 shut:=by
  intro O Z w w' b m h hs hz;have hb:∀x,In x b m→w'.heap[x]?=w.heap[x]?:=fun x hx=>by
   rcases hs.block x with h | ⟨h,_⟩
   ·exact h
   ·exact absurd h (hz x hx)
  refine {len:=h.len,Pj:=h.Pj,vm:=h.vm,heap:=?_,root:=fun i c k e=>⟨(h.root i c k e).1,by rw[hs.size];exact(h.root i c k e).2⟩,JE:=fun e he=>?_,inj:=h.inj,OZ:=fun sr x gs e=>?_}
  ·obtain⟨ms,cl,h1,h2⟩:=h.heap;exact⟨ms,cl,(hb b (.self _ _)).trans h1,h2⟩
  ·obtain⟨c,cs,h1,h2,h3,h4⟩:=h.JE e he;refine⟨c,cs,h1,(hb c (.xM h1)).trans h2,h3,fun j p hp=>?_⟩;obtain⟨u,h5,h6⟩:=h4 j p hp;exact⟨u,h5,h6.shut hs⟩
  ·obtain⟨h0,⟨c,k,cs,h1,h2,h3,h4,h5,h6⟩,h7⟩:=h.OZ sr x gs e;exact⟨h0,⟨c,k,cs,h1,(hb c (.xM h1)).trans h2,h3,h4,h5,fun i g hg=>let ⟨v,hv,hr⟩:=h6 i g hg;⟨v,hv,hr.shut hs⟩⟩,h7⟩
 live:=by
  intro O w b m h x hx;rcases hx with rfl | ⟨n,hn⟩
  ·obtain⟨ms,cl,h1,_⟩:=h.heap;exact dT h1
  ·obtain⟨i,hi⟩:=cF hn;exact(h.root i x n hi).2
section
variable {P:Program}{N:Nat}{cx:Cx}{s:St}{W:List Nat}
variable {dst:Option Tmp}{ty:TypeId}{pos:String}{after:Array Edge}{guard:Option (Nat×Bool)}
def Rel.WU{μ:Mu}{a:Act}{w:World}(d:Rel N cx μ s a w){h:Nat}{k:aw}{q:IntKind}{kty tty:TypeId}{n:Nat}{es:List ME}{pd:Option (Option (Nat×Nat)×Nat×List G)}(e:az s.st h=some k)(f:k.lp=some (.deep (GN q kty tty n es pd))){b:Nat}{m:Mm}(c:μ h=some (b,m)):Lm q kty tty n es pd (bif k.fresh then iE (cx.O s.st μ) cx.base else cx.O s.st μ) w b m:=by have:=d.st.ez h k e;rw[c] at this;exact((aV.deep f).1 this).1
def Rel.eT{μ:Mu}{a:Act}{w:World}(c:Rel N cx μ s a w){x:Operand}{h:Nat}(hx:AM.ev s x=some (.eT h)):∃b m,a.eval x=.map (some b)/\μ h=some (b,m):=by have d:=c.ev hx;generalize a.eval x=v at d;cases d with|aG h=>cases h|eT _ b m e=>exact⟨b,m,rfl,e⟩
def OG(es:List ME)(t:Nat):Option ME:=es.find? fun e=>Nat.beq e.t t
def UE{es:List ME}{t:Nat}{e:ME}(h:OG es t=some e):e∈es/\e.t=t:=⟨List.mem_of_find?_eq_some h,ab (by simpa using List.find?_some h)⟩
def YL.Zf{t:TypeId}{x:Operand}{h tt off z:Nat}{k:aw}{q:IntKind}{kty tty:TypeId}{n:Nat}{es:List ME}{pd:Option (Option (Nat×Nat)×Nat×List G)}{e:ME}{gs:List G}(hx:ev s x=some (.kp h tt off))(v:az s.st h=some k)(F:k.lp=some (.deep (GN q kty tty n es pd)))(D:OG es tt=some e)(hf:e.f[off]?=some (z,gs))(p:∀w,(isAgg t).run P w=.ok false w)(E:W.contains h=false):fQ P W s ⟨dst,.load t x,ty,pos,after,guard⟩ (.ks h z 1 gs.length):=fun N Y μ a w d=>by obtain⟨b,m,c,Z,C,j,A⟩:=d.kp hx;have X:=d.WU v F j;obtain⟨i,o⟩:=UE D;obtain⟨c',cs,y,H,h3,I⟩:=X.JE e i;rw[o,A] at y;cases y;obtain⟨u,J,K⟩:=I off _ hf;refine⟨u,?_,fun L M l=>?_⟩;rcases K with ⟨g,_,rfl⟩|⟨g,Q,R,S,O⟩;have g:gs=[]:=g;subst g;exact .my h z 1 none 0 fun _=>⟨rfl,rfl⟩;obtain⟨r,U,rfl,T,V,_⟩:=O;exact .ks h z 1 _ b m Q R r j S T V;have B:=d.zJ v j E ⟨M,l⟩ (.xM A);rw[H] at B;(have f:L.cell? ⟨c,off,none⟩=some u:=by rw[cell_of B,J]);simp[execOp,C,Instr.loadAt,Instr.sureAddr,loadVar,p,f]
end
end Go.AM
/-
 AM:maps:what belongs to a block gets more behind.
-/
namespace Go.AM
section
variable {P:Program}{N:Nat}{cx:Cx}{s:St}{W:List Nat}
end
end Go.AM
/-
 AM:maps:one is made;an entry more,with a struct that was the call's own.
-/
namespace Go.AM
section
variable {P:Program}{N:Nat}{cx:Cx}{s:St}{W:List Nat}
variable {ty:TypeId}{pos:String}{after:Array Edge}{guard:Option (Nat×Bool)}
end
end Go.AM
/-
 AM:maps:an entry more;a slice's append;its store.
-/
namespace Go.AM
section
variable {P:Program}{N:Nat}{cx:Cx}{s:St}{W:List Nat}
variable {ty:TypeId}{pos:String}{after:Array Edge}{guard:Option (Nat×Bool)}
end
end Go.AM
/-
 AM:maps:a slice's append;its store.
-/
namespace Go.AM
section
variable {P:Program}{N:Nat}{cx:Cx}{s:St}{W:List Nat}
variable {ty:TypeId}{pos:String}{after:Array Edge}{guard:Option (Nat×Bool)}{d:Nat}
variable {dst:Option Tmp}
def YL.XU{t:TypeId}{x:Operand}{h z off:Nat}{k:aw}{q:IntKind}{kty tty:TypeId}{n:Nat}{es:List ME}{pd:Option (Option (Nat×Nat)×Nat×List G)}{gs:List G}{u:Value}(hx:ev s x=some (.kp h z off))(j:az s.st h=some k)(B:k.lp=some (.deep (GN q kty tty n es pd)))(f:ES z es=some gs)(hg:gs[off]?=some (.val u))(g:∀w,(isAgg t).run P w=.ok false w)(H:W.contains h=false):fQ P W s ⟨dst,.load t x,ty,pos,after,guard⟩ (.val u):=fun N K Q a w d=>by obtain⟨b,m,c,R,J,o,p⟩:=d.kp hx;have A:=d.WU j B o;obtain⟨S,L,M,O,l,C,y⟩:=(GN q kty tty n es pd).Qt A f;rw[p] at l;cases l;obtain⟨v,E,F⟩:=y off _ hg;cases F;refine⟨u,.aG (.val _),fun D I i=>?_⟩;have r:=d.zJ j o H ⟨I,i⟩ (.xM p);rw[C] at r;(have e:D.cell? ⟨c,off,none⟩=some u:=by rw[cell_of r,E]);simp[execOp,J,Instr.loadAt,Instr.sureAddr,loadVar,g,e]
end
end Go.AM
/-
 AM:deferred calls,panics that are caught.
-/
namespace Go.AM
section
variable {P:Program}{F:Fence}{n:Nat}
end
section
variable {P:Program}{N:Nat}
variable {X:Nat→Prop}{st:List (Nat×aw)}{μ:Mu}{w:World}{fn:Func}{Q:G→List (Nat×aw)→Prop}{Qp:List PanicEntry→List (Nat×aw)→Prop}
end
end Go.AM
/-
 AM:a string's bytes appended;pointers to a block against themselves.
-/
namespace Go.AM
section
variable {P:Program}{N:Nat}{cx:Cx}{s:St}
variable {ty:TypeId}{pos:String}{after:Array Edge}{guard:Option (Nat×Bool)}{W:List Nat}{d:Nat}
def wm(b:ByteArray):List G:=b.data.toList.map fun x=>.val (.int .u8 x.toNat)
def Ef(b:ByteArray):(wm b).length=b.size:=by rw[wm,aJ,cj];rfl
def UI{b:ByteArray}{j:Nat}{g:G}(h:(wm b)[j]?=some g):∃u,(Lib.strCells b)[j]?=some u/\g=.val u:=by unfold wm at h;rw[ao] at h;obtain⟨x,a,rfl⟩:=aA.1 h;exact⟨_,by rw[Lib.strCells,ao,a];rfl,rfl⟩
def EF.Ui{t u e:TypeId}{x y:Operand}{h n:Nat}{k:aw}{b:ByteArray}(hx:ev s x=some (.aN h 1 0 n))(hy:ev s y=some (.val (.string b)))(hk:az s.st h=some k)(hp:k.pure=true)(hety:k.bP=e)(U:k.sz=1)(C:k.cells.length=n)(ht:P.underlying t=some (.slice e))(hu:P.underlying u=some .string)(hi:(P.info? e).map (fun i=>(i.zero,i.size,i.bytes))=some (some (.int .u8 0),1,1))(R:n+b.size<=140737488355328)(hW:W.contains h=true)(J:k.lp=none:=by rfl)(hpn:pinned h=false:=by rfl)(hdf:qE h s.df=true:=by rfl):cu P W s ⟨some d,.call ⟨.builtin .append,#[x,y],#[t,u]⟩,ty,pos,after,guard⟩ (·={fr:=(d,.aN h 1 0 (n+b.size))::nN h s.fr,st:=(h,{k with cells:=k.cells++wm b})::gJ h s.st,df:=s.df}):=by
 subst hety;refine⟨(fun _ h=>by cases h),?_⟩;intro N cx I a w hr hN K Q hK;obtain⟨i,S,hi2⟩:=aA.1 hi;simp only[qJ] at hi2;obtain⟨hz,hs1,hb1⟩:=hi2;have u5:n+b.size<=maxLen:=by unfold maxLen;omega
 have o:(a.eval x=.slice none 0 0/\n=0/\I h=none/\k.cells=[])\/∃b l r A,a.eval x=.slice (some ⟨b,0,none⟩) n l/\n<=l/\I h=some (b,r)/\l*1=r.1/\w.heap[b]?=some (.cells A k.bP (0,0))/\A.size=r.1/\r.1<=maxLen*1/\∀(j:Nat) (g:G),k.cells[j]?=some g->∃v,A[j]?=some v/\dh (cx.O s.st I) cx.base w I k g v:=by have o:=hr.ev hx;generalize a.eval x=v at o;cases o with|aG h=>cases h|gz _ _ L=>have:=hr.st.ez h k hk;rw[L] at this;exact .inl ⟨rfl,rfl,L,this.1⟩|aN _ _ _ _ b r l L hn hc=>obtain⟨A,B,q,h3,h4,h5,h6⟩:=hr.own hk L J;exact .inr ⟨b,l,r,A,rfl,hn,L,by omega,B,q,by rw[<-U];exact h5 (by omega),h6⟩|fD _ _ off0 b _ L hpos=>exact absurd hpos (nh _)
 have M:a.eval y=.string b:=hr.val hy;have hown:∃v xs,a.eval x=v/\w.ownsRow 0 k.bP 1 v n xs/\(∀(j:Nat) (g:G),k.cells[j]?=some g->∃v,xs[j]?=some v/\dh (cx.O s.st I) cx.base w I k g v):=by rcases o with ⟨B,q,h3,h4⟩|⟨b,l,r,A,B,q,h3,h4,h6,h7,h8,h9⟩;subst q;exact⟨_,[],B,World.ownsRow_nil w 0 k.bP 1,fun j g Y=>by rw[h4] at Y;simp at Y⟩;refine⟨_,A.toList.take (n*1),B,⟨?_,.inr ⟨b,l,A,rfl,iO _,h6,q,?_,by rw[h7,h4],rfl⟩⟩,fun j g Y=>?_⟩;rw[bA,cj,h7,<-h4];exact iX (b9 _ q);omega;obtain⟨v,o,F⟩:=h9 j g Y;(have hj:j<n*1:=by have:=(ap.1 Y).1;omega);exact⟨v,by rw[br,if_pos hj,bz];exact o,F⟩
 obtain⟨v,xs,B,q,h5⟩:=hown;have law:=Lib.run_append_own_string (P:=P) w 0 t u ty k.bP i ht hu S hz hs1 hb1 v n xs q b u5 R (iO _);rw[<-B,<-M] at law;obtain⟨v',w',f,ho,c,T⟩:=law;have Z:(execOp a.eval ⟨some d,.call ⟨.builtin .append,#[x,y],#[t,u]⟩,ty,pos,after,guard⟩).run P w=.ok (.value v') w':=by simp only[execOp,resolve,invoke,builtin,Sem.run_bind,Sem.run_pure,Result.andThen_ok,List.map_toArray,bg,sc,f]
 have V:∀b,b<w.heap.size->(∀m,I h≠some (b,m))->w'.heap[b]?=w.heap[b]?:=by intro b hb' hn;refine c.block b hb' fun e=>?_;rcases o with ⟨z,q2,q3,q4⟩|⟨b',l,r,A,z,q2,q3,q4,q6,q7,q8,q9⟩;rw[z] at e;cases e;rw[z] at e;cases e;exact hn r q3
 unfold Oper.wp;rw[Z];by_cases hnone:v'=.slice none 0 0;obtain⟨z,q2⟩:=T.1 hnone;obtain⟨r2,r3⟩:n=0/\I h=none:=by rcases o with ⟨O,r2,r3,r4⟩|⟨b',l,r,A,O,_⟩;exact⟨r2,r3⟩;rw[z] at O;cases O
 subst hnone;subst r2;have hbn:wm b=[]:=bu (by rw[Ef];exact q2);have hk2:=wu (h:=h) hk hp;have p:=(hr.kill h).WO (k':={k with cells:=k.cells++wm b}) hk2 rfl rfl id (fun h=>h) rfl (by simp[hbn]) J J;have D:∀b,b<w.heap.size->w'.heap[b]?=w.heap[b]?:=fun b hb=>V b hb fun m L=>by rw[r3] at L;cases L
 have hr3:=p.kept c.size D c.os c.tape c.output;refine hK I _ _ w' (hr3.put (d:=d) (g:=.aN h 1 0 (0+b.size)) (hN d rfl) ?_) rfl ?_;rw[q2];exact .gz _ _ r3;refine⟨c.size,fun b hb _=>D b hb,fun x k1 c1 m1 b1 hw B q hi=>?_⟩;by_cases e:x=h;subst e;exact .inl ⟨x,k,c1,m1,hw,hk,q,hi⟩;have h1':az (gJ h s.st) x=some k1:=by rw[<-aD _ _ e];exact B
 obtain⟨k0,h5,_⟩:=dP h1';exact .inl ⟨x,k0,c1,m1,hw,h5,q,hi⟩;obtain⟨ho1,X⟩:=ho;rcases X with ⟨X,_⟩|⟨g,l,cur,rfl,_,hcur,hnc,hcm,hcs,htake⟩;exact absurd X hnone;have Y:(∃r,I h=some (g,r))\/w.heap.size<=g:=by by_cases hlt:g<w.heap.size;refine .inl ?_;(have hnl:((n+b.size:Nat):Int)<=9223372036854775807:=by omega);rcases o with ⟨z,q2,q3,q4⟩|⟨b',H,r,A,z,q2,q3,q4,q6,q7,q8,q9⟩;subst q2;simp only[dl] at f;by_cases hb0:b.size=0;have:=T.2 ⟨z,hb0⟩;cases this;have p:=run_append_nil_string (P:=P) w t u ty k.bP i (.int .u8 0) ht hu S hz b (by omega) (by omega) (by rw[hb1];omega);rw[z,M,p] at f;injection f with O r2;cases O;exact absurd hlt (nh _);by_cases hroom:n+b.size<=H;have p:=Lib.run_append_room_string (P:=P) w t u ty k.bP i ht hu S hs1 b' n H A q6 b hroom (by omega);rw[z,M,p] at f;injection f with O r2;cases O;exact⟨r,q3⟩;rcases q.2 with ⟨q10,q11⟩|⟨g',cap2,cur2,q10,_,q12,q13,q14,q15,q16⟩;rw[<-B,z] at q10;cases q10;have holds:=q.cells (g:=b') (by rw[<-B,z];rfl);have p:=Lib.run_append_grow_string (P:=P) w t u ty k.bP i (.int .u8 0) ht hu S hz ⟨b',0,none⟩ n H xs (by rw[hs1];exact q.1) holds b (by omega) hnl (by rw[hb1];exact growslice_fits (by omega) (by omega));rw[z,M,p] at f;injection f with O r2;cases O;exact absurd hlt (nh _);exact .inr (by omega)
 have hxl:=q.1;have kW:∀(j:Nat) (v:Value),(xs++Lib.strCells b)[j]?=some v->cur[j]?=some v:=by intro j v o;rw[<-htake,br] at o;split at o;rw[bz] at o;exact o;cases o
 obtain⟨p,hst⟩:=hr.SF (k':={k with cells:=k.cells++wm b}) hk Y hcur rfl c.size V c.os c.tape c.output id hp (by dsimp only;rw[aK,C,Ef,hcs];omega) (fun _=>by dsimp only;rw[hcs,U];exact b9 _ hcm) (by intro j g' E;dsimp only at E;rw[bZ] at E;split at E;obtain⟨v,o,F⟩:=h5 j g' E;refine⟨v,kW j v ?_,?_⟩;rw[ew (by omega)];exact o;unfold dh at F|-;dsimp only;rw[hp] at F|-;exact F;rename_i hj;obtain⟨v,o,rfl⟩:=UI E;refine⟨v,kW j v ?_,?_⟩;rw[fY (by omega),hxl,pD,<-C];exact o;unfold dh;dsimp only;rw[hp];exact .val _) W hW J hpn hdf;refine hK _ _ _ w' (p.put (d:=d) (g:=.aN h 1 0 (n+b.size)) (hN d rfl) ?_) rfl hst;exact .aN _ _ _ _ _ _ l (cf _ _ _) hnc (by rw[hcs];omega)
def strOf(l:List Int):ByteArray:=⟨(l.map fun n=>UInt8.ofNat n.toNat).toArray⟩
def jH(b:ByteArray):List Int:=b.data.toList.map fun x=>(x.toNat:Int)
def Bw(b:ByteArray):(jH b).length=b.size:=by rw[jH,aJ,cj];rfl
def JQ:∀(l:List Int) (c:ByteArray),List.foldl (fun b (a:Int)=>b.push (UInt8.ofNat a.toNat)) c l=⟨c.data++(l.map fun n=>UInt8.ofNat n.toNat).toArray⟩|[],c=>by simp|x::r,c=>by rw[cE,JQ r];apply ByteArray.ext;simp[ByteArray.push]
def YL.Wp{dst:Option Tmp}{t t' e:TypeId}{x:Operand}{h n:Nat}{k:aw}{l:List Int}(hx:ev s x=some (.aN h 1 0 n))(G:az s.st h=some k)(B:k.lp=none)(M:k.cells=l.map fun a=>.val (.int .u8 a))(hn:l.length=n)(ht:P.underlying t=some (.slice e))(C:P.underlying e=some (.int .u8))(i:P.underlying t'=some .string)(T:W.contains h=false):fQ P W s ⟨dst,.convert t t' x,ty,pos,after,guard⟩ (.val (.string (strOf l))):=fun N X U a w y=>by refine⟨_,.aG (.val _),fun D z A=>?_⟩;have q:=y.ev hx;generalize L:a.eval x=v at q;cases q with|aG h=>cases h|gz _ _ p=>obtain rfl:l=[]:=bu hn;simp[execOp,L,convert,run_underlying ht,run_underlying i,run_underlying C,Conv.bytesToString,strOf];rfl|fD _ _ E b _ p f=>exact absurd f (nh _)|aN _ _ _ _ b m r p H Q=>obtain⟨I,F,R,V,_,_,O⟩:=y.own G p B;have K:=y.agree G p T ⟨z,A⟩ (dT F);rw[F] at K;(have J:n<=I.size:=by rw[R];omega);have g:=ru (P:=P) (off:=0) K n (by omega);(have u:((I.toList.drop 0).take n).toArray=(l.map fun a=>Value.int .u8 a).toArray:=by congr 1;refine dm fun j=>?_;rw[ib,br];by_cases hj:j<n;rw[if_pos hj,bz];(have o:j<l.length:=by omega);obtain⟨v,q,c⟩:=O j (.val (.int .u8 l[j])) (by rw[M,ao,af o];rfl);rw[q,ao,af o];unfold dh at c;split at c <;> cases c;rfl;rename_i S;cases S;rfl;rw[if_neg hj,bT (by rw[aJ];omega)]);rw[u] at g;(have d:(convert t t' (.slice (some ⟨b,0,none⟩) n r)).run P D=.ok (.string (strOf l)) D:=by simp only[convert,Sem.run_bind,run_underlying ht,run_underlying i,run_underlying C,Result.andThen_ok,Conv.bytesToString,g];simp[strOf,JQ]);simp only[execOp,L,Sem.run_bind,d,Result.andThen_ok,Sem.run_pure]
def Qu{a:TypeId->Bool}:∀{d:Nat}{e:TypeId}{c b off n:Nat},rowAt P a d e c off n=true->c<=b->rowAt P a d e b off n=true|0,_,_,_,_,_,h,_=>by cases h|d+1,e,c,b,off,n,h,k=>by simp only[rowAt] at h|-;split at h;cases h;rename_i j;rw[if_neg j];simp only[eR,ag,decide_eq_true_eq] at h|-;rcases h with ⟨⟨f,g⟩,i⟩|⟨f,g⟩;exact .inl ⟨⟨f,by omega⟩,i⟩;exact .inr ⟨by omega,g⟩
def Ei:∀{d:Nat}{e u:TypeId}{c a off n:Nat},liesAt P d e c off u n=true->c<=a->liesAt P d e a off u n=true|0,_,_,_,_,_,_,h,_=>by cases h|d+1,e,u,c,a,off,n,h,b=>by simp only[liesAt,eR] at h|-;rcases h with h|h;exact .inl (Qu h b);refine .inr ?_;split at h;exact Ei h b;cases h
variable {dst:Option Tmp}
def PY.Y7{t t' e:TypeId}{x y:Operand}{h off:Nat}{j:TypeInfo}(hx:ev s x=some (.loc h off))(k:ev s y=some (.loc h off))(ht:P.underlying t=some (.pointer e))(d:P.info? e=some j):PY P s ⟨dst,.binOp .neq t x y t',ty,pos,after,guard⟩ (.val (.bool false)):=fun N r u a w g=>by obtain⟨b,m,l,n⟩:=g.loc hx;obtain⟨q,p,o,c⟩:=g.loc k;rw[n] at c;cases c;refine⟨_,.aG (.val _),fun f=>?_⟩;have h:=Lib.run_neq_ptr_same (P:=P) f ⟨b,off,none⟩ ht d;(have i:(eqGuard .neq t x y (.pointer (some ⟨b,off,none⟩)) (.pointer (some ⟨b,off,none⟩))).run P f=.ok () f:=by simp[eqGuard]);simp only[execOp,l,o,Sem.run_bind,i,Result.andThen_ok,h,Sem.run_pure]
def YL.UD{c n t:TypeId}{x:Operand}{h off:Nat}{k:aw}{j:TypeInfo}(hx:ev s x=some (.loc h off))(q:az s.st h=some k)(f:k.lp=none)(B:P.underlying c=some (.pointer t))(hd:P.underlying n=some .unsafePointer)(ht:P.info? t=some j)(A:j.size≠0)(u:off<k.cells.length)(y:W.contains h=false):fQ P W s ⟨dst,.convert c n x,ty,pos,after,guard⟩ (.loc h off):=fun N C F a w g=>by obtain⟨b,m,z,e⟩:=g.loc hx;obtain⟨r,p,D,E,_⟩:=g.own q e f;refine⟨_,.loc h off b m e,fun o i l=>?_⟩;have v:=g.agree q e y ⟨i,l⟩ (dT p);rw[p] at v;(have d:o.shape? b=some (k.bP,r.size):=by simp[World.shape?,v]);have:=Lib.run_to_unsafe (P:=P) o ⟨b,off,none⟩ B hd ht A d (by show off<r.size;omega);simp only[execOp,z,Sem.run_bind,this,Result.andThen_ok,Sem.run_pure]
def YL.Re{c n u:TypeId}{x:Operand}{h off:Nat}{k:aw}{j:TypeInfo}(hx:ev s x=some (.loc h off))(p:az s.st h=some k)(g:k.lp=none)(A:P.underlying c=some .unsafePointer)(hd:P.underlying n=some (.pointer u))(z:P.info? u=some j)(C:liesAt P P.depth k.bP 1 off u 1=true)(t:P.cellsOf k.bP≠0)(D:P.cellsOf k.bP<=k.cells.length)(B:W.contains h=false):fQ P W s ⟨dst,.convert c n x,ty,pos,after,guard⟩ (.loc h off):=fun N E H a w f=>by obtain⟨b,m,y,e⟩:=f.loc hx;obtain⟨v,q,F,G,_⟩:=f.own p e g;refine⟨_,.loc h off b m e,fun o i l=>?_⟩;have r:=f.agree p e B ⟨i,l⟩ (dT q);rw[q] at r;(have d:o.shape? b=some (k.bP,v.size):=by simp[World.shape?,r]);have:=Lib.run_from_unsafe (P:=P) o ⟨b,off,none⟩ A hd z d (Ei C (Nat.div_pos (by omega) (by omega)));simp only[execOp,y,Sem.run_bind,this,Result.andThen_ok,Sem.run_pure]
def PY.same{f:FuncId}{x:Operand}{ts:Array TypeId}{g:G}(hx:ev s x=some g)(c:∀v w,(callFunc f #[v]).run P w=.ok (.value v) w):PY P s ⟨dst,.call ⟨.value (.func f),#[x],ts⟩,ty,pos,after,guard⟩ g:=fun N h e a w b=>by refine⟨_,b.ev hx,fun d=>?_⟩;simp[execOp,resolve,invoke,Deferred.ofValue,Act.eval,c]
end
end Go.AM
/-
 AM:maps of plain data:keys are strings or numbers;what is under them leads to nothing that may be written.
-/
namespace Go.AM
structure Oc (P:Program) (kt:TypeId){κ:Type}(key:κ→Value):Prop where
 ex:∃d,P.underlying kt=some d∧∀k,MapKept.IsKey d (key k)
 inj:∀k k',key k=key k'→k=k'
section
variable {κ:Type}[DecidableEq κ]
def jB{α:Type}(es:List (κ×α))(k:κ):Option α:=(es.find? fun e=>decide (e.1=k)).map (·.2)
def sn{α:Type}(es:List (κ×α))(k:κ):Bool:=es.any fun e=>decide (e.1=k)
def l4{α:Type}(es:List (κ×α))(k:κ)(g:α):List (κ×α):=bif sn es k then es.map (fun e=>bif decide (e.1=k) then(k,g) else e) else es++[(k,g)]
def Ql{α:Type}{es:List (κ×α)}{k:κ}(h:∀e∈es,e.1≠k):jB es k=none:=by unfold jB;rw[List.find?_eq_none.2 fun e a=>by simpa using h e a];rfl
def Gg{α:Type}{k:κ}{g:α}:∀{es:List (κ×α)}{j:Nat},(es.map (·.1)).Nodup->es[j]?=some (k,g)->jB es k=some g|[],j,_,h=>by simp at h|e::r,0,_,h=>by simp at h;subst h;simp[jB]|e::r,j+1,b,h=>by simp only[bg,oK] at b;simp only[kD] at h;have a:e.1≠k:=fun q=>b.1 (by rw[q];exact eL.2 ⟨_,ak h,rfl⟩);have c:=Gg b.2 h;unfold jB at c|-;rw[List.find?_cons_of_neg (by simpa using a)];exact c
def Oj{α:Type}{es:List (κ×α)}{k:κ}(h:∀e∈es,e.1≠k):sn es k=false:=by unfold sn;rw[gk];intro e a;simpa using h e a
def Qk{α:Type}{es:List (κ×α)}{k:κ}{g:α}{j:Nat}(h:es[j]?=some (k,g)):sn es k=true:=by unfold sn;rw[List.any_eq_true];exact⟨_,ak h,by simp⟩
def Qj{α:Type}{es:List (κ×α)}{k:κ}{g:α}(h:sn es k=true):(l4 es k g).map (·.1)=es.map (·.1):=by unfold l4;rw[h,cond_true,iY];refine ft fun e _=>?_;show(bif decide (e.1=k) then(k,g) else e).1=e.1;by_cases q:e.1=k;rw[decide_eq_true q];exact q.symm;rw[decide_eq_false q];rfl
structure Jv (key:κ→Value) (es:List (κ×G)) (O:Nat→Prop) (w:World) (b:Nat) (m:Mm):Prop where
 vm:m.1=0
 len:m.2=[]
 nd:(es.map (·.1)).Nodup
 heap:∃ms clock,w.heap[b]?=some (.map ms clock)∧ms.toList.map (·.key)=es.map (fun e=>key e.1)∧∀(i:Nat) (e:κ×G) (x:MapEntry),es[i]?=some e→ms.toList[i]?=some x→bN O w e.2 x.val
def yp (key:κ→Value) (es:List (κ×G)):Dp where
 φ:=Jv key es
 jk:=es=[]
 mono:=by
  intro O O' w w' b m h hk hO hb;obtain⟨ms,cl,h1,h2,h3⟩:=h.heap;exact {vm:=h.vm,len:=h.len,nd:=h.nd,heap:=⟨ms,cl,(hb b (.self _ _)).trans h1,h2,fun i e x he hx=>(h3 i e x he hx).mono hk hO⟩}
 shut:=by
  intro O Z w w' b m h hs hz;obtain⟨ms,cl,h1,h2,h3⟩:=h.heap;refine {vm:=h.vm,len:=h.len,nd:=h.nd,heap:=⟨ms,cl,?_,h2,fun i e x he hx=>(h3 i e x he hx).shut hs⟩};rcases hs.block b with q | ⟨q,_⟩
  ·exact q.trans h1
  ·exact absurd q (hz b (.self _ _))
 live:=by
  intro O w b m h x hx;obtain⟨ms,cl,h1,_⟩:=h.heap;rcases hx with rfl | ⟨n,hn⟩
  ·exact dT h1
  ·rw[h.len] at hn;cases hn
end
section
variable {P:Program}{N:Nat}{cx:Cx}{s:St}{W:List Nat}
variable {dst:Option Tmp}{ty:TypeId}{pos:String}{after:Array Edge}{guard:Option (Nat×Bool)}
variable {κ:Type}[DecidableEq κ]{key:κ→Value}
def Rel.YN{μ:Mu}{a:Act}{w:World}(d:Rel N cx μ s a w){h:Nat}{k:aw}{es:List (κ×G)}(e:az s.st h=some k)(f:k.lp=some (.deep (yp key es))){b:Nat}{m:Mm}(c:μ h=some (b,m)):Jv key es (bif k.fresh then iE (cx.O s.st μ) cx.base else cx.O s.st μ) w b m:=by have:=d.st.ez h k e;rw[c] at this;exact((aV.deep f).1 this).1
def Rel.Ly{μ:Mu}{a:Act}{w:World}(b:Rel N cx μ s a w){x:Operand}{v:Value}(hx:AM.ev s x=some (.val v)):a.eval x=v:=by have:=b.ev hx;generalize a.eval x=u at this;cases this with|aG h=>cases h;rfl
def Jv.find{es:List (κ×G)}{O:Nat->Prop}{w:World}{b:Nat}{m:Mm}(h:Jv key es O w b m){p:TypeId}(K:Oc P p key)(k:κ){ms:Array MapEntry}{cl:Nat}(hb:w.heap[b]?=some (.map ms cl))(w':World):((Instr.findKey p (key k) ms.toList).run P w'=.ok none w'/\(∀e∈es,e.1≠k)/\jB es k=none)\/∃j x g,(Instr.findKey p (key k) ms.toList).run P w'=.ok (some (j,x.val)) w'/\ms.toList[j]?=some x/\x.key=key k/\es[j]?=some (k,g)/\jB es k=some g/\bN O w g x.val:=by
 obtain⟨d,v,t⟩:=K.ex;obtain⟨B,A,y,q,z⟩:=h.heap;rw[hb] at y;cases y;have r:∀x∈ms.toList,MapKept.IsKey d x.key:=fun x o=>by (have:x.key∈es.map (fun e=>key e.1):=by rw[<-q];exact kX o);obtain⟨e,_,c⟩:=eL.1 this;rw[<-c];exact t _
 rcases MapKept.findNow_spec (t k) ms.toList 0 r with ⟨n,l⟩|⟨j,x,n,l,u⟩;have i:∀e∈es,e.1≠k:=fun e c a=>by (have:key e.1∈ms.toList.map (·.key):=by rw[q];exact eL.2 ⟨e,c,rfl⟩);obtain⟨x,o,s⟩:=eL.1 this;exact l x o (by rw[s,a])
 exact .inl ⟨MapKept.run_findKey v n,i,Ql i⟩;have f:(es.map fun e=>key e.1)[j]?=some x.key:=by rw[<-q,ao,l];rfl
 rw[ao] at f;cases c:es[j]? with|none=>rw[c] at f;cases f|some e=>rw[c] at f;have f:key e.1=x.key:=ed f;have a:e.1=k:=K.inj _ _ (f.trans u);obtain⟨C,g⟩:=e;simp only at a;subst a;rw[dl] at n;exact .inr ⟨j,x,g,MapKept.run_findKey v n,l,u,c,Gg h.nd c,z j _ x c l⟩
def YL.jB{t T et:TypeId}{x y:Operand}{h:Nat}{k:aw}{es:List (κ×G)}{ky:κ}{q:Value}{c:Bool}(hx:ev s x=some (.eT h))(hy:ev s y=some (.val (key ky)))(hk:az s.st h=some k)(hl:k.lp=some (.deep (yp key es)))(Y:k.fresh=true->∀e∈es,∃v,e.2=.val v)(ht:P.underlying t=some (.map T et))(K:Oc P T key)(U:∀w,(zeroValue et).run P w=.ok q w)(hW:W.contains h=false):fQ P W s ⟨dst,.lookup t x y c,ty,pos,after,guard⟩ (bif c then .bE [(AM.jB es ky).getD (.val q),.val (.bool (AM.jB es ky).isSome)] else(AM.jB es ky).getD (.val q)):=fun N J Q a w n=>by obtain⟨b,m,e1,hm⟩:=n.eT hx;have L:=n.YN hk hl hm;have e2:=n.Ly hy;obtain⟨d,M,V⟩:=K.ex;obtain⟨ms,cl,O,_,_⟩:=L.heap;(have hv:∃v:Value,(∃f:Option (Nat×Value),(∀i,(Instr.findKey T (key ky) ms.toList).run P i=.ok f i)/\((f=none/\v=q/\(AM.jB es ky).isSome=false)\/∃j,f=some (j,v)/\(AM.jB es ky).isSome=true))/\bN (bif k.fresh then iE (J.O s.st Q) J.base else J.O s.st Q) w ((AM.jB es ky).getD (.val q)) v:=by rcases L.find K ky O w with ⟨X,q2,r⟩|⟨j,x,g,X,q2,r,q4,Z,q6⟩;refine⟨q,⟨none,fun i=>?_,.inl ⟨rfl,rfl,by rw[r];rfl⟩⟩,by rw[r];exact .val _⟩;rcases L.find K ky O i with ⟨B,_⟩|⟨j,x,g,_,_,_,_,r5,_⟩;exact B;rw[r] at r5;cases r5;refine⟨x.val,⟨some (j,x.val),fun i=>?_,.inr ⟨j,rfl,by rw[Z];rfl⟩⟩,by rw[Z];exact q6⟩;have hN:=MapKept.findNow_spec (V ky) ms.toList 0 (fun z U=>by obtain⟨ms',cl',g1,g2,g3⟩:=L.heap;rw[O] at g1;cases g1;(have:z.key∈es.map (fun e=>key e.1):=by rw[<-g2];exact kX U);obtain⟨e,_,he⟩:=eL.1 this;rw[<-he];exact V _);rcases hN with ⟨B,_⟩|⟨j',x',B,_,_⟩;have C:=MapKept.run_findKey (P:=P) (w:=w) M B;rw[X] at C;cases C;have C:=MapKept.run_findKey (P:=P) (w:=w) M B;rw[X] at C;have r3:=MapKept.run_findKey (P:=P) (w:=i) M B;rw[r3];have:=Result.ok.inj C;rw[this.1]);obtain⟨v,⟨f,hf,A⟩,l⟩:=hv;(have E:∀i,i.heap[b]?=w.heap[b]?->(Instr.lookup t (.map (some b)) (key ky) c).run P i=.ok (bif c then .tuple #[v,.bool (AM.jB es ky).isSome] else v) i:=fun i R=>by rw[O] at R;have o:=MapKept.run_getObj_map (P:=P) R;have F:=fun e=>MapKept.run_checkKey (P:=P) (w:=i) M (V ky) e 9999;rcases A with ⟨rfl,rfl,r⟩|⟨j,rfl,r⟩;cases c <;> simp[Instr.lookup,run_underlying ht,o,F,hf i,U,r];cases c <;> simp[Instr.lookup,run_underlying ht,o,F,hf i,r]);(have H:aU (J.O s.st Q) J.base w Q ((AM.jB es ky).getD (.val q)) v:=by cases D:k.fresh with|false=>rw[D] at l;exact .aG l|true=>(have I:∃u,(AM.jB es ky).getD (.val q)=.val u:=by unfold AM.jB;cases hq:es.find? (fun e=>decide (e.1=ky)) with|none=>exact⟨q,rfl⟩|some e=>obtain⟨u,p⟩:=Y D e (List.mem_of_find?_eq_some hq);exact⟨u,p⟩);obtain⟨u,p⟩:=I;rw[p] at l|-;cases l;exact .aG (.val _));refine⟨bif c then .tuple #[v,.bool (AM.jB es ky).isSome] else v,?_,fun i hs S=>?_⟩;(cases c with|false=>exact H|true=>refine .bE _ [v,.bool (AM.jB es ky).isSome] rfl fun j g u o p=>?_;match j,o,p with|0,o,p=>cases o;cases p;exact H|1,o,p=>cases o;cases p;exact .aG (.val _)|j+2,o,p=>simp at o);have R:=n.zJ hk hm hW ⟨hs,S⟩ (.self b m);simp[execOp,e1,e2,E i R]
def YL.aad{t m o:TypeId}{x y:Operand}{ky:κ}{h:Value}{c:Bool}(hx:ev s x=some (.val (.map none)))(z:ev s y=some (.val (key ky)))(ht:P.underlying t=some (.map m o))(K:Oc P m key)(A:∀w,(zeroValue o).run P w=.ok h w):fQ P W s ⟨dst,.lookup t x y c,ty,pos,after,guard⟩ (bif c then .bE [.val h,.val (.bool false)] else .val h):=fun N H G a w f=>by have r:=f.Ly hx;have v:=f.Ly z;obtain⟨d,q,p⟩:=K.ex;(have l:∀b,(Instr.lookup t (.map none) (key ky) c).run P b=.ok (bif c then .tuple #[h,.bool false] else h) b:=fun b=>by have n:=fun e=>MapKept.run_checkKey (P:=P) (w:=b) q (p ky) e 9999;(have C:∀b,(Instr.findKey m (key ky) []).run P b=.ok none b:=fun b=>by rcases MapKept.findNow_spec (p ky) [] 0 (fun x hx=>by cases hx) with ⟨D,_⟩|⟨j,x,_,B,_⟩;exact MapKept.run_findKey q D;cases B);cases c <;> simp[Instr.lookup,run_underlying ht,n,C,A]);refine⟨bif c then .tuple #[h,.bool false] else h,?_,fun b F E=>?_⟩;(cases c with|false=>exact .aG (.val _)|true=>refine .bE _ [h,.bool false] rfl fun j g u i k=>?_;match j,i,k with|0,i,k=>cases i;cases k;exact .aG (.val _)|1,i,k=>cases i;cases k;exact .aG (.val _)|j+2,i,k=>simp at i);simp[execOp,r,v,l b]
def wD:G->Option Bool|.val (.map none)=>some true|.eT _=>some false|_=>none
def aU.wD{O:Nat->Prop}{base:Nat}{w:World}{μ:Mu}{g:G}{v:Value}{b:Bool}(h:aU O base w μ g v)(hn:AM.wD g=some b):∃p,v=.map p/\p.isNone=b:=by cases g with|val u=>(cases h with|aG h=>cases h;cases v with|map p=>(cases p with|none=>cases hn;exact⟨none,rfl,rfl⟩|some _=>cases hn)|_=>cases hn)|eT c=>(cases hn;cases h with|aG h=>cases h|eT _ b m a=>exact⟨_,rfl,rfl⟩)|_=>cases hn
def Gm{t c e:TypeId}(ht:P.underlying t=some (.map c e))(p:Option Nat)(w:World):(Op.equal t (.map p) (.map none)).run P w=.ok p.isNone w:=by
 have b:∀d,(Op.equalIn (d+1) t (.map p) (.map none)).run P w=.ok p.isNone w:=fun d=>by cases p with|none=>simp[Op.equalIn,run_underlying ht]|some a=>simp[Op.equalIn,run_underlying ht]
 exact b 9999
def PY.aap{t t' i e:TypeId}{x:Operand}{g:G}{b:Bool}(hx:ev s x=some g)(hn:AM.wD g=some b)(ht:P.underlying t=some (.map i e)):PY P s ⟨dst,.binOp .eql t x (.const (.map none)) t',ty,pos,after,guard⟩ (.val (.bool b)):=fun N k l a w f=>by obtain⟨p,j,rfl⟩:=(f.ev hx).wD hn;refine⟨_,.aG (.val _),fun c=>?_⟩;have h:=Gm (P:=P) ht p c;(have d:(eqGuard .eql t x (.const (.map none)) (.map p) (.map none)).run P c=.ok () c:=by simp[eqGuard]);simp only[execOp,j,show a.eval (.const (.map none))=.map none from rfl,Sem.run_bind,d,Result.andThen_ok];simp[binOp,h]
def PY.aao{t t' i e:TypeId}{x:Operand}{g:G}{b:Bool}(hx:ev s x=some g)(hn:AM.wD g=some b)(ht:P.underlying t=some (.map i e)):PY P s ⟨dst,.binOp .neq t x (.const (.map none)) t',ty,pos,after,guard⟩ (.val (.bool (!b))):=fun N k l a w f=>by obtain⟨p,j,rfl⟩:=(f.ev hx).wD hn;refine⟨_,.aG (.val _),fun c=>?_⟩;have h:=Gm (P:=P) ht p c;(have d:(eqGuard .neq t x (.const (.map none)) (.map p) (.map none)).run P c=.ok () c:=by simp[eqGuard]);simp only[execOp,j,show a.eval (.const (.map none))=.map none from rfl,Sem.run_bind,d,Result.andThen_ok];simp[binOp,h]
end
end Go.AM
/-
 AM:maps of plain data:one is made;a key gets another value.
-/
namespace Go.AM
section
variable {P:Program}{N:Nat}{cx:Cx}{s:St}{W:List Nat}
variable {ty:TypeId}{pos:String}{after:Array Edge}{guard:Option (Nat×Bool)}
variable {κ:Type}[DecidableEq κ]{key:κ→Value}
def UN{α:Type}{es:List (κ×α)}{k:κ}{g:α}(h:(es.map (·.1)).Nodup):((l4 es k g).map (·.1)).Nodup:=by cases c:sn es k with|true=>rw[Qj c];exact h|false=>unfold l4;rw[c,cond_false,cS,List.nodup_append];refine⟨h,by simp,fun a i b d=>?_⟩;simp at d;subst d;intro e;subst e;obtain⟨x,f,rfl⟩:=eL.1 i;unfold sn at c;rw[gk] at c;exact c x f (by simp)
def EF.l4{t kt et : TypeId}{x y z : Operand}{h : Nat}{k : aw}{es : List (κ × G)}{ky : κ}{v : Value}(hx : ev s x = some (.eT h))(hy : ev s y = some (.val (key ky)))(hz : ev s z = some (.val v))(V : az s.st h = some k)(hl : k.lp = some (.deep (yp key es)))(ht : P.underlying t = some (.map kt et))(K : Oc P kt key)(hW : W.contains h = true):cu P W s ⟨none, .mapUpdate t x y z, ty, pos, after, guard⟩ (· = { fr := s.fr,st := dJ s.st h { k with lp := some (.deep (yp key (AM.l4 es ky (.val v))))},df := s.df}):=by
 refine cu.skip rfl (fun _ h => by cases h) ?_;intro N A H a w E;obtain ⟨b, m, e1, Y⟩ := E.eT hx;have F := E.YN V hl Y;have e2 := E.Ly hy;have e3 := E.Ly hz;obtain ⟨d, hd, hi⟩ := K.ex;obtain ⟨u, D, Q, h2, h3⟩ := F.heap;have hg := MapKept.run_getObj_map (P := P) Q;have M := fun e => MapKept.run_checkKey (P := P) (w := w) hd (hi ky) e 9999;have L := E.st.ez h k V;rw [Y] at L;obtain ⟨_, p2, p3, p4⟩ := (aV.deep hl).1 L;have VA : ∃ f l, (Instr.mapUpdate t (.map (some b)) (key ky) v).run P w = .ok () { w with heap := w.heap.setIfInBounds b (.map f l)} /\f.toList.map (·.key) = (AM.l4 es ky (.val v)).map (fun e => key e.1) /\ ∀ B U, (∀ (i : Nat) (e : κ × G) (x : MapEntry), es[i]? = some e -> u.toList[i]? = some x -> bN B U e.2 x.val) ->∀ (i : Nat) (e : κ × G) (x : MapEntry), (AM.l4 es ky (.val v))[i]? = some e -> f.toList[i]? = some x -> bN B U e.2 x.val := by (have hlen : u.toList.length = es.length := by have := congrArg List.length h2;simpa using this);rcases F.find K ky Q w with ⟨q1, q2, q3⟩|⟨j, x0, g, q1, q2, q3, T, q5, q6⟩;(have R : AM.l4 es ky (.val v) = es ++ [(ky, .val v)] := by unfold AM.l4;rw [Oj q2];rfl);refine ⟨u.push ⟨key ky, v, D⟩, D + 1, ?_, ?_, fun B U o i e x c hx => ?_⟩;have C := MapKept.run_setObj_map (P := P) (.map (u.push ⟨key ky, v, D⟩) (D + 1)) Q;simp [Instr.mapUpdate, run_underlying ht, hg, M, q1, C];rw [R, Array.toList_push, cS, cS, h2];rfl;rw [R] at c;rw [Array.toList_push] at hx;rw [bZ] at c hx;split at c;rename_i hlt;rw [if_pos (by omega)] at hx;exact o i e x c hx;rename_i hlt;rw [if_neg (by omega)] at hx;(have hi0 : i - es.length = 0 := by cases r : i - es.length with|zero=> rfl|succ n=> rw [r] at c;simp at c);rw [hi0] at c;rw [show i - u.toList.length = 0 by omega] at hx;cases c;cases hx;exact .val _;(have R : AM.l4 es ky (.val v) = es.map (fun e => bif decide (e.1 = ky) then (ky, .val v) else e) := by unfold AM.l4;rw [Qk T];rfl);(have hj : u[j]? = some x0 := by simpa using q2);refine ⟨u.modify j fun e => { e with key := key ky,val := v}, D, ?_, ?_, fun B U o i e x c hx => ?_⟩;have C := MapKept.run_setObj_map (P := P) (.map (u.modify j fun e => { e with key := key ky,val := v}) D) Q;simp [Instr.mapUpdate, run_underlying ht, hg, M, q1, hj, q3, MapKept.run_keyThatStays (hi ky), C];rw [R, iY];apply dm;intro i;rw [ao, ao, bz, Array.getElem?_modify];(have J : (u.toList.map (·.key))[i]? = (es.map fun e => key e.1)[i]? := by rw [h2]);rw [ao, ao, bz] at J;by_cases hji : j = i;subst hji;rw [if_pos rfl, hj, T];simp;rw [if_neg hji, J];(cases r : es[i]? with|none=> rfl|some e=>show some (key e.1) = some (key (bif decide (e.1 = ky) then (ky, G.val v) else e).1);by_cases q : e.1 = ky;rw [decide_eq_true q, q];rfl;rw [decide_eq_false q];rfl);rw [R, ao] at c;cases r : es[i]? with|none=> rw [r] at c;cases c|some O=>rw [r] at c;have c : (bif decide (O.1 = ky) then (ky, G.val v) else O) = e := ed c;rw [bz, Array.getElem?_modify] at hx;by_cases hji : j = i;subst hji;rw [T] at r;cases r;rw [if_pos rfl, hj] at hx;simp at hx c;subst hx c;exact .val _;rw [if_neg hji] at hx;(have hne : O.1 ≠ ky := fun q => by have dw := F.nd;(have a1 : (es.map (·.1))[i]? = some ky := by rw [ao, r, <- q];rfl);(have a2 : (es.map (·.1))[j]? = some ky := by rw [ao, T];rfl);exact hji ((List.getElem?_inj (ap.1 a2).1 dw).1 (a2.trans a1.symm)));rw [decide_eq_false hne] at c;have c : O = e := c;subst c;exact o i O x r (by rw [bz];exact hx)
 obtain ⟨f, l, r1, r2, r3⟩ := VA;have p := MapKept.heap_set (o' := .map f l) Q;refine ⟨H, { w with heap := w.heap.setIfInBounds b (.map f l)}, ?_, ?_⟩;simp [execOp, e1, e2, e3, r1];refine E.rewrite (k' := { k with lp := some (.deep (yp key (AM.l4 es ky (.val v))))}) V Y (.self b m) (by simp) (fun X hb' => p.2 X hb') rfl rfl rfl id (fun B hO => ?_) hW;refine (aV.deep (d := yp key (AM.l4 es ky (.val v))) rfl).2 ⟨?_, p2, p3, p4⟩;have hO2 : ∀ x, x < w.heap.size -> ¬ (bif k.fresh then iE (A.O s.st H) A.base else A.O s.st H) x -> ¬ (bif k.fresh then iE B A.base else B) x := by intro x hx I Z;cases S : k.fresh with|false=> rw [S] at I Z;exact I ((hO x).2 Z)|true=> rw [S] at I Z;exact I (Z.imp id (hO x).2)
 have hkp : Kept (bif k.fresh then iE (A.O s.st H) A.base else A.O s.st H) w { w with heap := w.heap.setIfInBounds b (.map f l)} := by refine ⟨by simp, fun X _ I => p.2 X fun e => I ?_⟩;subst e;have : A.O s.st H X := .inr (.root V Y);cases k.fresh with|false=> exact this|true=> exact .inr this
 exact { vm := F.vm,len := F.len,nd := UN F.nd,heap := ⟨f, l, p.1, r2, r3 _ _ fun i e x c hx => (h3 i e x c hx).mono hkp hO2⟩}
def OM(key:κ->Value):aw:=⟨0,true,true,true,1,[],some (.deep (yp key []))⟩
def Rel.YC{μ : Mu}{a : Act}{w : World}(A : Rel N cx μ s a w){hd : Nat}(key : κ -> Value)(o : fresh s hd = true):Rel N cx (lD μ hd (some (w.heap.size, 0, []))) { fr := s.fr,st := (hd, OM key) :: s.st,df := s.df} a (w.alloc (.map #[] 0)) /\ Step W s.st μ ((hd, OM key) :: s.st) (lD μ hd (some (w.heap.size, 0, []))) w (w.alloc (.map #[] 0)):=by
 unfold fresh at o;simp only [ag, Option.isNone_iff_eq_none] at o;obtain ⟨f1, R, M, P, S⟩ := o;have h := A.st;have D : ∀ b, b < w.heap.size -> ¬ cx.O s.st μ b -> ¬ cx.O ((hd, OM key) :: s.st) (lD μ hd (some (w.heap.size, 0, []))) b := by intro b z L E;rcases E with E|⟨x, l, c, m, d, f, k⟩;exact L (.inl E);by_cases e : x = hd;subst e;rw [cf] at f;cases f;rw [In.plain.1 k] at z;omega;rw [aD _ s.st e] at d;rw [bc e] at f;exact L (.inr ⟨x, l, c, m, d, f, k⟩)
 have p : ∀ x l b m y, az s.st x = some l -> μ x = some (b, m) -> In y b m -> y < w.heap.size := fun x l b m y d f k => (h.cy x l b m y d f k).2.2.1;have j := qm (cx.O s.st μ) w (.map #[] 0);refine ⟨{ st := { ez := ?_,dr := ?_,cy := ?_,fJ := ?_,fq := h.fq,hb := ?_,os := h.os,tape := h.tape,output := h.output,gl := h.gl,dB := ?_},nd := (A.nd.mono j D).gZ (fun g u y n => bc fun e => by subst e;rw [p8 P u] at n;cases n),sz := A.sz,fr := fun t g u => ?_}, ?_⟩;intro x l d;by_cases e : x = hd;subst e;rw [dY] at d;cases d;rw [cf];refine (aV.deep rfl).2 ⟨?_, rfl, rfl, fun _ => h.hb⟩;exact { vm := rfl,len := rfl,nd := by simp,heap := ⟨#[], 0, heap_alloc_new w _, rfl, fun i e x h => by simp at h⟩};rw [aD _ s.st e] at d;rw [bc e];refine ((h.ez x l d).mono (fun b m q y n => dR w _ y (p x l b m y d q n)) j D).gZ fun Z g u y n => bc ?_;intro e;subst e;rw [tq M d Z u] at n;cases n;intro x C B J y b m O I d f k r G F;by_cases e : x = hd;by_cases e' : C = hd;rw [e, e'];subst e;rw [cf] at k;rw [bc e'] at r;rw [aD _ s.st e'] at f;cases k;have := p C J _ I y f r F;rw [In.plain.1 G] at this;omega;by_cases e' : C = hd;subst e';rw [cf] at r;rw [bc e] at k;rw [aD _ s.st e] at d;cases r;have := p x B _ m y d k G;rw [In.plain.1 F] at this;omega;rw [aD _ s.st e] at d;rw [aD _ s.st e'] at f;rw [bc e] at k;rw [bc e'] at r;exact h.dr x C B J y b m O I d f k r G F;intro x l b m y d f k;by_cases e : x = hd;subst e;rw [cf] at f;cases f;rw [In.plain.1 k];refine ⟨fun T => ?_, .inl h.hb, by simp, fun _ => h.hb⟩;have := h.fq _ T;have := h.hb;omega;rw [aD _ s.st e] at d;rw [bc e] at f;obtain ⟨U, V, a3, Q⟩ := h.cy x l b m y d f k;exact ⟨U, V, by simp only [World.size_alloc];omega, Q⟩;intro x B d f;by_cases e : x = hd;subst e;rw [kj S] at f;cases f;rw [aD _ s.st e] at d;rw [bc e];exact h.fJ x B d f;simp only [World.size_alloc];have := h.hb;omega;intro b z Y;rw [dR w _ b (by have := h.hb;omega)];exact h.dB b z Y;obtain ⟨v, X, H⟩ := A.fr t g u;refine ⟨v, X, (H.mono j D (aH _)).gZ fun y n => bc ?_⟩;intro e;subst e;rw [nm R u] at n;cases n;refine ⟨by simp, fun b z _ => dR w _ b z, fun h l c m b hw d q K => ?_⟩;by_cases e : h = hd;subst e;rw [cf] at q;cases q;exact .inr (by rw [In.plain.1 K];exact aH _);rw [aD _ s.st e] at d;rw [bc e] at q;exact .inl ⟨h, l, c, m, hw, d, q, K⟩
def EF.aaW{d : Nat}{t : TypeId}(hd : Nat)(key : κ -> Value)(b : fresh s hd = true):cu P W s ⟨some d, .makeMap t none, ty, pos, after, guard⟩ (· = { fr := (d, .eT hd) :: s.fr,st := (hd, OM key) :: s.st,df := s.df}):=by refine cu.of (s1 := { fr := s.fr,st := (hd, OM key) :: s.st,df := s.df}) (g := .eT hd) rfl (fun _ h => by cases h) ?_;intro N g i a w f;obtain ⟨e, c⟩ := f.YC (W := W) key b;refine ⟨.map (some w.heap.size), _, _, ?_, e, .eT hd _ _ (cf _ _ _), c⟩;simp [execOp, Instr.makeMap, newObj, Sem.run]
end
end Go.AM
