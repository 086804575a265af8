/-
  AM, fourth part: maps.
-/
import Derived.Test.YtongekoajbcliaaGreatDoorMgF
import Derived.Lib.AppendStr
import Derived.Lib.Builder
import Derived.MapKept
set_option linter.unusedSectionVars false
set_option linter.unusedSimpArgs false
set_option linter.unusedVariables false
/-
 AM:maps:keys that are structs of two numbers.
-/
namespace Go.AM
section
variable {P:Program}
def UU (q:IntKind) (k:Int×Int):Value:=.agg #[.int q k.1,.int q k.2]
def yU (q:IntKind) (k:Int×Int):List ((Int×Int)×Value)→Nat→Option (Nat×Value)
 | [],_=>none
 | e::r,i=>if k=e.1 then some (i,e.2) else yU q k r (i+1)
end
end Go.AM
/-
 AM:maps from two numbers to pointers:the structs that they lead to are of slices;all of it belongs to the map.
-/
namespace Go.AM
structure ME where
 key:Int×Int
 t:Nat
 f:List (Nat×List G)
def FC (O:Nat→Prop) (w:World) (kty:TypeId) (m:Mm) (p:Nat×List G) (u:Value):Prop:=
 (p.2=[]∧p.1=IT∧u=.slice none 0 0)∨(p.2≠[]∧∃c k,m.2[p.1]?=some (some (c,k))∧vE O w kty 1 p.2.length p.2 u (some (c,k)))
def YF:List (Nat×List G)→Nat→Option Nat
 | [],_=>none
 | (x,gs)::_,0=>match gs with | []=>none | _::_=>some x
 | _::r,j+1=>YF r j
def YG (e:ME):Nat→Option Nat
 | 0=>some e.t
 | j+1=>YF e.f j
def ZD (m:Mm) (t:Nat):Value:=match m.2[t]? with
 | some (some (c,_))=>.pointer (some ⟨c,0,none⟩)
 | _=>.pointer none
structure KR (q:IntKind) (kty tty:TypeId) (n:Nat) (es:List ME) (pd:Option (Option (Nat×Nat)×Nat×List G)) (O:Nat→Prop) (w:World) (b:Nat) (m:Mm):Prop where
 len:m.2.length=n
 OG:n≤maxLen
 uZ:m.1=0
 heap:∃ms clock,w.heap[b]?=some (.map ms clock)∧ms.toList.map (fun e=>(e.key,e.val))=es.map fun e=>(UU q e.key,ZD m e.t)
 root:∀(i c k:Nat),m.2[i]?=some (some (c,k))→c≠b∧c<w.heap.size
 I7:∀e∈es,∃c cs,m.2[e.t]?=some (some (c,cs.size))∧w.heap[c]?=some (.cells cs tty (0,0))∧e.f.length≤cs.size∧∀(j:Nat) (p:Nat×List G),e.f[j]?=some p→∃u,cs[j]?=some u∧FC O w kty m p u
 inj:∀(i i':Nat) (e e':ME) (j j' x x' c k k':Nat),es[i]?=some e→es[i']?=some e'→YG e j=some x→YG e' j'=some x'→m.2[x]?=some (some (c,k))→m.2[x']?=some (some (c,k'))→i=i'∧j=j'
 Ok:∀(sr:Option (Nat×Nat)) (x:Nat) (gs:List G),pd=some (sr,x,gs)→gs≠[]∧(∃c k cs,m.2[x]?=some (some (c,k))∧w.heap[c]?=some (.cells cs kty (0,0))∧cs.size=k∧k≤maxLen∧gs.length≤k∧∀(i:Nat) (g:G),gs[i]?=some g→∃v,cs[i]?=some v∧bH O w g v)∧
  ∀(e:ME) (j' x' c k k':Nat),e∈es→YG e j'=some x'→m.2[x]?=some (some (c,k))→m.2[x']?=some (some (c,k'))→∃j,sr=some (e.t,j)∧j'=j+1
theorem FC.mono {O O':Nat→Prop}{w w':World}{kty:TypeId}{m:Mm}{p:Nat×List G}{u:Value}(h:FC O w kty m p u) (hk:Kept O w w') (hO:∀x,x<w.heap.size→¬O x→¬O' x)
  (hc:∀c k,m.2[p.1]?=some (some (c,k))→w'.heap[c]?=w.heap[c]?):FC O' w' kty m p u:=
 h.imp id fun ⟨h0,c,k,h1,h2⟩=>⟨h0,c,k,h1,h2.mono hk hO fun c' k' e=>by cases e;exact hc c k h1⟩
theorem FC.shut {O Z:Nat→Prop}{w w':World}{kty:TypeId}{m:Mm}{p:Nat×List G}{u:Value}(h:FC O w kty m p u) (hs:iM Z w w'):FC O w' kty m p u:=
 h.imp id fun ⟨h0,c,k,h1,h2⟩=>⟨h0,c,k,h1,h2.shut hs⟩
def BQ (i:Nat):List (Nat×List G)→Option (List G)
 | []=>none
 | (x,gs)::r=>match gs with
  | []=>BQ i r
  | g::gs'=>bif Nat.beq x i then some (g::gs') else BQ i r
def Em (i:Nat):List ME→Option (List G)
 | []=>none
 | e::r=>match BQ i e.f with
  | some gs=>some gs
  | none=>Em i r
theorem BP {i:Nat}{gs:List G}:∀{f:List (Nat×List G)},BQ i f=some gs→gs≠[]∧∃j:Nat,f[j]?=some (i,gs)
 | [],h=>by cases h
 | (x,gs0)::r,h=>by
  simp only[BQ] at h;cases gs0 with
  | nil=>obtain⟨h1,j,h2⟩:=BP (f:=r) h;exact⟨h1,j+1,h2⟩
  | cons g gs'=>
   dsimp only at h;cases hb:Nat.beq x i with
   | true=>
    rw[hb] at h;cases h;rw[ab hb];exact⟨by simp,0,rfl⟩
   | false=>rw[hb] at h;obtain⟨h1,j,h2⟩:=BP (f:=r) h;exact⟨h1,j+1,h2⟩
theorem BO {i:Nat}{gs:List G}:∀{es:List ME},Em i es=some gs→gs≠[]∧∃e∈es,∃j:Nat,e.f[j]?=some (i,gs)
 | [],h=>by cases h
 | e::r,h=>by
  simp only[Em] at h;cases hf:BQ i e.f with
  | some gs'=>rw[hf] at h;cases h;obtain⟨h1,j,h2⟩:=BP hf;exact⟨h1,e,ar,j,h2⟩
  | none=>rw[hf] at h;obtain⟨h1,e',h2,h3⟩:=BO (es:=r) h;exact⟨h1,e',ap _ h2,h3⟩
def Gc (q:IntKind) (kty tty:TypeId) (n:Nat) (es:List ME) (pd:Option (Option (Nat×Nat)×Nat×List G)):Dp where
 φ:=KR q kty tty n es pd
 jb:=False
 row:=fun i=>Em i es
 Lr:=fun h=>(BO h).1
 PN:=by
  intro O w b m i gs h hrow;obtain⟨h0,e,he,j,hj⟩:=BO hrow;obtain⟨c,cs,h1,h2,h3,h4⟩:=h.I7 e he;obtain⟨u,h5,h6⟩:=h4 j _ hj;rcases h6 with ⟨h6,_⟩ | ⟨_,c',k',h7,cap,cs',_,_,_,h8,_,_,_,h9⟩
  ·exact absurd h6 h0
  ·exact⟨c',k',cs',kty,h7,h8,h9⟩
 mono:=by
  intro O O' w w' b m h hk hO hb;refine {len:=h.len,OG:=h.OG,uZ:=h.uZ,heap:=?_,root:=fun i c k e=>⟨(h.root i c k e).1,cJ (h.root i c k e).2 hk.size⟩,I7:=fun e he=>?_,inj:=h.inj,Ok:=fun sr x gs e=>?_}
  ·obtain⟨ms,cl,h1,h2⟩:=h.heap;exact⟨ms,cl,(hb b (.self _ _)).trans h1,h2⟩
  ·obtain⟨c,cs,h1,h2,h3,h4⟩:=h.I7 e he;refine⟨c,cs,h1,(hb c (.xp h1)).trans h2,h3,fun j p hp=>?_⟩;obtain⟨u,h5,h6⟩:=h4 j p hp;exact⟨u,h5,h6.mono hk hO fun c k e=>hb c (.xp e)⟩
  ·obtain⟨h0,⟨c,k,cs,h1,h2,h3,h4,h5,h6⟩,h7⟩:=h.Ok sr x gs e;exact⟨h0,⟨c,k,cs,h1,(hb c (.xp h1)).trans h2,h3,h4,h5,fun i g hg=>let ⟨v,hv,hr⟩:=h6 i g hg;⟨v,hv,hr.mono hk hO⟩⟩,h7⟩
 shut:=by
  intro O Z w w' b m h hs hz;have hb:∀x,In x b m→w'.heap[x]?=w.heap[x]?:=fun x hx=>by
   rcases hs.block x with h | ⟨h,_⟩
   ·exact h
   ·exact absurd h (hz x hx)
  refine {len:=h.len,OG:=h.OG,uZ:=h.uZ,heap:=?_,root:=fun i c k e=>⟨(h.root i c k e).1,by rw[hs.size];exact(h.root i c k e).2⟩,I7:=fun e he=>?_,inj:=h.inj,Ok:=fun sr x gs e=>?_}
  ·obtain⟨ms,cl,h1,h2⟩:=h.heap;exact⟨ms,cl,(hb b (.self _ _)).trans h1,h2⟩
  ·obtain⟨c,cs,h1,h2,h3,h4⟩:=h.I7 e he;refine⟨c,cs,h1,(hb c (.xp h1)).trans h2,h3,fun j p hp=>?_⟩;obtain⟨u,h5,h6⟩:=h4 j p hp;exact⟨u,h5,h6.shut hs⟩
  ·obtain⟨h0,⟨c,k,cs,h1,h2,h3,h4,h5,h6⟩,h7⟩:=h.Ok sr x gs e;exact⟨h0,⟨c,k,cs,h1,(hb c (.xp h1)).trans h2,h3,h4,h5,fun i g hg=>let ⟨v,hv,hr⟩:=h6 i g hg;⟨v,hv,hr.shut hs⟩⟩,h7⟩
 live:=by
  intro O w b m h x hx;rcases hx with rfl | ⟨n,hn⟩
  ·obtain⟨ms,cl,h1,_⟩:=h.heap;exact dQ h1
  ·obtain⟨i,hi⟩:=cA hn;exact(h.root i x n hi).2
section
variable {P:Program}{N:Nat}{cx:Cx}{s:St}{W:List Nat}
variable {dst:Option Tmp}{ty:TypeId}{pos:String}{after:Array Edge}{guard:Option (Nat×Bool)}
theorem Rel.We {μ:Mu}{a:Act}{w:World}(hr:Rel N cx μ s a w){h:Nat}{k:av}{q:IntKind}{kty tty:TypeId}{n:Nat}{es:List ME}{pd:Option (Option (Nat×Nat)×Nat×List G)}(hk:ay s.st h=some k) (hl:k.lp=some (.deep (Gc q kty tty n es pd))){b:Nat}{m:Mm}(hm:μ h=some (b,m)):
  KR q kty tty n es pd (bif k.fresh then ir (cx.O s.st μ) cx.base else cx.O s.st μ) w b m:=by
 have:=hr.st.en h k hk;rw[hm] at this;exact((aV.deep hl).1 this).1
theorem Rel.eN {μ:Mu}{a:Act}{w:World}(hrel:Rel N cx μ s a w){x:Operand}{h:Nat}(hx:AM.ev s x=some (.eN h)):∃b m,a.eval x=.map (some b)∧μ h=some (b,m):=by
 have hr:=hrel.ev hx;generalize a.eval x=v at hr;cases hr with
 | aF h=>cases h
 | eN _ b m hm=>exact⟨b,m,rfl,hm⟩
def N1 (es:List ME) (t:Nat):Option ME:=es.find? fun e=>Nat.beq e.t t
theorem TY {es:List ME}{t:Nat}{e:ME}(h:N1 es t=some e):e∈es∧e.t=t:=⟨List.mem_of_find?_eq_some h,ab (by simpa using List.find?_some h)⟩
theorem YL.Yx {t:TypeId}{x:Operand}{h tt off z:Nat}{k:av}{q:IntKind}{kty tty:TypeId}{n:Nat}{es:List ME}{pd:Option (Option (Nat×Nat)×Nat×List G)}{e:ME}{gs:List G}(hx:ev s x=some (.kp h tt off)) (hk:ay s.st h=some k) (hl:k.lp=some (.deep (Gc q kty tty n es pd)))
  (he:N1 es tt=some e) (hf:e.f[off]?=some (z,gs)) (hag:∀w,(isAgg t).run P w=.ok false w) (hW:W.contains h=false):fI P W s ⟨dst,.load t x,ty,pos,after,guard⟩ (.ks h z 1 gs.length):=fun N cx μ a w hrel=>by
 obtain⟨b,m,c,n',e1,hm,hc⟩:=hrel.kp hx;have hM:=hrel.We hk hl hm;obtain⟨he1,he2⟩:=TY he;obtain⟨c',cs,h1,h2,h3,h4⟩:=hM.I7 e he1;rw[he2,hc] at h1;cases h1;obtain⟨u,h5,h6⟩:=h4 off _ hf;refine⟨u,?_,fun w' hs hw'=>?_⟩
 ·rcases h6 with ⟨q1,_,rfl⟩ | ⟨q1,c2,k2,q2,q3⟩
  ·have q1:gs=[]:=q1;subst q1;exact .mh h z 1 none 0 fun _=>⟨rfl,rfl⟩
  ·obtain⟨cap,cs',rfl,r1,r2,_⟩:=q3;exact .ks h z 1 _ b m c2 k2 cap hm q2 r1 r2
 ·have hb:=hrel.zj hk hm hW ⟨hs,hw'⟩ (.xp hc);rw[h2] at hb;have hcell:w'.cell? ⟨c,off,none⟩=some u:=by rw[cell_of hb,h5]
  simp[execOp,e1,Instr.loadAt,Instr.sureAddr,loadVar,hag,hcell]
end
end Go.AM
/-
 AM:maps:what belongs to a block gets more behind.
-/
namespace Go.AM
section
variable {P:Program}{N:Nat}{cx:Cx}{s:St}{W:List Nat}
end
end Go.AM
/-
 AM:maps:one is made;an entry more,with a struct that was the call's own.
-/
namespace Go.AM
section
variable {P:Program}{N:Nat}{cx:Cx}{s:St}{W:List Nat}
variable {ty:TypeId}{pos:String}{after:Array Edge}{guard:Option (Nat×Bool)}
end
end Go.AM
/-
 AM:maps:an entry more;a slice's append;its store.
-/
namespace Go.AM
section
variable {P:Program}{N:Nat}{cx:Cx}{s:St}{W:List Nat}
variable {ty:TypeId}{pos:String}{after:Array Edge}{guard:Option (Nat×Bool)}
end
end Go.AM
/-
 AM:maps:a slice's append;its store.
-/
namespace Go.AM
section
variable {P:Program}{N:Nat}{cx:Cx}{s:St}{W:List Nat}
variable {ty:TypeId}{pos:String}{after:Array Edge}{guard:Option (Nat×Bool)}{d:Nat}
variable {dst:Option Tmp}
theorem YL.Xh {t:TypeId}{x:Operand}{h z off:Nat}{k:av}{q:IntKind}{kty tty:TypeId}{n:Nat}{es:List ME}{pd:Option (Option (Nat×Nat)×Nat×List G)}{gs:List G}{u:Value}(hx:ev s x=some (.kp h z off)) (hk:ay s.st h=some k) (hl:k.lp=some (.deep (Gc q kty tty n es pd)))
  (hrow:Em z es=some gs) (hg:gs[off]?=some (.val u)) (hag:∀w,(isAgg t).run P w=.ok false w) (hW:W.contains h=false):fI P W s ⟨dst,.load t x,ty,pos,after,guard⟩ (.val u):=fun N cx μ a w hrel=>by
 obtain⟨b,m,c,n',e1,hm,hc⟩:=hrel.kp hx;have hM:=hrel.We hk hl hm;obtain⟨c',k',cs,bI,h1,h2,h3⟩:=(Gc q kty tty n es pd).PN hM hrow;rw[hc] at h1;cases h1;obtain⟨v,h5,h6⟩:=h3 off _ hg;cases h6;refine⟨u,.aF (.val _),fun w' hs hw'=>?_⟩;have hb:=hrel.zj hk hm hW ⟨hs,hw'⟩ (.xp hc);rw[h2] at hb;have hcell:w'.cell? ⟨c,off,none⟩=some u:=by rw[cell_of hb,h5]
 simp[execOp,e1,Instr.loadAt,Instr.sureAddr,loadVar,hag,hcell]
end
end Go.AM
/-
 AM:deferred calls,panics that are caught.
-/
namespace Go.AM
section
variable {P:Program}{F:Fence}{n:Nat}
end
section
variable {P:Program}{N:Nat}
variable {X:Nat→Prop}{st:List (Nat×av)}{μ:Mu}{w:World}{fn:Func}{Q:G→List (Nat×av)→Prop}{Qp:List PanicEntry→List (Nat×av)→Prop}
end
end Go.AM
/-
 AM:a string's bytes appended;pointers to a block against themselves.
-/
namespace Go.AM
section
variable {P:Program}{N:Nat}{cx:Cx}{s:St}
variable {ty:TypeId}{pos:String}{after:Array Edge}{guard:Option (Nat×Bool)}{W:List Nat}{d:Nat}
def vQ (b:ByteArray):List G:=b.data.toList.map fun x=>.val (.int .u8 x.toNat)
theorem DK (b:ByteArray):(vQ b).length=b.size:=by rw[vQ,aN,b9];rfl
theorem T2 {b:ByteArray}{j:Nat}{g:G}(h:(vQ b)[j]?=some g):∃u,(Lib.strCells b)[j]?=some u∧g=.val u:=by
 unfold vQ at h;rw[ak] at h;obtain⟨x,hx,rfl⟩:=az.1 h;exact⟨_,by rw[Lib.strCells,ak,hx];rfl,rfl⟩
theorem EF.TB {t u e:TypeId}{x y:Operand}{h n:Nat}{k:av}{b:ByteArray}(hx:ev s x=some (.aL h 1 0 n)) (hy:ev s y=some (.val (.string b))) (hk:ay s.st h=some k)
  (hp:k.pure=true) (hety:k.bI=e) (hksz:k.sz=1) (hfull:k.cells.length=n) (ht:P.underlying t=some (.slice e)) (hu:P.underlying u=some .string)
  (hi:(P.info? e).map (fun i=>(i.zero,i.size,i.bytes))=some (some (.int .u8 0),1,1))
  (hbound:n+b.size≤140737488355328) (hW:W.contains h=true) (hlp:k.lp=none:=by rfl) (hpn:pinned h=false:=by rfl) (hdf:qn h s.df=true:=by rfl):
  cm P W s ⟨some d,.call ⟨.builtin .append,#[x,y],#[t,u]⟩,ty,pos,after,guard⟩
   (·={fr:=(d,.aL h 1 0 (n+b.size))::nA h s.fr,st:=(h,{k with cells:=k.cells++vQ b})::gA h s.st,df:=s.df}):=by
 subst hety;refine⟨(fun _ h=>by cases h),?_⟩;intro N cx μ a w hr hN K Q hK;obtain⟨i,hi1,hi2⟩:=az.1 hi;simp only[qt] at hi2;obtain⟨hz,hs1,hb1⟩:=hi2;have uM:n+b.size≤maxLen:=by unfold maxLen;omega
 have hv:(a.eval x=.slice none 0 0∧n=0∧μ h=none∧k.cells=[])∨
   ∃b cap m0 cs,a.eval x=.slice (some ⟨b,0,none⟩) n cap∧n≤cap∧μ h=some (b,m0)∧cap*1=m0.1∧w.heap[b]?=some (.cells cs k.bI (0,0))∧cs.size=m0.1∧m0.1≤maxLen*1∧
    ∀(j:Nat) (g:G),k.cells[j]?=some g→∃v,cs[j]?=some v∧cZ (cx.O s.st μ) cx.base w μ k g v:=by
  have hv:=hr.ev hx;generalize a.eval x=v at hv;cases hv with
  | aF h=>cases h
  | gk _ _ hm=>
   have:=hr.st.en h k hk;rw[hm] at this;exact .inl ⟨rfl,rfl,hm,this.1⟩
  | aL _ _ _ _ b m0 cap hm hn hc=>
   obtain⟨cs,h1,h2,h3,h4,h5,h6⟩:=hr.own hk hm hlp;exact .inr ⟨b,cap,m0,cs,rfl,hn,hm,by omega,h1,h2,by rw[←hksz];exact h5 (by omega),h6⟩
  | fq _ _ off0 b _ hm hpos=>exact absurd hpos (mT _)
 have hyv:a.eval y=.string b:=hr.val hy;have hown:∃v xs,a.eval x=v∧w.ownsRow 0 k.bI 1 v n xs∧(∀(j:Nat) (g:G),k.cells[j]?=some g→∃v,xs[j]?=some v∧cZ (cx.O s.st μ) cx.base w μ k g v):=by
  rcases hv with ⟨h1,h2,h3,h4⟩ | ⟨b,cap,m0,cs,h1,h2,h3,h4,h6,h7,h8,h9⟩
  ·subst h2;exact⟨_,[],h1,World.ownsRow_nil w 0 k.bI 1,fun j g hg=>by rw[h4] at hg;simp at hg⟩
  ·refine⟨_,cs.toList.take (n*1),h1,⟨?_,.inr ⟨b,cap,cs,rfl,iV _,h6,h2,?_,by rw[h7,h4],rfl⟩⟩,fun j g hg=>?_⟩
   ·rw[br,b9,h7,←h4];exact iN (bW _ h2)
   ·omega
   ·obtain⟨v,hv,hrv⟩:=h9 j g hg;have hj:j<n*1:=by have:=(ai.1 hg).1;omega
    exact⟨v,by rw[bo,if_pos hj,bq];exact hv,hrv⟩
 obtain⟨v,xs,h1,h2,h5⟩:=hown;have law:=Lib.run_append_own_string (P:=P) w 0 t u ty k.bI i ht hu hi1 hz hs1 hb1 v n xs h2 b uM hbound (iV _);rw[←h1,←hyv] at law;obtain⟨v',w',hrun,ho,hgrow,hnil⟩:=law;have hexec:(execOp a.eval ⟨some d,.call ⟨.builtin .append,#[x,y],#[t,u]⟩,ty,pos,after,guard⟩).run P w=.ok (.value v') w':=by
  simp only[execOp,resolve,invoke,builtin,Sem.run_bind,Sem.run_pure,Result.andThen_ok,List.map_toArray,bc,rN,hrun]
 have hoth:∀b,b<w.heap.size→(∀m,μ h≠some (b,m))→w'.heap[b]?=w.heap[b]?:=by
  intro b hb' hn;refine hgrow.block b hb' fun e=>?_;rcases hv with ⟨q1,q2,q3,q4⟩ | ⟨b',cap,m0,cs,q1,q2,q3,q4,q6,q7,q8,q9⟩
  ·rw[q1] at e;cases e
  ·rw[q1] at e;cases e;exact hn m0 q3
 unfold Oper.wp;rw[hexec]
 by_cases hnone:v'=.slice none 0 0
 ·obtain⟨q1,q2⟩:=hnil.1 hnone;obtain⟨r2,r3⟩:n=0∧μ h=none:=by
   rcases hv with ⟨r1,r2,r3,r4⟩ | ⟨b',cap,m0,cs,r1,_⟩
   ·exact⟨r2,r3⟩
   ·rw[q1] at r1;cases r1
  subst hnone;subst r2;have hbn:vQ b=[]:=bu (by rw[DK];exact q2);have hk2:=vT (h:=h) hk hp;have hr2:=(hr.kill h).V9 (k':={k with cells:=k.cells++vQ b}) hk2 rfl rfl id (fun h=>h) rfl (by simp[hbn]) hlp hlp;have hsame:∀b,b<w.heap.size→w'.heap[b]?=w.heap[b]?:=fun b hb=>hoth b hb fun m hm=>by rw[r3] at hm;cases hm
  have hr3:=hr2.kept hgrow.size hsame hgrow.os hgrow.tape hgrow.output;refine hK μ _ _ w' (hr3.put (d:=d) (g:=.aL h 1 0 (0+b.size)) (hN d rfl) ?_) rfl ?_
  ·rw[q2];exact .gk _ _ r3
  ·refine⟨hgrow.size,fun b hb _=>hsame b hb,fun x k1 c1 m1 b1 hw h1 h2 hi=>?_⟩
   by_cases e:x=h
   ·subst e;exact .inl ⟨x,k,c1,m1,hw,hk,h2,hi⟩
   ·have h1':ay (gA h s.st) x=some k1:=by rw[←aB _ _ e];exact h1
    obtain⟨k0,h5,_⟩:=dM h1';exact .inl ⟨x,k0,c1,m1,hw,h5,h2,hi⟩
 obtain⟨ho1,ho2⟩:=ho;rcases ho2 with ⟨ho2,_⟩ | ⟨g,cap,cur,rfl,_,hcur,hnc,hcm,hcs,htake⟩
 ·exact absurd ho2 hnone
 have hg:(∃m0,μ h=some (g,m0))∨w.heap.size≤g:=by
  by_cases hlt:g<w.heap.size
  ·refine .inl ?_;have hnl:((n+b.size:Nat):Int)≤9223372036854775807:=by omega
   rcases hv with ⟨q1,q2,q3,q4⟩ | ⟨b',cap',m0,cs,q1,q2,q3,q4,q6,q7,q8,q9⟩
   ·subst q2;simp only[da] at hrun
    by_cases hb0:b.size=0
    ·have:=hnil.2 ⟨q1,hb0⟩;cases this
    ·have hr2:=run_append_nil_string (P:=P) w t u ty k.bI i (.int .u8 0) ht hu hi1 hz b (by omega) (by omega) (by rw[hb1];omega);rw[q1,hyv,hr2] at hrun;injection hrun with r1 r2
     cases r1;exact absurd hlt (mT _)
   ·by_cases hroom:n+b.size≤cap'
    ·have hr2:=Lib.run_append_room_string (P:=P) w t u ty k.bI i ht hu hi1 hs1 b' n cap' cs q6 b hroom (by omega);rw[q1,hyv,hr2] at hrun;injection hrun with r1 r2
     cases r1;exact⟨m0,q3⟩
    ·rcases h2.2 with ⟨q10,q11⟩ | ⟨g',cap2,cur2,q10,_,q12,q13,q14,q15,q16⟩
     ·rw[←h1,q1] at q10;cases q10
     have holds:=h2.cells (g:=b') (by rw[←h1,q1];rfl);have hr2:=Lib.run_append_grow_string (P:=P) w t u ty k.bI i (.int .u8 0) ht hu hi1 hz ⟨b',0,none⟩ n cap' xs (by rw[hs1];exact h2.1) holds b (by omega)
      hnl (by rw[hb1];exact growslice_fits (by omega) (by omega))
     rw[q1,hyv,hr2] at hrun;injection hrun with r1 r2
     cases r1;exact absurd hlt (mT _)
  ·exact .inr (by omega)
 have hxl:=h2.1;have kO:∀(j:Nat) (v:Value),(xs++Lib.strCells b)[j]?=some v→cur[j]?=some v:=by
  intro j v hv;rw[←htake,bo] at hv;split at hv
  ·rw[bq] at hv;exact hv
  ·cases hv
 obtain⟨hr2,hst⟩:=hr.RZ (k':={k with cells:=k.cells++vQ b}) hk hg hcur rfl hgrow.size hoth hgrow.os hgrow.tape hgrow.output id hp (by dsimp only;rw[aI,hfull,DK,hcs];omega)
  (fun _=>by dsimp only;rw[hcs,hksz];exact bW _ hcm)
  (by
   intro j g' hg';dsimp only at hg';rw[bS] at hg';split at hg'
   ·obtain⟨v,hv,hrv⟩:=h5 j g' hg';refine⟨v,kO j v ?_,?_⟩
    ·rw[eL (by omega)];exact hv
    ·unfold cZ at hrv⊢;dsimp only;rw[hp] at hrv⊢;exact hrv
   ·rename_i hj;obtain⟨v,hv,rfl⟩:=T2 hg';refine⟨v,kO j v ?_,?_⟩
    ·rw[gV (by omega),hxl,pg,←hfull];exact hv
    ·unfold cZ;dsimp only;rw[hp];exact .val _) W hW hlp hpn hdf
 refine hK _ _ _ w' (hr2.put (d:=d) (g:=.aL h 1 0 (n+b.size)) (hN d rfl) ?_) rfl hst;exact .aL _ _ _ _ _ _ cap (b7 _ _ _) hnc (by rw[hcs];omega)
def strOf (l:List Int):ByteArray:=⟨(l.map fun n=>UInt8.ofNat n.toNat).toArray⟩
def jy (b:ByteArray):List Int:=b.data.toList.map fun x=>(x.toNat:Int)
theorem A6 (b:ByteArray):(jy b).length=b.size:=by rw[jy,aN,b9];rfl
theorem Ji:∀(l:List Int) (acc:ByteArray),List.foldl (fun b (a:Int)=>b.push (UInt8.ofNat a.toNat)) acc l=⟨acc.data++(l.map fun n=>UInt8.ofNat n.toNat).toArray⟩
 | [],acc=>by simp
 | x::r,acc=>by
  rw[cz,Ji r];apply ByteArray.ext;simp[ByteArray.push]
theorem YL.VL {dst:Option Tmp}{t t' e:TypeId}{x:Operand}{h n:Nat}{k:av}{l:List Int}(hx:ev s x=some (.aL h 1 0 n)) (hk:ay s.st h=some k) (hlp:k.lp=none) (hc:k.cells=l.map fun a=>.val (.int .u8 a)) (hn:l.length=n)
  (ht:P.underlying t=some (.slice e)) (he:P.underlying e=some (.int .u8)) (ht':P.underlying t'=some .string) (hW:W.contains h=false):fI P W s ⟨dst,.convert t t' x,ty,pos,after,guard⟩ (.val (.string (strOf l))):=fun N cx μ a w hr=>by
 refine⟨_,.aF (.val _),fun w' hs' hw'=>?_⟩;have hv:=hr.ev hx;generalize e1:a.eval x=v at hv;cases hv with
 | aF h=>cases h
 | gk _ _ hm=>
  obtain rfl:l=[]:=bu hn;simp[execOp,e1,convert,run_underlying ht,run_underlying ht',run_underlying he,Conv.bytesToString,strOf];rfl
 | fq _ _ off0 b _ hm hpos=>exact absurd hpos (mT _)
 | aL _ _ _ _ b m cap hm hcap hcc=>
  obtain⟨cs,h1,h2,h3,_,_,h5⟩:=hr.own hk hm hlp;have hb:=hr.agree hk hm hW ⟨hs',hw'⟩ (dQ h1);rw[h1] at hb;have hlen:n≤cs.size:=by rw[h2];omega
  have hl2:=qY (P:=P) (off:=0) hb n (by omega);have hcs:((cs.toList.drop 0).take n).toArray=(l.map fun a=>Value.int .u8 a).toArray:=by
   congr 1;refine du fun j=>?_;rw[gW,bo]
   by_cases hj:j<n
   ·rw[if_pos hj,bq];have hjl:j<l.length:=by omega
    obtain⟨v,hv,hrv⟩:=h5 j (.val (.int .u8 l[j])) (by rw[hc,ak,ag hjl];rfl);rw[hv,ak,ag hjl];unfold cZ at hrv;split at hrv <;> cases hrv
    ·rfl
    ·rename_i hi;cases hi;rfl
   ·rw[if_neg hj,bV (by rw[aN];omega)]
  rw[hcs] at hl2;have hconv:(convert t t' (.slice (some ⟨b,0,none⟩) n cap)).run P w'=.ok (.string (strOf l)) w':=by
   simp only[convert,Sem.run_bind,run_underlying ht,run_underlying ht',run_underlying he,Result.andThen_ok,Conv.bytesToString,hl2];simp[strOf,Ji]
  simp only[execOp,e1,Sem.run_bind,hconv,Result.andThen_ok,Sem.run_pure]
theorem PO {fits:TypeId→Bool}:∀{d:Nat}{e:TypeId}{c c' off n:Nat},rowAt P fits d e c off n=true→c≤c'→rowAt P fits d e c' off n=true
 | 0,_,_,_,_,_,h,_=>by cases h
 | d+1,e,c,c',off,n,h,hc=>by
  simp only[rowAt] at h⊢;split at h
  ·cases h
  ·rename_i hs;rw[if_neg hs];simp only[eK,af,decide_eq_true_eq] at h⊢;rcases h with ⟨⟨h1,h2⟩,h3⟩ | ⟨h1,h2⟩
   ·exact .inl ⟨⟨h1,by omega⟩,h3⟩
   ·exact .inr ⟨by omega,h2⟩
theorem DP:∀{d:Nat}{e u:TypeId}{c c' off n:Nat},liesAt P d e c off u n=true→c≤c'→liesAt P d e c' off u n=true
 | 0,_,_,_,_,_,_,h,_=>by cases h
 | d+1,e,u,c,c',off,n,h,hc=>by
  simp only[liesAt,eK] at h⊢;rcases h with h | h
  ·exact .inl (PO h hc)
  ·refine .inr ?_;split at h
   ·exact DP h hc
   ·cases h
variable {dst:Option Tmp}
theorem PY.Ys {t t' e:TypeId}{x y:Operand}{h off:Nat}{j:TypeInfo}(hx:ev s x=some (.loc h off)) (hy:ev s y=some (.loc h off)) (ht:P.underlying t=some (.pointer e)) (hte:P.info? e=some j):
  PY P s ⟨dst,.binOp .neq t x y t',ty,pos,after,guard⟩ (.val (.bool false)):=fun N cx μ a w hr=>by
 obtain⟨b,m,e1,hm⟩:=hr.loc hx;obtain⟨b',m',e2,hm'⟩:=hr.loc hy;rw[hm] at hm';cases hm';refine⟨_,.aF (.val _),fun w'=>?_⟩;have h:=Lib.run_neq_ptr_same (P:=P) w' ⟨b,off,none⟩ ht hte;have hg:(eqGuard .neq t x y (.pointer (some ⟨b,off,none⟩)) (.pointer (some ⟨b,off,none⟩))).run P w'=.ok () w':=by simp[eqGuard]
 simp only[execOp,e1,e2,Sem.run_bind,hg,Result.andThen_ok,h,Sem.run_pure]
theorem YL.TW {src dt t:TypeId}{x:Operand}{h off:Nat}{k:av}{j:TypeInfo}(hx:ev s x=some (.loc h off)) (hk:ay s.st h=some k) (hlp:k.lp=none) (hs:P.underlying src=some (.pointer t)) (hd:P.underlying dt=some .unsafePointer)
  (ht:P.info? t=some j) (hj:j.size≠0) (hoff:off<k.cells.length) (hW:W.contains h=false):fI P W s ⟨dst,.convert src dt x,ty,pos,after,guard⟩ (.loc h off):=fun N cx μ a w hr=>by
 obtain⟨b,m,e1,hm⟩:=hr.loc hx;obtain⟨cs,h1,h2,h3,_⟩:=hr.own hk hm hlp;refine⟨_,.loc h off b m hm,fun w' hs' hw'=>?_⟩;have hb:=hr.agree hk hm hW ⟨hs',hw'⟩ (dQ h1);rw[h1] at hb;have hsh:w'.shape? b=some (k.bI,cs.size):=by simp[World.shape?,hb]
 have:=Lib.run_to_unsafe (P:=P) w' ⟨b,off,none⟩ hs hd ht hj hsh (by show off<cs.size;omega);simp only[execOp,e1,Sem.run_bind,this,Result.andThen_ok,Sem.run_pure]
theorem YL.QC {src dt u:TypeId}{x:Operand}{h off:Nat}{k:av}{j:TypeInfo}(hx:ev s x=some (.loc h off)) (hk:ay s.st h=some k) (hlp:k.lp=none) (hs:P.underlying src=some .unsafePointer) (hd:P.underlying dt=some (.pointer u))
  (hu:P.info? u=some j) (hl:liesAt P P.depth k.bI 1 off u 1=true) (hc0:P.cellsOf k.bI≠0) (hc:P.cellsOf k.bI≤k.cells.length) (hW:W.contains h=false):fI P W s ⟨dst,.convert src dt x,ty,pos,after,guard⟩ (.loc h off):=fun N cx μ a w hr=>by
 obtain⟨b,m,e1,hm⟩:=hr.loc hx;obtain⟨cs,h1,h2,h3,_⟩:=hr.own hk hm hlp;refine⟨_,.loc h off b m hm,fun w' hs' hw'=>?_⟩;have hb:=hr.agree hk hm hW ⟨hs',hw'⟩ (dQ h1);rw[h1] at hb;have hsh:w'.shape? b=some (k.bI,cs.size):=by simp[World.shape?,hb]
 have:=Lib.run_from_unsafe (P:=P) w' ⟨b,off,none⟩ hs hd hu hsh (DP hl (Nat.div_pos (by omega) (by omega)));simp only[execOp,e1,Sem.run_bind,this,Result.andThen_ok,Sem.run_pure]
theorem PY.same {f:FuncId}{x:Operand}{ts:Array TypeId}{g:G}(hx:ev s x=some g) (hc:∀v w,(callFunc f #[v]).run P w=.ok (.value v) w):PY P s ⟨dst,.call ⟨.value (.func f),#[x],ts⟩,ty,pos,after,guard⟩ g:=fun N cx μ a w hr=>by
 refine⟨_,hr.ev hx,fun w'=>?_⟩;simp[execOp,resolve,invoke,Deferred.ofValue,Act.eval,hc]
end
end Go.AM
/-
 AM:maps of plain data:keys are strings or numbers;what is under them leads to nothing that may be written.
-/
namespace Go.AM
structure ND (P:Program) (kt:TypeId){κ:Type}(key:κ→Value):Prop where
 ex:∃d,P.underlying kt=some d∧∀k,MapKept.IsKey d (key k)
 inj:∀k k',key k=key k'→k=k'
section
variable {κ:Type}[DecidableEq κ]
def jo {α:Type}(es:List (κ×α)) (k:κ):Option α:=(es.find? fun e=>decide (e.1=k)).map (·.2)
def rU {α:Type}(es:List (κ×α)) (k:κ):Bool:=es.any fun e=>decide (e.1=k)
def lS {α:Type}(es:List (κ×α)) (k:κ) (g:α):List (κ×α):=bif rU es k then es.map (fun e=>bif decide (e.1=k) then(k,g) else e) else es++[(k,g)]
theorem PF {α:Type}{es:List (κ×α)}{k:κ}(h:∀e∈es,e.1≠k):jo es k=none:=by
 unfold jo;rw[List.find?_eq_none.2 fun e he=>by simpa using h e he];rfl
theorem FN {α:Type}{k:κ}{g:α}:∀{es:List (κ×α)}{j:Nat},(es.map (·.1)).Nodup→es[j]?=some (k,g)→jo es k=some g
 | [],j,_,h=>by simp at h
 | e::r,0,_,h=>by simp at h;subst h;simp[jo]
 | e::r,j+1,hn,h=>by
  simp only[bc,ov] at hn;simp only[kq] at h;have hne:e.1≠k:=fun q=>hn.1 (by rw[q];exact fc.2 ⟨_,aj h,rfl⟩);have ih:=FN hn.2 h;unfold jo at ih⊢;rw[List.find?_cons_of_neg (by simpa using hne)];exact ih
theorem NI {α:Type}{es:List (κ×α)}{k:κ}(h:∀e∈es,e.1≠k):rU es k=false:=by
 unfold rU;rw[fV];intro e he;simpa using h e he
theorem PE {α:Type}{es:List (κ×α)}{k:κ}{g:α}{j:Nat}(h:es[j]?=some (k,g)):rU es k=true:=by
 unfold rU;rw[List.any_eq_true];exact⟨_,aj h,by simp⟩
theorem PD {α:Type}{es:List (κ×α)}{k:κ}{g:α}(h:rU es k=true):(lS es k g).map (·.1)=es.map (·.1):=by
 unfold lS;rw[h,cond_true,iO];refine fh fun e _=>?_;show(bif decide (e.1=k) then(k,g) else e).1=e.1
 by_cases q:e.1=k
 ·rw[decide_eq_true q];exact q.symm
 ·rw[decide_eq_false q];rfl
structure IY (key:κ→Value) (es:List (κ×G)) (O:Nat→Prop) (w:World) (b:Nat) (m:Mm):Prop where
 uZ:m.1=0
 len:m.2=[]
 nd:(es.map (·.1)).Nodup
 heap:∃ms clock,w.heap[b]?=some (.map ms clock)∧ms.toList.map (·.key)=es.map (fun e=>key e.1)∧∀(i:Nat) (e:κ×G) (x:MapEntry),es[i]?=some e→ms.toList[i]?=some x→bH O w e.2 x.val
def xR (key:κ→Value) (es:List (κ×G)):Dp where
 φ:=IY key es
 jb:=es=[]
 mono:=by
  intro O O' w w' b m h hk hO hb;obtain⟨ms,cl,h1,h2,h3⟩:=h.heap;exact {uZ:=h.uZ,len:=h.len,nd:=h.nd,heap:=⟨ms,cl,(hb b (.self _ _)).trans h1,h2,fun i e x he hx=>(h3 i e x he hx).mono hk hO⟩}
 shut:=by
  intro O Z w w' b m h hs hz;obtain⟨ms,cl,h1,h2,h3⟩:=h.heap;refine {uZ:=h.uZ,len:=h.len,nd:=h.nd,heap:=⟨ms,cl,?_,h2,fun i e x he hx=>(h3 i e x he hx).shut hs⟩};rcases hs.block b with q | ⟨q,_⟩
  ·exact q.trans h1
  ·exact absurd q (hz b (.self _ _))
 live:=by
  intro O w b m h x hx;obtain⟨ms,cl,h1,_⟩:=h.heap;rcases hx with rfl | ⟨n,hn⟩
  ·exact dQ h1
  ·rw[h.len] at hn;cases hn
end
section
variable {P:Program}{N:Nat}{cx:Cx}{s:St}{W:List Nat}
variable {dst:Option Tmp}{ty:TypeId}{pos:String}{after:Array Edge}{guard:Option (Nat×Bool)}
variable {κ:Type}[DecidableEq κ]{key:κ→Value}
theorem Rel.X8 {μ:Mu}{a:Act}{w:World}(hr:Rel N cx μ s a w){h:Nat}{k:av}{es:List (κ×G)}(hk:ay s.st h=some k) (hl:k.lp=some (.deep (xR key es))){b:Nat}{m:Mm}(hm:μ h=some (b,m)):
  IY key es (bif k.fresh then ir (cx.O s.st μ) cx.base else cx.O s.st μ) w b m:=by
 have:=hr.st.en h k hk;rw[hm] at this;exact((aV.deep hl).1 this).1
theorem Rel.K1 {μ:Mu}{a:Act}{w:World}(hrel:Rel N cx μ s a w){x:Operand}{v:Value}(hx:AM.ev s x=some (.val v)):a.eval x=v:=by
 have:=hrel.ev hx;generalize a.eval x=u at this;cases this with
 | aF h=>cases h;rfl
theorem IY.find {es:List (κ×G)}{O:Nat→Prop}{w:World}{b:Nat}{m:Mm}(h:IY key es O w b m){kt:TypeId}(K:ND P kt key) (k:κ){ms:Array MapEntry}{cl:Nat}(hb:w.heap[b]?=some (.map ms cl)) (w':World):
  ((Instr.findKey kt (key k) ms.toList).run P w'=.ok none w'∧(∀e∈es,e.1≠k)∧jo es k=none)∨
  ∃j x g,(Instr.findKey kt (key k) ms.toList).run P w'=.ok (some (j,x.val)) w'∧ms.toList[j]?=some x∧x.key=key k∧es[j]?=some (k,g)∧jo es k=some g∧bH O w g x.val:=by
 obtain⟨d,hd,hi⟩:=K.ex;obtain⟨ms',cl',h1,h2,h3⟩:=h.heap;rw[hb] at h1;cases h1;have hks:∀x∈ms.toList,MapKept.IsKey d x.key:=fun x hx=>by
  have:x.key∈es.map (fun e=>key e.1):=by rw[←h2];exact kQ hx
  obtain⟨e,_,he⟩:=fc.1 this;rw[←he];exact hi _
 rcases MapKept.findNow_spec (hi k) ms.toList 0 hks with ⟨q1,q2⟩ | ⟨j,x,q1,q2,q3⟩
 ·have hno:∀e∈es,e.1≠k:=fun e he hek=>by
   have:key e.1∈ms.toList.map (·.key):=by rw[h2];exact fc.2 ⟨e,he,rfl⟩
   obtain⟨x,hx,hxe⟩:=fc.1 this;exact q2 x hx (by rw[hxe,hek])
  exact .inl ⟨MapKept.run_findKey hd q1,hno,PF hno⟩
 ·have hj:(es.map fun e=>key e.1)[j]?=some x.key:=by rw[←h2,ak,q2];rfl
  rw[ak] at hj;cases he:es[j]? with
  | none=>rw[he] at hj;cases hj
  | some e=>
   rw[he] at hj;have hj:key e.1=x.key:=dV hj;have hek:e.1=k:=K.inj _ _ (hj.trans q3);obtain⟨k',g⟩:=e;simp only at hek;subst hek;rw[da] at q1;exact .inr ⟨j,x,g,MapKept.run_findKey hd q1,q2,q3,he,FN h.nd he,h3 j _ x he q2⟩
theorem YL.jo {t kt et:TypeId}{x y:Operand}{h:Nat}{k:av}{es:List (κ×G)}{ky:κ}{zv:Value}{c:Bool}(hx:ev s x=some (.eN h)) (hy:ev s y=some (.val (key ky)))
  (hk:ay s.st h=some k) (hl:k.lp=some (.deep (xR key es))) (hfr:k.fresh=true→∀e∈es,∃v,e.2=.val v) (ht:P.underlying t=some (.map kt et)) (K:ND P kt key) (hz:∀w,(zeroValue et).run P w=.ok zv w) (hW:W.contains h=false):
  fI P W s ⟨dst,.lookup t x y c,ty,pos,after,guard⟩ (bif c then .bB [(AM.jo es ky).getD (.val zv),.val (.bool (AM.jo es ky).isSome)] else(AM.jo es ky).getD (.val zv)):=fun N cx μ a w hrel=>by
 obtain⟨b,m,e1,hm⟩:=hrel.eN hx;have hM:=hrel.X8 hk hl hm;have e2:=hrel.K1 hy;obtain⟨d,hd,hi⟩:=K.ex;obtain⟨ms,cl,h1,_,_⟩:=hM.heap;have hv:∃v:Value,(∃f:Option (Nat×Value),(∀w',(Instr.findKey kt (key ky) ms.toList).run P w'=.ok f w')∧((f=none∧v=zv∧(AM.jo es ky).isSome=false)∨∃j,f=some (j,v)∧(AM.jo es ky).isSome=true))∧bH (bif k.fresh then ir (cx.O s.st μ) cx.base else cx.O s.st μ) w ((AM.jo es ky).getD (.val zv)) v:=by
  rcases hM.find K ky h1 w with ⟨q1,q2,q3⟩ | ⟨j,x,g,q1,q2,q3,q4,q5,q6⟩
  ·refine⟨zv,⟨none,fun w'=>?_,.inl ⟨rfl,rfl,by rw[q3];rfl⟩⟩,by rw[q3];exact .val _⟩;rcases hM.find K ky h1 w' with ⟨r1,_⟩ | ⟨j,x,g,_,_,_,_,r5,_⟩
   ·exact r1
   ·rw[q3] at r5;cases r5
  ·refine⟨x.val,⟨some (j,x.val),fun w'=>?_,.inr ⟨j,rfl,by rw[q5];rfl⟩⟩,by rw[q5];exact q6⟩;have hN:=MapKept.findNow_spec (hi ky) ms.toList 0 (fun z hz=>by
    obtain⟨ms',cl',g1,g2,g3⟩:=hM.heap;rw[h1] at g1;cases g1;have:z.key∈es.map (fun e=>key e.1):=by rw[←g2];exact kQ hz
    obtain⟨e,_,he⟩:=fc.1 this;rw[←he];exact hi _)
   rcases hN with ⟨r1,_⟩ | ⟨j',x',r1,_,_⟩
   ·have r2:=MapKept.run_findKey (P:=P) (w:=w) hd r1;rw[q1] at r2;cases r2
   ·have r2:=MapKept.run_findKey (P:=P) (w:=w) hd r1;rw[q1] at r2;have r3:=MapKept.run_findKey (P:=P) (w:=w') hd r1;rw[r3];have:=Result.ok.inj r2;rw[this.1]
 obtain⟨v,⟨f,hf,hcase⟩,hrep⟩:=hv;have hrun:∀w',w'.heap[b]?=w.heap[b]?→(Instr.lookup t (.map (some b)) (key ky) c).run P w'=.ok (bif c then .tuple #[v,.bool (AM.jo es ky).isSome] else v) w':=fun w' hb=>by
  rw[h1] at hb;have hg:=MapKept.run_getObj_map (P:=P) hb;have hck:=fun e=>MapKept.run_checkKey (P:=P) (w:=w') hd (hi ky) e 9999;rcases hcase with ⟨rfl,rfl,q3⟩ | ⟨j,rfl,q3⟩
  ·cases c <;> simp[Instr.lookup,run_underlying ht,hg,hck,hf w',hz,q3]
  ·cases c <;> simp[Instr.lookup,run_underlying ht,hg,hck,hf w',q3]
 have hrv:aU (cx.O s.st μ) cx.base w μ ((AM.jo es ky).getD (.val zv)) v:=by
  cases hkf:k.fresh with
  | false=>rw[hkf] at hrep;exact .aF hrep
  | true=>
   have hval:∃u,(AM.jo es ky).getD (.val zv)=.val u:=by
    unfold AM.jo;cases hq:es.find? (fun e=>decide (e.1=ky)) with
    | none=>exact⟨zv,rfl⟩
    | some e=>
     obtain⟨u,hu⟩:=hfr hkf e (List.mem_of_find?_eq_some hq);exact⟨u,hu⟩
   obtain⟨u,hu⟩:=hval;rw[hu] at hrep⊢;cases hrep;exact .aF (.val _)
 refine⟨bif c then .tuple #[v,.bool (AM.jo es ky).isSome] else v,?_,fun w' hs hw'=>?_⟩
 ·cases c with
  | false=>exact hrv
  | true=>
   refine .bB _ [v,.bool (AM.jo es ky).isSome] rfl fun j g u hg hu=>?_
   match j,hg,hu with
   | 0,hg,hu=>cases hg;cases hu;exact hrv
   | 1,hg,hu=>cases hg;cases hu;exact .aF (.val _)
   | j+2,hg,hu=>simp at hg
 ·have hb:=hrel.zj hk hm hW ⟨hs,hw'⟩ (.self b m);simp[execOp,e1,e2,hrun w' hb]
theorem YL.Zz {t kt et:TypeId}{x y:Operand}{ky:κ}{zv:Value}{c:Bool}(hx:ev s x=some (.val (.map none))) (hy:ev s y=some (.val (key ky)))
  (ht:P.underlying t=some (.map kt et)) (K:ND P kt key) (hz:∀w,(zeroValue et).run P w=.ok zv w):
  fI P W s ⟨dst,.lookup t x y c,ty,pos,after,guard⟩ (bif c then .bB [.val zv,.val (.bool false)] else .val zv):=fun N cx μ a w hrel=>by
 have e1:=hrel.K1 hx;have e2:=hrel.K1 hy;obtain⟨d,hd,hi⟩:=K.ex;have hrun:∀w',(Instr.lookup t (.map none) (key ky) c).run P w'=.ok (bif c then .tuple #[zv,.bool false] else zv) w':=fun w'=>by
  have hck:=fun e=>MapKept.run_checkKey (P:=P) (w:=w') hd (hi ky) e 9999;have hf:∀w',(Instr.findKey kt (key ky) []).run P w'=.ok none w':=fun w'=>by
   rcases MapKept.findNow_spec (hi ky) [] 0 (fun x hx=>by cases hx) with ⟨q1,_⟩ | ⟨j,x,_,q2,_⟩
   ·exact MapKept.run_findKey hd q1
   ·cases q2
  cases c <;> simp[Instr.lookup,run_underlying ht,hck,hf,hz]
 refine⟨bif c then .tuple #[zv,.bool false] else zv,?_,fun w' hs hw'=>?_⟩
 ·cases c with
  | false=>exact .aF (.val _)
  | true=>
   refine .bB _ [zv,.bool false] rfl fun j g u hg hu=>?_
   match j,hg,hu with
   | 0,hg,hu=>cases hg;cases hu;exact .aF (.val _)
   | 1,hg,hu=>cases hg;cases hu;exact .aF (.val _)
   | j+2,hg,hu=>simp at hg
 ·simp[execOp,e1,e2,hrun w']
def wb:G→Option Bool
 | .val (.map none)=>some true
 | .eN _=>some false
 | _=>none
theorem aU.wb {O:Nat→Prop}{base:Nat}{w:World}{μ:Mu}{g:G}{v:Value}{b:Bool}(h:aU O base w μ g v) (hn:AM.wb g=some b):∃p,v=.map p∧p.isNone=b:=by
 cases g with
 | val u=>
  cases h with
  | aF h=>
   cases h;cases v with
   | map p=>cases p with
    | none=>cases hn;exact⟨none,rfl,rfl⟩
    | some _=>cases hn
   | _=>cases hn
 | eN h'=>
  cases hn;cases h with
  | aF h=>cases h
  | eN _ b m hm=>exact⟨_,rfl,rfl⟩
 | _=>cases hn
theorem FT {t kt et:TypeId}(ht:P.underlying t=some (.map kt et)) (p:Option Nat) (w:World):(Op.equal t (.map p) (.map none)).run P w=.ok p.isNone w:=by
 have key:∀d,(Op.equalIn (d+1) t (.map p) (.map none)).run P w=.ok p.isNone w:=fun d=>by
  cases p with
  | none=>simp[Op.equalIn,run_underlying ht]
  | some a=>simp[Op.equalIn,run_underlying ht]
 exact key 9999
theorem PY.ZL {t t' kt et:TypeId}{x:Operand}{g:G}{b:Bool}(hx:ev s x=some g) (hn:AM.wb g=some b) (ht:P.underlying t=some (.map kt et)):
  PY P s ⟨dst,.binOp .eql t x (.const (.map none)) t',ty,pos,after,guard⟩ (.val (.bool b)):=fun N cx μ a w hr=>by
 obtain⟨p,e1,rfl⟩:=(hr.ev hx).wb hn;refine⟨_,.aF (.val _),fun w'=>?_⟩;have h:=FT (P:=P) ht p w';have hg:(eqGuard .eql t x (.const (.map none)) (.map p) (.map none)).run P w'=.ok () w':=by simp[eqGuard]
 simp only[execOp,e1,show a.eval (.const (.map none))=.map none from rfl,Sem.run_bind,hg,Result.andThen_ok];simp[binOp,h]
theorem PY.ZK {t t' kt et:TypeId}{x:Operand}{g:G}{b:Bool}(hx:ev s x=some g) (hn:AM.wb g=some b) (ht:P.underlying t=some (.map kt et)):
  PY P s ⟨dst,.binOp .neq t x (.const (.map none)) t',ty,pos,after,guard⟩ (.val (.bool (!b))):=fun N cx μ a w hr=>by
 obtain⟨p,e1,rfl⟩:=(hr.ev hx).wb hn;refine⟨_,.aF (.val _),fun w'=>?_⟩;have h:=FT (P:=P) ht p w';have hg:(eqGuard .neq t x (.const (.map none)) (.map p) (.map none)).run P w'=.ok () w':=by simp[eqGuard]
 simp only[execOp,e1,show a.eval (.const (.map none))=.map none from rfl,Sem.run_bind,hg,Result.andThen_ok];simp[binOp,h]
end
end Go.AM
/-
 AM:maps of plain data:one is made;a key gets another value.
-/
namespace Go.AM
section
variable {P:Program}{N:Nat}{cx:Cx}{s:St}{W:List Nat}
variable {ty:TypeId}{pos:String}{after:Array Edge}{guard:Option (Nat×Bool)}
variable {κ:Type}[DecidableEq κ]{key:κ→Value}
theorem T7 {α:Type}{es:List (κ×α)}{k:κ}{g:α}(h:(es.map (·.1)).Nodup):((lS es k g).map (·.1)).Nodup:=by
 cases hh:rU es k with
 | true=>rw[PD hh];exact h
 | false=>
  unfold lS;rw[hh,cond_false,dW,List.nodup_append];refine⟨h,by simp,fun a ha b hb=>?_⟩;simp at hb;subst hb;intro e;subst e;obtain⟨x,hx,rfl⟩:=fc.1 ha;unfold rU at hh;rw[fV] at hh;exact hh x hx (by simp)
theorem EF.lS {t kt et : TypeId} {x y z : Operand} {h : Nat} {k : av} {es : List (κ × G)} {ky : κ} {v : Value} (hx : ev s x = some (.eN h)) (hy : ev s y = some (.val (key ky))) (hz : ev s z = some (.val v))
    (hk : ay s.st h = some k) (hl : k.lp = some (.deep (xR key es))) (ht : P.underlying t = some (.map kt et)) (K : ND P kt key) (hW : W.contains h = true) :
    cm P W s ⟨none, .mapUpdate t x y z, ty, pos, after, guard⟩ (· = { fr := s.fr, st := dF s.st h { k with lp := some (.deep (xR key (AM.lS es ky (.val v)))) }, df := s.df }) := by
  refine cm.skip rfl (fun _ h => by cases h) ?_
  intro N cx μ a w hr
  obtain ⟨b, m, e1, hm⟩ := hr.eN hx
  have hM := hr.X8 hk hl hm
  have e2 := hr.K1 hy
  have e3 := hr.K1 hz
  obtain ⟨d, hd, hi⟩ := K.ex
  obtain ⟨ms, cl, h1, h2, h3⟩ := hM.heap
  have hg := MapKept.run_getObj_map (P := P) h1
  have hck := fun e => MapKept.run_checkKey (P := P) (w := w) hd (hi ky) e 9999
  have hb0 := hr.st.en h k hk
  rw [hm] at hb0
  obtain ⟨_, p2, p3, p4⟩ := (aV.deep hl).1 hb0
  have UU : ∃ ms' cl', (Instr.mapUpdate t (.map (some b)) (key ky) v).run P w = .ok () { w with heap := w.heap.setIfInBounds b (.map ms' cl') } ∧
      ms'.toList.map (·.key) = (AM.lS es ky (.val v)).map (fun e => key e.1) ∧ ∀ O' w', (∀ (i : Nat) (e : κ × G) (x : MapEntry), es[i]? = some e → ms.toList[i]? = some x → bH O' w' e.2 x.val) →
      ∀ (i : Nat) (e : κ × G) (x : MapEntry), (AM.lS es ky (.val v))[i]? = some e → ms'.toList[i]? = some x → bH O' w' e.2 x.val := by
    have hlen : ms.toList.length = es.length := by have := congrArg List.length h2; simpa using this
    rcases hM.find K ky h1 w with ⟨q1, q2, q3⟩ | ⟨j, x0, g, q1, q2, q3, q4, q5, q6⟩
    · have hp : AM.lS es ky (.val v) = es ++ [(ky, .val v)] := by unfold AM.lS; rw [NI q2]; rfl
      refine ⟨ms.push ⟨key ky, v, cl⟩, cl + 1, ?_, ?_, fun O' w' hold i e x he hx => ?_⟩
      · have hso := MapKept.run_setObj_map (P := P) (.map (ms.push ⟨key ky, v, cl⟩) (cl + 1)) h1
        simp [Instr.mapUpdate, run_underlying ht, hg, hck, q1, hso]
      · rw [hp, Array.toList_push, dW, dW, h2]; rfl
      · rw [hp] at he
        rw [Array.toList_push] at hx
        rw [bS] at he hx
        split at he
        · rename_i hlt
          rw [if_pos (by omega)] at hx
          exact hold i e x he hx
        · rename_i hlt
          rw [if_neg (by omega)] at hx
          have hi0 : i - es.length = 0 := by
            cases hq : i - es.length with
            | zero => rfl
            | succ n => rw [hq] at he; simp at he
          rw [hi0] at he
          rw [show i - ms.toList.length = 0 by omega] at hx
          cases he; cases hx
          exact .val _
    · have hp : AM.lS es ky (.val v) = es.map (fun e => bif decide (e.1 = ky) then (ky, .val v) else e) := by unfold AM.lS; rw [PE q4]; rfl
      have hj : ms[j]? = some x0 := by simpa using q2
      refine ⟨ms.modify j fun e => { e with key := key ky, val := v }, cl, ?_, ?_, fun O' w' hold i e x he hx => ?_⟩
      · have hso := MapKept.run_setObj_map (P := P) (.map (ms.modify j fun e => { e with key := key ky, val := v }) cl) h1
        simp [Instr.mapUpdate, run_underlying ht, hg, hck, q1, hj, q3, MapKept.run_keyThatStays (hi ky), hso]
      · rw [hp, iO]
        apply du
        intro i
        rw [ak, ak, bq, Array.getElem?_modify]
        have hi2 : (ms.toList.map (·.key))[i]? = (es.map fun e => key e.1)[i]? := by rw [h2]
        rw [ak, ak, bq] at hi2
        by_cases hji : j = i
        · subst hji
          rw [if_pos rfl, hj, q4]
          simp
        · rw [if_neg hji, hi2]
          cases hq : es[i]? with
          | none => rfl
          | some e =>
            show some (key e.1) = some (key (bif decide (e.1 = ky) then (ky, G.val v) else e).1)
            by_cases hek : e.1 = ky
            · rw [decide_eq_true hek, hek]; rfl
            · rw [decide_eq_false hek]; rfl
      · rw [hp, ak] at he
        cases hq : es[i]? with
        | none => rw [hq] at he; cases he
        | some e0 =>
          rw [hq] at he
          have he : (bif decide (e0.1 = ky) then (ky, G.val v) else e0) = e := dV he
          rw [bq, Array.getElem?_modify] at hx
          by_cases hji : j = i
          · subst hji
            rw [q4] at hq
            cases hq
            rw [if_pos rfl, hj] at hx
            simp at hx he
            subst hx he
            exact .val _
          · rw [if_neg hji] at hx
            have hne : e0.1 ≠ ky := fun hek => by
              have di := hM.nd
              have a1 : (es.map (·.1))[i]? = some ky := by rw [ak, hq, ← hek]; rfl
              have a2 : (es.map (·.1))[j]? = some ky := by rw [ak, q4]; rfl
              exact hji ((List.getElem?_inj (ai.1 a2).1 di).1 (a2.trans a1.symm))
            rw [decide_eq_false hne] at he
            have he : e0 = e := he
            subst he
            exact hold i e0 x hq (by rw [bq]; exact hx)
  obtain ⟨ms', cl', r1, r2, r3⟩ := UU
  have hset := MapKept.heap_set (o' := .map ms' cl') h1
  refine ⟨μ, { w with heap := w.heap.setIfInBounds b (.map ms' cl') }, ?_, ?_⟩
  · simp [execOp, e1, e2, e3, r1]
  · refine hr.rewrite (k' := { k with lp := some (.deep (xR key (AM.lS es ky (.val v)))) }) hk hm (.self b m) (by simp) (fun b' hb' => hset.2 b' hb') rfl rfl rfl id (fun O' hO => ?_) hW
    refine (aV.deep (d := xR key (AM.lS es ky (.val v))) rfl).2 ⟨?_, p2, p3, p4⟩
    have hO2 : ∀ x, x < w.heap.size → ¬ (bif k.fresh then ir (cx.O s.st μ) cx.base else cx.O s.st μ) x → ¬ (bif k.fresh then ir O' cx.base else O') x := by
      intro x hx hn ho
      cases hkf : k.fresh with
      | false => rw [hkf] at hn ho; exact hn ((hO x).2 ho)
      | true => rw [hkf] at hn ho; exact hn (ho.imp id (hO x).2)
    have hkp : Kept (bif k.fresh then ir (cx.O s.st μ) cx.base else cx.O s.st μ) w { w with heap := w.heap.setIfInBounds b (.map ms' cl') } := by
      refine ⟨by simp, fun b' _ hn => hset.2 b' fun e => hn ?_⟩
      subst e
      have : cx.O s.st μ b' := .inr (.root hk hm)
      cases k.fresh with
      | false => exact this
      | true => exact .inr this
    exact { uZ := hM.uZ, len := hM.len, nd := T7 hM.nd, heap := ⟨ms', cl', hset.1, r2, r3 _ _ fun i e x he hx => (h3 i e x he hx).mono hkp hO2⟩ }
def N6 (key:κ→Value):av:=⟨0,true,true,true,1,[],some (.deep (xR key []))⟩
theorem Rel.XZ {μ : Mu} {a : Act} {w : World} (hr : Rel N cx μ s a w) {hd : Nat} (key : κ → Value) (hfr : fresh s hd = true) :
    Rel N cx (lk μ hd (some (w.heap.size, 0, []))) { fr := s.fr, st := (hd, N6 key) :: s.st, df := s.df } a (w.alloc (.map #[] 0)) ∧ Step W s.st μ ((hd, N6 key) :: s.st) (lk μ hd (some (w.heap.size, 0, []))) w (w.alloc (.map #[] 0)) := by
  unfold fresh at hfr
  simp only [af, Option.isNone_iff_eq_none] at hfr
  obtain ⟨f1, f2, f3, f5, f6⟩ := hfr
  have h := hr.st
  have hO : ∀ b, b < w.heap.size → ¬ cx.O s.st μ b → ¬ cx.O ((hd, N6 key) :: s.st) (lk μ hd (some (w.heap.size, 0, []))) b := by
    intro b hb hn ho
    rcases ho with ho | ⟨x, k', c, m, h1, h2, h3⟩
    · exact hn (.inl ho)
    · by_cases e : x = hd
      · subst e; rw [b7] at h2; cases h2; rw [In.plain.1 h3] at hb; omega
      · rw [aB _ s.st e] at h1; rw [aZ e] at h2; exact hn (.inr ⟨x, k', c, m, h1, h2, h3⟩)
  have hlt : ∀ x k' b m y, ay s.st x = some k' → μ x = some (b, m) → In y b m → y < w.heap.size := fun x k' b m y h1 h2 h3 => (h.cq x k' b m y h1 h2 h3).2.2.1
  have hkept := p8 (cx.O s.st μ) w (.map #[] 0)
  refine ⟨{ st := { en := ?_, de := ?_, cq := ?_, fD := ?_, fg := h.fg, hb := ?_, os := h.os, tape := h.tape, output := h.output, gl := h.gl, dq := ?_ }, nd := (hr.nd.mono hkept hO).gS (fun g hg y hy => aZ fun e => by subst e; rw [pP f5 hg] at hy; cases hy), sz := hr.sz, fr := fun t g hg => ?_ }, ?_⟩
  · intro x k' h1
    by_cases e : x = hd
    · subst e
      rw [dU] at h1; cases h1
      rw [b7]
      refine (aV.deep rfl).2 ⟨?_, rfl, rfl, fun _ => h.hb⟩
      exact { uZ := rfl, len := rfl, nd := by simp, heap := ⟨#[], 0, heap_alloc_new w _, rfl, fun i e x h => by simp at h⟩ }
    · rw [aB _ s.st e] at h1
      rw [aZ e]
      refine ((h.en x k' h1).mono (fun b m hm y hy => dO w _ y (hlt x k' b m y h1 hm hy)) hkept hO).gS fun hp g hg y hy => aZ ?_
      intro e
      subst e
      rw [sY f3 h1 hp hg] at hy
      cases hy
  · intro x x' k1 k2 y b m b' m' h1 h2 h3 h4 h5 h6
    by_cases e : x = hd
    · by_cases e' : x' = hd
      · rw [e, e']
      · subst e
        rw [b7] at h3; rw [aZ e'] at h4; rw [aB _ s.st e'] at h2
        cases h3
        have := hlt x' k2 _ m' y h2 h4 h6
        rw [In.plain.1 h5] at this
        omega
    · by_cases e' : x' = hd
      · subst e'
        rw [b7] at h4; rw [aZ e] at h3; rw [aB _ s.st e] at h1
        cases h4
        have := hlt x k1 _ m y h1 h3 h5
        rw [In.plain.1 h6] at this
        omega
      · rw [aB _ s.st e] at h1; rw [aB _ s.st e'] at h2; rw [aZ e] at h3; rw [aZ e'] at h4
        exact h.de x x' k1 k2 y b m b' m' h1 h2 h3 h4 h5 h6
  · intro x k' b m y h1 h2 h3
    by_cases e : x = hd
    · subst e
      rw [b7] at h2
      cases h2
      rw [In.plain.1 h3]
      refine ⟨fun hx => ?_, .inl h.hb, by simp, fun _ => h.hb⟩
      have := h.fg _ hx
      have := h.hb
      omega
    · rw [aB _ s.st e] at h1; rw [aZ e] at h2
      obtain ⟨a1, a2, a3, a4⟩ := h.cq x k' b m y h1 h2 h3
      exact ⟨a1, a2, by simp only [World.size_alloc]; omega, a4⟩
  · intro x k1 h1 h2
    by_cases e : x = hd
    · subst e; rw [j5 f6] at h2; cases h2
    · rw [aB _ s.st e] at h1; rw [aZ e]; exact h.fD x k1 h1 h2
  · simp only [World.size_alloc]; have := h.hb; omega
  · intro b hb hA
    rw [dO w _ b (by have := h.hb; omega)]
    exact h.dq b hb hA
  · obtain ⟨v, hv, hrv⟩ := hr.fr t g hg
    refine ⟨v, hv, (hrv.mono hkept hO (aG _)).gS fun y hy => aZ ?_⟩
    intro e
    subst e
    rw [mX f2 hg] at hy
    cases hy
  · refine ⟨by simp, fun b hb _ => dO w _ b hb, fun h k' c m b hw h1 hm hi => ?_⟩
    by_cases e : h = hd
    · subst e
      rw [b7] at hm
      cases hm
      exact .inr (by rw [In.plain.1 hi]; exact aG _)
    · rw [aB _ s.st e] at h1
      rw [aZ e] at hm
      exact .inl ⟨h, k', c, m, hw, h1, hm, hi⟩
theorem EF.aai {d : Nat} {t : TypeId} (hd : Nat) (key : κ → Value) (hfr : fresh s hd = true) :
  cm P W s ⟨some d, .makeMap t none, ty, pos, after, guard⟩ (· = { fr := (d, .eN hd) :: s.fr, st := (hd, N6 key) :: s.st, df := s.df }) := by
 refine cm.of (s1 := { fr := s.fr, st := (hd, N6 key) :: s.st, df := s.df }) (g := .eN hd) rfl (fun _ h => by cases h) ?_
 intro N cx μ a w hr
 obtain ⟨h1, h2⟩ := hr.XZ (W := W) key hfr
 refine ⟨.map (some w.heap.size), _, _, ?_, h1, .eN hd _ _ (b7 _ _ _), h2⟩
 simp [execOp, Instr.makeMap, newObj, Sem.run]
end
end Go.AM
