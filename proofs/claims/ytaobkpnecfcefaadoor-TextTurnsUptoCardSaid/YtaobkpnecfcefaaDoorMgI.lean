/-
  AM, fourth part: maps.
-/
import Derived.Test.YtaobkpnecfcefaaDoorMgF
import Derived.Lib.AppendStr
import Derived.Lib.Builder
set_option linter.unusedSectionVars false
set_option linter.unusedSimpArgs false
set_option linter.unusedVariables false
/-
 AM:maps:keys that are structs of two numbers.
-/
namespace Go.AM
section
variable {P:Program}
def PZ (q:IntKind) (k:Int×Int):Value:=.agg #[.int q k.1,.int q k.2]
structure V9 (P:Program) (kt:TypeId) (q:IntKind):Prop where
 ex : ∃ f0 f1 : Field, P.underlying kt = some (.struct #[f0, f1]) ∧ f0.name ≠ "_" ∧ f1.name ≠ "_" ∧ f0.offset = 0 ∧ f1.offset = 1 ∧ P.underlying f0.type = some (.int q) ∧ P.underlying f1.type = some (.int q)
 no:P.stoodInHeld kt=false
end
end Go.AM
/-
 AM:maps from two numbers to pointers:the structs that they lead to are of slices;all of it belongs to the map.
-/
namespace Go.AM
structure ME where
 key:Int×Int
 t:Nat
 f:List (Nat×List G)
def wE (O:Nat→Prop) (w:World) (kty:TypeId) (m:Mm) (p:Nat×List G) (u:Value):Prop:=
 (p.2=[]∧p.1=ER∧u=.slice none 0 0)∨(p.2≠[]∧∃c k,m.2[p.1]?=some (some (c,k))∧uc O w kty 1 p.2.length p.2 u (some (c,k)))
def P2:List (Nat×List G)→Nat→Option Nat
 | [],_=>none
 | (x,gs)::_,0=>match gs with | []=>none | _::_=>some x
 | _::r,j+1=>P2 r j
def Rl (e:ME):Nat→Option Nat
 | 0=>some e.t
 | j+1=>P2 e.f j
theorem Ft:∀{f:List (Nat×List G)}{j x:Nat},P2 f j=some x→∃gs,f[j]?=some (x,gs)∧gs≠[]
 | [],j,x,h=>by cases h
 | (y,gs)::r,0,x,h=>by
  cases gs with
  | nil=>cases h
  | cons a b=>cases h;exact⟨_,rfl,by simp⟩
 | _::r,j+1,x,h=>Ft (f:=r) h
def UM (m:Mm) (t:Nat):Value:=match m.2[t]? with
 | some (some (c,_))=>.pointer (some ⟨c,0,none⟩)
 | _=>.pointer none
structure AN (q:IntKind) (kty tty:TypeId) (n:Nat) (es:List ME) (pd:Option (Option (Nat×Nat)×Nat×List G)) (O:Nat→Prop) (w:World) (b:Nat) (m:Mm):Prop where
 len:m.2.length=n
 J0:n≤maxLen
 JG:m.1=0
 heap:∃ms clock,w.heap[b]?=some (.map ms clock)∧ms.toList.map (fun e=>(e.key,e.val))=es.map fun e=>(PZ q e.key,UM m e.t)
 root:∀(i c k:Nat),m.2[i]?=some (some (c,k))→c≠b∧c<w.heap.size
 Cr:∀e∈es,∃c cs,m.2[e.t]?=some (some (c,cs.size))∧w.heap[c]?=some (.cells cs tty (0,0))∧e.f.length≤cs.size∧∀(j:Nat) (p:Nat×List G),e.f[j]?=some p→∃u,cs[j]?=some u∧wE O w kty m p u
 inj:∀(i i':Nat) (e e':ME) (j j' x x' c k k':Nat),es[i]?=some e→es[i']?=some e'→Rl e j=some x→Rl e' j'=some x'→m.2[x]?=some (some (c,k))→m.2[x']?=some (some (c,k'))→i=i'∧j=j'
 JL:∀(sr:Option (Nat×Nat)) (x:Nat) (gs:List G),pd=some (sr,x,gs)→gs≠[]∧(∃c k cs,m.2[x]?=some (some (c,k))∧w.heap[c]?=some (.cells cs kty (0,0))∧cs.size=k∧k≤maxLen∧gs.length≤k∧∀(i:Nat) (g:G),gs[i]?=some g→∃v,cs[i]?=some v∧bB O w g v)∧
  ∀(e:ME) (j' x' c k k':Nat),e∈es→Rl e j'=some x'→m.2[x]?=some (some (c,k))→m.2[x']?=some (some (c,k'))→∃j,sr=some (e.t,j)∧j'=j+1
theorem wE.mono {O O':Nat→Prop}{w w':World}{kty:TypeId}{m:Mm}{p:Nat×List G}{u:Value}(h:wE O w kty m p u) (hk:Kept O w w') (hO:∀x,x<w.heap.size→¬O x→¬O' x)
  (hc:∀c k,m.2[p.1]?=some (some (c,k))→w'.heap[c]?=w.heap[c]?):wE O' w' kty m p u:=
 h.imp id fun ⟨h0,c,k,h1,h2⟩=>⟨h0,c,k,h1,h2.mono hk hO fun c' k' e=>by cases e;exact hc c k h1⟩
theorem wE.shut {O Z:Nat→Prop}{w w':World}{kty:TypeId}{m:Mm}{p:Nat×List G}{u:Value}(h:wE O w kty m p u) (hs:fB Z w w'):wE O w' kty m p u:=
 h.imp id fun ⟨h0,c,k,h1,h2⟩=>⟨h0,c,k,h1,h2.shut hs⟩
def zi (i:Nat):List (Nat×List G)→Option (List G)
 | []=>none
 | (x,gs)::r=>match gs with
  | []=>zi i r
  | g::gs'=>bif Nat.beq x i then some (g::gs') else zi i r
def Bn (i:Nat):List ME→Option (List G)
 | []=>none
 | e::r=>match zi i e.f with
  | some gs=>some gs
  | none=>Bn i r
theorem zh {i:Nat}{gs:List G}:∀{f:List (Nat×List G)},zi i f=some gs→gs≠[]∧∃j:Nat,f[j]?=some (i,gs)
 | [],h=>by cases h
 | (x,gs0)::r,h=>by
  simp only[zi] at h
  cases gs0 with
  | nil=>obtain⟨h1,j,h2⟩:=zh (f:=r) h;exact⟨h1,j+1,h2⟩
  | cons g gs'=>
   dsimp only at h
   cases hb:Nat.beq x i with
   | true=>
    rw[hb] at h
    cases h
    rw[af hb]
    exact⟨by simp,0,rfl⟩
   | false=>rw[hb] at h;obtain⟨h1,j,h2⟩:=zh (f:=r) h;exact⟨h1,j+1,h2⟩
theorem zg {i:Nat}{gs:List G}:∀{es:List ME},Bn i es=some gs→gs≠[]∧∃e∈es,∃j:Nat,e.f[j]?=some (i,gs)
 | [],h=>by cases h
 | e::r,h=>by
  simp only[Bn] at h
  cases hf:zi i e.f with
  | some gs'=>rw[hf] at h;cases h;obtain⟨h1,j,h2⟩:=zh hf;exact⟨h1,e,au,j,h2⟩
  | none=>rw[hf] at h;obtain⟨h1,e',h2,h3⟩:=zg (es:=r) h;exact⟨h1,e',ap _ h2,h3⟩
def CW (q:IntKind) (kty tty:TypeId) (n:Nat) (es:List ME) (pd:Option (Option (Nat×Nat)×Nat×List G)):Dp where
 φ:=AN q kty tty n es pd
 ib:=False
 row:=fun i=>Bn i es
 Hn:=fun h=>(zg h).1
 K6:=by
  intro O w b m i gs h hrow
  obtain⟨h0,e,he,j,hj⟩:=zg hrow
  obtain⟨c,cs,h1,h2,h3,h4⟩:=h.Cr e he
  obtain⟨u,h5,h6⟩:=h4 j _ hj
  rcases h6 with ⟨h6,_⟩ | ⟨_,c',k',h7,cap,cs',_,_,_,h8,_,_,_,h9⟩
  ·exact absurd h6 h0
  ·exact⟨c',k',cs',kty,h7,h8,h9⟩
 mono:=by
  intro O O' w w' b m h hk hO hb
  refine {len:=h.len,J0:=h.J0,JG:=h.JG,heap:=?_,root:=fun i c k e=>⟨(h.root i c k e).1,bW (h.root i c k e).2 hk.size⟩,Cr:=fun e he=>?_,inj:=h.inj,JL:=fun sr x gs e=>?_}
  ·obtain⟨ms,cl,h1,h2⟩:=h.heap
   exact⟨ms,cl,(hb b (.self _ _)).trans h1,h2⟩
  ·obtain⟨c,cs,h1,h2,h3,h4⟩:=h.Cr e he
   refine⟨c,cs,h1,(hb c (.tM h1)).trans h2,h3,fun j p hp=>?_⟩
   obtain⟨u,h5,h6⟩:=h4 j p hp
   exact⟨u,h5,h6.mono hk hO fun c k e=>hb c (.tM e)⟩
  ·obtain⟨h0,⟨c,k,cs,h1,h2,h3,h4,h5,h6⟩,h7⟩:=h.JL sr x gs e
   exact⟨h0,⟨c,k,cs,h1,(hb c (.tM h1)).trans h2,h3,h4,h5,fun i g hg=>let ⟨v,hv,hr⟩:=h6 i g hg;⟨v,hv,hr.mono hk hO⟩⟩,h7⟩
 shut:=by
  intro O Z w w' b m h hs hz
  have hb:∀x,In x b m→w'.heap[x]?=w.heap[x]?:=fun x hx=>by
   rcases hs.block x with h | ⟨h,_⟩
   ·exact h
   ·exact absurd h (hz x hx)
  refine {len:=h.len,J0:=h.J0,JG:=h.JG,heap:=?_,root:=fun i c k e=>⟨(h.root i c k e).1,by rw[hs.size];exact(h.root i c k e).2⟩,Cr:=fun e he=>?_,inj:=h.inj,JL:=fun sr x gs e=>?_}
  ·obtain⟨ms,cl,h1,h2⟩:=h.heap
   exact⟨ms,cl,(hb b (.self _ _)).trans h1,h2⟩
  ·obtain⟨c,cs,h1,h2,h3,h4⟩:=h.Cr e he
   refine⟨c,cs,h1,(hb c (.tM h1)).trans h2,h3,fun j p hp=>?_⟩
   obtain⟨u,h5,h6⟩:=h4 j p hp
   exact⟨u,h5,h6.shut hs⟩
  ·obtain⟨h0,⟨c,k,cs,h1,h2,h3,h4,h5,h6⟩,h7⟩:=h.JL sr x gs e
   exact⟨h0,⟨c,k,cs,h1,(hb c (.tM h1)).trans h2,h3,h4,h5,fun i g hg=>let ⟨v,hv,hr⟩:=h6 i g hg;⟨v,hv,hr.shut hs⟩⟩,h7⟩
 live:=by
  intro O w b m h x hx
  rcases hx with rfl | ⟨n,hn⟩
  ·obtain⟨ms,cl,h1,_⟩:=h.heap
   exact lt_of_heap h1
  ·obtain⟨i,hi⟩:=e8 hn
   exact(h.root i x n hi).2
section
variable {P:Program}{N:Nat}{cx:Cx}{s:St}{W:List Nat}
variable {dst:Option Tmp}{ty:TypeId}{pos:String}{after:Array Edge}{guard:Option (Nat×Bool)}
theorem Rel.Rf {μ:Mu}{a:Act}{w:World}(hr:Rel N cx μ s a w){h:Nat}{k:ao}{q:IntKind}{kty tty:TypeId}{n:Nat}{es:List ME}{pd:Option (Option (Nat×Nat)×Nat×List G)}(hk:az s.st h=some k) (hl:k.lp=some (.deep (CW q kty tty n es pd))){b:Nat}{m:Mm}(hm:μ h=some (b,m)):
  AN q kty tty n es pd (bif k.fresh then hJ (cx.O s.st μ) cx.base else cx.O s.st μ) w b m:=by
 have:=hr.st.dB h k hk
 rw[hm] at this
 exact((aS.deep hl).1 this).1
theorem Rel.eV {μ:Mu}{a:Act}{w:World}(hrel:Rel N cx μ s a w){x:Operand}{h:Nat}(hx:AM.ev s x=some (.eV h)):∃b m,a.eval x=.map (some b)∧μ h=some (b,m):=by
 have hr:=hrel.ev hx
 generalize a.eval x=v at hr
 cases hr with
 | aC h=>cases h
 | eV _ b m hm=>exact⟨b,m,rfl,hm⟩
theorem Rel.PZ {μ:Mu}{a:Act}{w:World}(hrel:Rel N cx μ s a w){x:Operand}{q:IntKind}{ky:Int×Int}(hx:AM.ev s x=some (.agg [.val (.int q ky.1),.val (.int q ky.2)])):a.eval x=AM.PZ q ky:=by
 have hr:=hrel.ev hx
 generalize a.eval x=v at hr
 have key:∀us:List Value,us.length=2→(∀(j:Nat) (g:G) (v:Value),[G.val (.int q ky.1),.val (.int q ky.2)][j]?=some g→us[j]?=some v→g=.val v)→us=[.int q ky.1,.int q ky.2]:=by
  intro us hl h
  match us,hl with
  | [a,b],_=>
   have h1:=h 0 _ a rfl rfl
   have h2:=h 1 _ b rfl rfl
   cases h1;cases h2;rfl
 cases hr with
 | aC h=>
  cases h with
  | agg _ us hl hr=>
   rw[key us hl fun j g v hg hv=>by
    have:=hr j g v hg hv
    match j,hg with
    | 0,hg=>cases hg;cases this;rfl
    | 1,hg=>cases hg;cases this;rfl
    | j+2,hg=>simp at hg]
   rfl
 | agg _ us hl hr=>
  rw[key us hl fun j g v hg hv=>by
   have:=hr j g v hg hv
   match j,hg with
   | 0,hg=>cases hg;cases this with | aC h=>cases h;rfl
   | 1,hg=>cases hg;cases this with | aC h=>cases h;rfl
   | j+2,hg=>simp at hg]
  rfl
def Jv (es:List ME) (t:Nat):Option ME:=es.find? fun e=>Nat.beq e.t t
theorem Pe {es:List ME}{t:Nat}{e:ME}(h:Jv es t=some e):e∈es∧e.t=t:=⟨List.mem_of_find?_eq_some h,af (by simpa using List.find?_some h)⟩
theorem YL.TT {t:TypeId}{x:Operand}{h tt off z:Nat}{k:ao}{q:IntKind}{kty tty:TypeId}{n:Nat}{es:List ME}{pd:Option (Option (Nat×Nat)×Nat×List G)}{e:ME}{gs:List G}(hx:ev s x=some (.kp h tt off)) (hk:az s.st h=some k) (hl:k.lp=some (.deep (CW q kty tty n es pd)))
  (he:Jv es tt=some e) (hf:e.f[off]?=some (z,gs)) (hag:∀w,(isAgg t).run P w=.ok false w) (hW:W.contains h=false):eQ P W s ⟨dst,.load t x,ty,pos,after,guard⟩ (.ks h z 1 gs.length):=fun N cx μ a w hrel=>by
 obtain⟨b,m,c,n',e1,hm,hc⟩:=hrel.kp hx
 have hM:=hrel.Rf hk hl hm
 obtain⟨he1,he2⟩:=Pe he
 obtain⟨c',cs,h1,h2,h3,h4⟩:=hM.Cr e he1
 rw[he2,hc] at h1
 cases h1
 obtain⟨u,h5,h6⟩:=h4 off _ hf
 refine⟨u,?_,fun w' hs hw'=>?_⟩
 ·rcases h6 with ⟨q1,_,rfl⟩ | ⟨q1,c2,k2,q2,q3⟩
  ·have q1:gs=[]:=q1
   subst q1
   exact .ko h z 1 none 0 fun _=>⟨rfl,rfl⟩
  ·obtain⟨cap,cs',rfl,r1,r2,_⟩:=q3
   exact .ks h z 1 _ b m c2 k2 cap hm q2 r1 r2
 ·have hb:=hrel.AK hk hm hW ⟨hs,hw'⟩ (.tM hc)
  rw[h2] at hb
  have hcell:w'.cell? ⟨c,off,none⟩=some u:=by rw[cell_of hb,h5]
  simp[execOp,e1,Instr.loadAt,Instr.sureAddr,loadVar,hag,hcell]
end
end Go.AM
/-
 AM:maps:what belongs to a block gets more behind.
-/
namespace Go.AM
section
variable {P:Program}{N:Nat}{cx:Cx}{s:St}{W:List Nat}
end
end Go.AM
/-
 AM:maps:one is made;an entry more,with a struct that was the call's own.
-/
namespace Go.AM
section
variable {P:Program}{N:Nat}{cx:Cx}{s:St}{W:List Nat}
variable {ty:TypeId}{pos:String}{after:Array Edge}{guard:Option (Nat×Bool)}
def Q9 (h2 h n:Nat):G→G
 | .loc x off=>bif Nat.beq x h2 then .kp h n off else .loc x off
 | .aK x sz off k=>bif Nat.beq x h2 then .any else .aK x sz off k
 | .kp x i off=>bif Nat.beq x h2 then .any else .kp x i off
 | .ks x i sz k=>bif Nat.beq x h2 then .any else .ks x i sz k
 | .cA x=>bif Nat.beq x h2 then .any else .cA x
 | .eV x=>bif Nat.beq x h2 then .any else .eV x
 | .agg gs=>.agg (go gs)
 | .aU gs=>.aU (go gs)
 | .aP f gs=>.aP f (go gs)
 | g=>g
where go:List G→List G
 | []=>[]
 | g::r=>Q9 h2 h n g::go r
end
end Go.AM
/-
 AM:maps:an entry more;a slice's append;its store.
-/
namespace Go.AM
mutual
theorem Tw {h2 h n:Nat}:∀g:G,g.bO h2=false→Q9 h2 h n g=g
 | .loc x off,e=>by show(bif Nat.beq x h2 then _ else _)=_;rw[show Nat.beq x h2=false from e];rfl
 | .aK x _ _ _,e=>by show(bif Nat.beq x h2 then _ else _)=_;rw[show Nat.beq x h2=false from e];rfl
 | .kp x _ _,e=>by show(bif Nat.beq x h2 then _ else _)=_;rw[show Nat.beq x h2=false from e];rfl
 | .ks x _ _ _,e=>by show(bif Nat.beq x h2 then _ else _)=_;rw[show Nat.beq x h2=false from e];rfl
 | .cA x,e=>by show(bif Nat.beq x h2 then _ else _)=_;rw[show Nat.beq x h2=false from e];rfl
 | .eV x,e=>by show(bif Nat.beq x h2 then _ else _)=_;rw[show Nat.beq x h2=false from e];rfl
 | .agg gs,e=>congrArg G.agg (Ai gs e)
 | .aU gs,e=>congrArg G.aU (Ai gs e)
 | .aP f gs,e=>congrArg (G.aP f) (Ai gs e)
 | .any,_=>rfl
 | .val _,_=>rfl
 | .cH _,_=>rfl
 | .sl _ _,_=>rfl
 | .ptr _,_=>rfl
 | .fr _,_=>rfl
theorem Ai {h2 h n:Nat}:∀gs:List G,G.bO.go h2 gs=false→Q9.go h2 h n gs=gs
 | [],_=>rfl
 | x::r,e=>by
  simp only[G.bO.go,bc] at e
  simp only[Q9.go,Tw x e.1,Ai r e.2]
end
theorem wE.ext {O:Nat→Prop}{w:World}{kty:TypeId}{m:Mm}{l':List (Option (Nat×Nat))}{p:Nat×List G}{u:Value}(h:wE O w kty m p u):wE O w kty (m.1,m.2++l') p u:=
 h.imp id fun ⟨h0,c,k,h1,h2⟩=>⟨h0,c,k,by
  have:=(aw.1 h1).1
  show(m.2++l')[p.1]?=_
  rw[cd this];exact h1,h2⟩
theorem AN.has {q:IntKind}{kty tty:TypeId}{n:Nat}{es:List ME}{pd:Option (Option (Nat×Nat)×Nat×List G)}{O:Nat→Prop}{w:World}{b:Nat}{m:Mm}(h:AN q kty tty n es pd O w b m){e:ME}{j x:Nat}(he:e∈es) (hx:Rl e j=some x):∃c k,m.2[x]?=some (some (c,k)):=by
 obtain⟨c,cs,h1,h2,h3,h4⟩:=h.Cr e he
 cases j with
 | zero=>cases hx;exact⟨c,_,h1⟩
 | succ j=>
  obtain⟨gs,h5,h6⟩:=Ft hx
  obtain⟨u,_,h7⟩:=h4 j _ h5
  rcases h7 with ⟨h7,_⟩ | ⟨_,c',k',h7,_⟩
  ·exact absurd h7 h6
  ·exact⟨c',k',h7⟩
section
variable {P:Program}{N:Nat}{cx:Cx}{s:St}{W:List Nat}
variable {ty:TypeId}{pos:String}{after:Array Edge}{guard:Option (Nat×Bool)}
end
end Go.AM
/-
 AM:maps:a slice's append;its store.
-/
namespace Go.AM
section
variable {P:Program}{N:Nat}{cx:Cx}{s:St}{W:List Nat}
variable {ty:TypeId}{pos:String}{after:Array Edge}{guard:Option (Nat×Bool)}{d:Nat}
variable {dst:Option Tmp}
theorem YL.Sl {t:TypeId}{x:Operand}{h z off:Nat}{k:ao}{q:IntKind}{kty tty:TypeId}{n:Nat}{es:List ME}{pd:Option (Option (Nat×Nat)×Nat×List G)}{gs:List G}{u:Value}(hx:ev s x=some (.kp h z off)) (hk:az s.st h=some k) (hl:k.lp=some (.deep (CW q kty tty n es pd)))
  (hrow:Bn z es=some gs) (hg:gs[off]?=some (.val u)) (hag:∀w,(isAgg t).run P w=.ok false w) (hW:W.contains h=false):eQ P W s ⟨dst,.load t x,ty,pos,after,guard⟩ (.val u):=fun N cx μ a w hrel=>by
 obtain⟨b,m,c,n',e1,hm,hc⟩:=hrel.kp hx
 have hM:=hrel.Rf hk hl hm
 obtain⟨c',k',cs,bw,h1,h2,h3⟩:=(CW q kty tty n es pd).K6 hM hrow
 rw[hc] at h1
 cases h1
 obtain⟨v,h5,h6⟩:=h3 off _ hg
 cases h6
 refine⟨u,.aC (.val _),fun w' hs hw'=>?_⟩
 have hb:=hrel.AK hk hm hW ⟨hs,hw'⟩ (.tM hc)
 rw[h2] at hb
 have hcell:w'.cell? ⟨c,off,none⟩=some u:=by rw[cell_of hb,h5]
 simp[execOp,e1,Instr.loadAt,Instr.sureAddr,loadVar,hag,hcell]
end
end Go.AM
/-
 AM:deferred calls,panics that are zS.
-/
namespace Go.AM
section
variable {P:Program}{F:Fence}{n:Nat}
theorem nV {fn:Func}{tmps:Array Value}{R:Ending→World→Prop}:∀(ds:List Deferred) (u:FrameMode) (w:World) (fr:Frame) (cs:List Frame),
  fr.mode=u→fr.defers=ds→fr.tmps=tmps→P.funcs[fr.fn]?=some fn→F.fn fr.fn→F.room (cs.length+1+n)→LeavesInM F n P fn tmps R ds u w→
  ∃e w' fr',R e w'∧ComesIn (Machine.fenced P F) P (lone fr cs w) (lone fr' cs w') e∧fr'.fn=fr.fn∧fr'.kind=fr.kind∧fr'.going P w' e
 | [],u,w,fr,cs,hu,hd,ht,hf,hb,hroom,h=>by
  have h:LeavesIn F n P fn tmps R [] u w:=h
  cases u with
  | run=>exact h.elim
  | returning=>
   obtain⟨v,hr,hR⟩:=h
   exact⟨.returned v,w,fr,hR,StepsIn.refl _,rfl,rfl,hu,hd,fn,hf,ht▸hr⟩
  | panicking chain=>exact⟨.panicked chain,w,fr,h,StepsIn.refl _,rfl,rfl,hu,hd,fn,hf⟩
 | d::ds,u,w,fr,cs,hu,hd,ht,hf,hb,hroom,h=>by
  obtain⟨hrun,h⟩:=h
  rcases h with ⟨r,w',htar,htake,hrest⟩ | ⟨hn,fv,cap,f,args,htar,hinv,hlead,hcall⟩
  ·have h1:=step_collected (cs:=cs) (hu▸hrun) hd htar htake
   have i1:(lone fr cs w).fenced P F:=fenced_out hb hroom (hu▸hrun) hd (fun g hg=>by rw[htar] at hg;simp[Target.leads] at hg)
   obtain⟨e',w'',fr',q1,q2,q3,q4,q5⟩:=nV ds u w' {fr with defers:=[]++ds} cs hu rfl ht hf hb hroom hrest
   exact⟨e',w'',fr',q1,ComesIn.of_steps (.one i1 h1) q2,q3,q4,q5⟩
  ·have h1:=step_defer (cs:=cs) (hu▸hrun) hd htar hinv
   have i1:(lone fr cs w).fenced P F:=fenced_out hb hroom (hu▸hrun) hd hlead
   have hroom':F.room (({fr with defers:=ds}::cs).length+1+(n-1)):=Fence.room_enter hroom hn
   obtain⟨hFf,hcall⟩:=hcall
   obtain⟨e,u',w',frX,hR,hsteps,hkX,hfX,hgo⟩:=hcall {fr with defers:=ds} cs hu hroom'
   cases e with
   | outgrown=>exact⟨.outgrown,w',fr,hR,Outgrown.of_steps (.one h1) hsteps,rfl,rfl,trivial⟩
   | returned v=>
    have i2:(lone frX ({{fr with defers:=ds} with mode:=u'}::cs) w').fenced P F:=fenced_going (n:=n-1) (hfX▸hFf) hroom' hgo
    have h2:=step_going_returned (c:={{fr with defers:=ds} with mode:=u'}) (cs:=cs) hkX hgo
    obtain⟨e',w'',fr',q1,q2,q3,q4,q5⟩:=nV ds (settle u') w' {{{fr with defers:=ds} with mode:=u'} with mode:=settle u'} cs rfl rfl ht hf hb hroom hR
    exact⟨e',w'',fr',q1,ComesIn.of_steps (.head i1 h1 (StepsIn.trans hsteps (.one i2 h2))) q2,q3,q4,q5⟩
   | panicked chain=>
    have i2:(lone frX ({{fr with defers:=ds} with mode:=u'}::cs) w').fenced P F:=fenced_going (n:=n-1) (hfX▸hFf) hroom' hgo
    have h2:=step_going_panicked (c:={{fr with defers:=ds} with mode:=u'}) (cs:=cs) hgo
    obtain⟨e',w'',fr',q1,q2,q3,q4,q5⟩:=nV ds (raised u' chain) w' {{{fr with defers:=ds} with mode:=u'} with mode:=raised u' chain} cs rfl rfl ht hf hb hroom hR
    exact⟨e',w'',fr',q1,ComesIn.of_steps (.head i1 h1 (StepsIn.trans hsteps (.one i2 h2))) q2,q3,q4,q5⟩
theorem DG {f : FuncId} {fn : Func} {c : Code} {args : Array Value} {u : FrameMode} {w : World} {R : Ending → World → Prop} (hf : P.funcs[f]? = some fn) (hb : fn.body = some c) (hF : F.fn f)
  (h : c.wpIn F n P (bodyPostM F n P fn R) { tmps := args ++ Array.replicate (fn.ntmps - args.size) undef, defers := [] } w) (hro : F.round = none := by rfl) :
  CallsDIn F n P f args u w fun e u' w' => u' = u ∧ R e w' := by
 refine ⟨hF, fun c0 cs hu hr => ?_⟩
 let b : Frame := { (default : Frame) with fn := f, kind := .deferred, roundOf := none }
 have henter : Frame.enter P f args .deferred = b.atR { tmps := args ++ Array.replicate (fn.ntmps - args.size) undef, defers := [] } [.code c] := by
  simp [Frame.enter, Frame.atR, hf, hb, b]
 have hc : ({ c0 with mode := u } : Frame) = c0 := by subst hu; rfl
 obtain ⟨e, a', w', hq, harr⟩ := h b [] (c0 :: cs) hro.symm hF hr
 rw [← henter] at harr
 cases e with
 | normal =>
  obtain ⟨e', w'', fr', q1, q2, q3, q4, q5⟩ := nV a'.defers .returning w' { b.atR a' [] with mode := .returning } (c0 :: cs) rfl rfl rfl hf hF hr hq
  exact ⟨e', u, w'', fr', ⟨rfl, q1⟩, by rw [hc]; exact ComesIn.of_steps (StepsIn.trans harr (.one (fenced_calm (fr := b.atR a' []) hF hr rfl) (stepR_end rfl))) q2, q4, q3, q5⟩
 | ret =>
  obtain ⟨todo, hs0⟩ := harr.1 rfl
  obtain ⟨e', w'', fr', q1, q2, q3, q4, q5⟩ := nV a'.defers .returning w' { b.atR a' todo with mode := .returning } (c0 :: cs) rfl rfl rfl hf hF hr hq
  exact ⟨e', u, w'', fr', ⟨rfl, q1⟩, by rw [hc]; exact ComesIn.of_steps hs0 q2, q4, q3, q5⟩
 | panic chain =>
  obtain ⟨todo, hs0⟩ := harr
  obtain ⟨e', w'', fr', q1, q2, q3, q4, q5⟩ := nV a'.defers (.panicking chain) w' { b.atR a' todo with mode := .panicking chain } (c0 :: cs) rfl rfl rfl hf hF hr hq
  exact ⟨e', u, w'', fr', ⟨rfl, q1⟩, by rw [hc]; exact ComesIn.of_steps hs0 q2, q4, q3, q5⟩
 | exit id => exact hq.elim
 | goto l => exact hq.elim
 | outgrown => exact ⟨.outgrown, u, w', b, ⟨rfl, hq⟩, harr.resolve_left (by simp [b]), rfl, rfl, trivial⟩
theorem CallsDIn.mono {f:FuncId}{args:Array Value}{u:FrameMode}{w:World}{R R':Ending→FrameMode→World→Prop}(h:CallsDIn F n P f args u w R) (hr:∀e u' w',R e u' w'→R' e u' w'):CallsDIn F n P f args u w R':=
 ⟨h.1,fun c cs hu hroom=>let ⟨e,u',w',fr,q1,q2⟩:=h.2 c cs hu hroom;⟨e,u',w',fr,hr _ _ _ q1,q2⟩⟩
end
def GD (P:Program) (f:FuncId) (args:List G) (st:List (Nat×ao)) (u:FrameMode) (Q:FrameMode→List (Nat×ao)→Prop):Prop:=
 ∀(X:Nat→Prop) (μ:Mu) (w:World) (vs:List Value),(∀b,X b→b<w.heap.size)→bP (dw X st μ w) μ st w→vs.length=args.length→
  (∀(j:Nat) (g:G) (v:Value),args[j]?=some g→vs[j]?=some v→aM ((dw X st μ w).O st μ) w.heap.size w μ g v)→
  CallsDIn (FF none) 0 P f vs.toArray u w fun e u' w'=>∃v st' μ',e=.returned v∧Q u' st'∧bP (dw X st μ w) μ' st' w'
section
variable {P:Program}{N:Nat}
theorem FC {X : Nat → Prop} {st : List (Nat × ao)} {μ : Mu} {w : World} {args : List G} {vs : List Value} {fn : Func} (hst : bP (dw X st μ w) μ st w) (hl : vs.length = args.length)
  (ha : ∀ (j : Nat) (g : G) (v : Value), args[j]? = some g → vs[j]? = some v → aM ((dw X st μ w).O st μ) w.heap.size w μ g v) (hN : fn.ntmps = N) (hle : Nat.ble args.length N = true) :
  Rel N (dw X st μ w) μ { fr := kF args 0, st := st, df := [] } { tmps := vs.toArray ++ Array.replicate (fn.ntmps - vs.toArray.size) undef, defers := [] } w := by
 have hle := eH hle
 refine { st := hst, nd := .nil, sz := by simp; omega, fr := fun t g hg => ?_ }
 obtain ⟨_, h2⟩ := wq hg
 simp only [Nat.sub_zero] at h2
 have ht : t < vs.length := by have := (aw.1 h2).1; omega
 refine ⟨vs[t], ?_, ha t g vs[t] h2 (av ht)⟩
 rw [Array.getElem?_append_left (by simpa using ht)]
 simp [ht]
def LD (P:Program) (N:Nat) (cx:Cx) (fn:Func) (R:Ending→World→Prop) (ds:List G) (u:FrameMode) (s:St):Prop:=
 ∀μ a w,Rel N cx μ {s with df:=ds} a w→LeavesInM (FF none) 0 P fn a.tmps R a.defers u w
variable {X:Nat→Prop}{st:List (Nat×ao)}{μ:Mu}{w:World}{fn:Func}{Q:G→List (Nat×ao)→Prop}{Qp:List PanicEntry→List (Nat×ao)→Prop}
theorem LD.ret {s : St} {gs : List G} {r : G} {st' : List (Nat × ao)} (h1 : vb P { s with df := [] } fn.results.toList gs) (h2 : j9 s.st st') (h3 : iI s.st st' (pack gs) = some r) (h4 : Q r st') :
  LD P N (dw X st μ w) fn (qg X st μ w Q Qp) [] .returning s := by
 intro μ' a' w' hr'
 refine mK (fun h => by cases h) hr'.nd fun w'' hs => ?_
 have hr'' : Rel N (dw X st μ w) μ' { s with df := [] } { a' with defers := [] } w'' :=
  { st := hr'.st.uf hs, nd := .nil, sz := hr'.sz, fr := fun t g hg => let ⟨v, hv, hrv⟩ := hr'.fr t g hg; ⟨v, hv, hrv.shut hs⟩ }
 obtain ⟨vs', hl', hvs, hrun⟩ := h1.run hr''
 have hp := HC hl' hvs
 refine ⟨_, ?_, .inl ⟨_, r, st', μ', rfl, h4, hr''.st.sub h2, yh hr''.st (fun h k hk => ⟨k, h2.get hk⟩) hp h3⟩⟩
 have e1 : results fn a'.tmps = results fn ({ a' with defers := [] } : Act).tmps := rfl
 rw [e1, xz]
 simp only [Sem.run_bind, sd _ _ _ _ _ hrun, Result.andThen_ok, Sem.run_pure]
theorem LD.VX {s:St}{ch:List PanicEntry}{st':List (Nat×ao)}(h2:j9 s.st st') (h4:Qp ch st'):LD P N (dw X st μ w) fn (qg X st μ w Q Qp) [] (.panicking ch) s:=by
 intro μ' a' w' hr'
 refine mK (fun h=>by cases h) hr'.nd fun w'' hs=>?_
 exact .inr ⟨_,st',μ',rfl,h4,(hr'.st.uf hs).sub h2⟩
theorem Fo {cx:Cx}{R:Ending→World→Prop}{u:FrameMode}(hu:u≠.run){f:FuncId}{cs:List G}{gs:List G}{tmps:Array Value}{O:Nat→Prop}{base:Nat}{μ:Mu}:
  ∀{ds:List Deferred}{w:World},fZ O base w μ ds (.aP f cs::gs)→
   (∀w' us ds',fB (fun b=>¬O b∧base≤b) w w'→aM O base w' μ (.aP f cs) (.func (.func f) #[] us)→fZ O base w' μ ds' gs→LeavesInM (FF none) 0 P fn tmps R ({target:=.fn (.func f) us,args:=#[]}::ds') u w')→
   LeavesInM (FF none) 0 P fn tmps R ds u w
 | [],w,h,K=>by cases h
 | d::ds,w,h,K=>by
  cases h with
  | mark h1 h2 h3 h4 h5 h6=>
   rename_i D
   refine⟨hu,.inl ⟨D,_,rfl,run_takeDeferred h4,?_⟩⟩
   have hs:fB (fun b=>¬O b∧base≤b) w (w.putObj D (.deferred none)):=fB.put _ ⟨h1,h2⟩ h4 rfl
   have hs1:fB (fun b=>b=D) w (w.putObj D (.deferred none)):=fB.put _ rfl h4 rfl
   refine Fo (cx:=cx) hu (O:=O) (base:=base) (μ:=μ) (w:=w.putObj D (.deferred none)) (h6.shut hs1 fun d hd D' e e'=>h5 d hd (by rw[e,e'])) fun w' us ds' hw'=>K w' us ds' ⟨hw'.size.trans hs.size,fun b=>?_,hw'.os.trans hs.os,hw'.tape.trans hs.tape,hw'.output.trans hs.output⟩
   by_cases e:b=D
   ·subst e;exact .inr ⟨⟨h1,h2⟩,_,h4,rfl⟩
   ·rcases hw'.block b with h7 | ⟨h7,o,h8,h9⟩
    ·exact .inl (h7.trans (World.putObj_heap_other e))
    ·exact .inr ⟨h7,o,by rw[←World.putObj_heap_other (o:=.deferred none) e];exact h8,h9⟩
  | aP h1 h2=>exact K w _ _ (fB.refl _ _) h1 h2
theorem IZ {vw:Bool}{s s2:St}{H:List Nat}{st':List (Nat×ao)}{bk:List Nat}(h:jt vw s H st' bk=some s2):s2.df=s.df:=by
 unfold jt at h
 cases hb:oS s H st' bk&&s.df.all (fun g=>!(pq (dP st' H 0) g)) with
 | false=>rw[hb] at h;cases h
 | true=>
  rw[hb,cond_true] at h
  split at h
  ·cases h;rfl
  ·cases h
theorem LD.aP {cx : Cx} {R : Ending → World → Prop} {s : St} {f : FuncId} {caps gs' : List G} {ds : List G} {u : FrameMode} {cP : List (Nat × ao)} {Qd : FrameMode → List (Nat × ao) → Prop} (H : List Nat) (vw : Bool) (hu : u ≠ .run) (hc : ∀ args w, (callFunc f args).run P w = .ok (.enter f args) w)
    (hv : bN.go H (dl s.st H vw) caps = some gs') (hl : ei H (dl s.st H vw) s.st H 0 = some cP) (cV : mZ H = true) (hcon : GD P f gs' cP u Qd)
    (hres : ∀ u' st', Qd u' st' → ∃ bk s2, jt vw { s with df := ds } H st' bk = some s2 ∧ LD P N cx fn R ds (settle u') s2) : LD P N cx fn R (.aP f caps :: ds) u s := by
  intro μ a w hr
  refine Fo (cx := cx) hu hr.nd fun w' us ds' hs hrc hnd' => ?_
  have hr' : Rel N cx μ { s with df := ds } { a with defers := ds' } w' := by
    refine { st := ?_, nd := hnd', sz := hr.sz, fr := fun t g hg => let ⟨v, hv, hrv⟩ := hr.fr t g hg; ⟨v, hv, hrv.shut hs⟩ }
    exact hr.st.uf hs
  obtain ⟨us2, hus, hlu, hrc2⟩ := hrc.IN
  have hus : us = us2.toArray := by
    obtain ⟨A, B, e1, e2, e3, e4⟩ := AI f us2
    rw [e1] at hus
    injection hus with _ q1 q2
    rw [← e2, ← q1, ← q2]; simp
  subst us
  · refine ⟨hu, .inr ⟨fun _ => (by rename_i h; cases h), .func f, us2.toArray, f, us2.toArray, rfl, ?_, fun _ _ => trivial, ?_⟩⟩
    · have : (callFunc f (#[] ++ us2.toArray)).run P w' = .ok (.enter f us2.toArray) w' := by rw [hc]; simp
      exact this
    · obtain ⟨h1, h2⟩ := mr hv
      have hrel := BM hr'.st (H := H) (vw := vw) hl (ik cV)
      have hcall := hcon (jn cx s.st μ H vw) (jO H μ) w' us2 hrel.ed hrel (by omega) fun j g v hg hv => by
        obtain ⟨g0, h3, h4⟩ := h2 j g hg
        exact o9 hr'.st hl (hrc2 j g0 v h3 hv) h4
      refine CallsDIn.mono hcall ?_
      rintro e u' w'' ⟨v, st', μ', rfl, hq, hC⟩
      obtain ⟨bk, s2, hb, hld⟩ := hres u' st' hq
      obtain ⟨q1, _, _, _⟩ := my hr' hl (ik cV) hC hb
      have hdf : s2.df = ds := IZ hb
      exact hld _ _ _ (by rw [← hdf]; exact q1)
theorem GD.of {f : FuncId} {c : Code} {args : List G} {st : List (Nat × ao)} {Q : List (Nat × ao) → Prop} (hf : P.funcs[f]? = some fn) (hb : fn.body = some c) (hN : fn.ntmps = N) (hle : Nat.ble args.length N = true)
    (h : ∀ cx, cx.ro = none → GW P N cx c (sJ P fn fun _ st => Q st) { fr := kF args 0, st := st, df := [] }) (u : FrameMode) : GD P f args st u fun u' st' => u' = u ∧ Q st' := by
  intro X μ w vs hX hst hl ha
  have hrel := FC hst hl ha hN hle
  refine CallsDIn.mono (DG (F := FF none) (n := 0) (R := fun e w' => ∃ v st' μ', e = .returned v ∧ Q st' ∧ bP (dw X st μ w) μ' st' w') hf hb trivial (wpIn_mono (h (dw X st μ w) rfl μ _ w hrel) fun e a' w' hl => ?_)) fun e u' w' h => ?_
  · have fin : ∀ (μ' : Mu) (s' : St), Rel N (dw X st μ w) μ' s' a' w' → sJ P fn (fun _ st => Q st) e s' → LeavesInM (FF none) 0 P fn a'.tmps (fun e w' => ∃ v st' μ', e = .returned v ∧ Q st' ∧ bP (dw X st μ w) μ' st' w') a'.defers .returning w' := by
      rintro μ' s' hr' ⟨_, hdf, gs, r, st', h1, h2, h3, h4⟩
      have cV := hr'.nd
      rw [hdf] at cV
      refine mK (fun h => by cases h) cV fun w'' hs => ?_
      have hr'' : Rel N (dw X st μ w) μ' { s' with df := [] } { a' with defers := [] } w'' :=
        { st := hr'.st.uf hs, nd := .nil, sz := hr'.sz, fr := fun t g hg => let ⟨v, hv, hrv⟩ := hr'.fr t g hg; ⟨v, hv, hrv.shut hs⟩ }
      have h1' : vb P { s' with df := [] } fn.results.toList gs := by
        have : ({ s' with df := [] } : St) = s' := by cases s'; simp only at hdf; subst hdf; rfl
        rw [this]; exact h1
      obtain ⟨vs', hl', hvs, hrun⟩ := h1'.run hr''
      refine ⟨if h : vs'.toArray.size = 1 then vs'.toArray[0] else .tuple vs'.toArray, ?_, _, st', μ', rfl, h4, hr''.st.sub h2⟩
      have e1 : results fn a'.tmps = results fn ({ a' with defers := [] } : Act).tmps := rfl
      rw [e1, xz]
      simp only [Sem.run_bind, sd _ _ _ _ _ hrun, Result.andThen_ok, Sem.run_pure]
    cases e with
    | normal => obtain ⟨μ', s', hr', hq⟩ := hl; exact fin μ' s' hr' hq
    | ret => obtain ⟨μ', s', hr', hq⟩ := hl; exact fin μ' s' hr' hq
    | outgrown => exact hl.elim
    | _ => obtain ⟨_, _, _, hq, _⟩ := hl; rcases hq with hq | hq <;> cases hq
  · obtain ⟨rfl, v, st', μ', h1, h2, h3⟩ := h
    exact ⟨v, st', μ', h1, ⟨rfl, h2⟩, h3⟩
theorem GP.VY {f : FuncId} {c : Code} {args : List G} {st : List (Nat × ao)} (hf : P.funcs[f]? = some fn) (hb : fn.body = some c) (hN : fn.ntmps = N) (hle : Nat.ble args.length N = true)
  (h : ∀ X μ w, GW P N (dw X st μ w) c (fun e s => match e with
   | .normal => LD P N (dw X st μ w) fn (qg X st μ w Q Qp) s.df .returning s
   | .ret => LD P N (dw X st μ w) fn (qg X st μ w Q Qp) s.df .returning s
   | .panic ch => LD P N (dw X st μ w) fn (qg X st μ w Q Qp) s.df (.panicking ch) s
   | _ => False) { fr := kF args 0, st := st, df := [] }) : GP P f args st Q Qp := by
 intro X μ w vs hX hst hl ha
 have hrel := FC hst hl ha hN hle
 refine j0.1 (callsIn_of_wp_marks (F := FF none) (n := 0) hf hb trivial ?_)
 refine wpIn_mono (h X μ w μ _ w hrel) fun e a' w' hl => ?_
 cases e with
 | normal => obtain ⟨μ', s', hr', hq⟩ := hl; exact hq μ' a' w' hr'
 | ret => obtain ⟨μ', s', hr', hq⟩ := hl; exact hq μ' a' w' hr'
 | panic ch => obtain ⟨μ', s', hr', hq⟩ := hl; exact hq μ' a' w' hr'
 | outgrown => exact hl.elim
 | exit id => obtain ⟨_, _, _, hq⟩ := hl; exact hq
 | goto l => obtain ⟨_, _, _, hq⟩ := hl; exact hq
theorem GL.defer {cx:Cx}{Q:Exit→St→Prop}{ops:Array Oper}{rest:List Oper}{s:St}{x:Operand}{ts:Array TypeId}{ty:TypeId}{pos:String}{after:Array Edge}{f:FuncId}{caps:List G}(hb:qd.contains f=false) (hro:cx.ro=none) (hf:ev s x=some (.aP f caps))
  (h:GL P N cx ops Q rest {s with df:=.aP f caps::s.df}):GL P N cx ops Q (⟨none,.defer ⟨.value x,#[],ts⟩,ty,pos,after,none⟩::rest) s:=by
 intro μ a w hr
 have hcl:=hr.ev hf
 generalize hav:a.eval x=vf at hcl
 cases hcl with
 | aC h=>cases h
 | aP _ _ us hlu hrc=>
  have hcv:pp f us=.func (.func f) #[] us.toArray:=by unfold pp;rw[hb]
  unfold wpListIn
  rw[if_pos (dD hr rfl)]
  refine⟨fun _ _=>trivial,?_⟩
  have e:(Oper.semAt (FF cx.ro).round a.eval ⟨none,.defer ⟨.value x,#[],ts⟩,ty,pos,after,none⟩).run P w=.ok (.defer {target:=.fn (.func f) us.toArray,args:=#[]}) w:=by
   rw[show(FF cx.ro).round=none from hro]
   simp[Oper.semAt,execOp,resolve,Deferred.ofValue,hav,hcv]
  rw[e]
  show wpListIn _ _ _ _ _ rest _ w
  refine h μ _ w ?_
  refine {st:=hr.st,nd:=.aP (hcv▸.aP _ _ _ hlu hrc) hr.nd,sz:=by simp[Act.put,hr.sz],fr:=fun t g hg=>?_}
  exact hr.fr t g hg
theorem UE.c1 {W:List Nat}{s:St}{d:Nat}{ty:TypeId}{pos:String}{after:Array Edge}{guard:Option (Nat×Bool)}{f:FuncId}{xs:Array Operand}{ts:Array TypeId}{gs gs':List G}{cP:List (Nat×ao)}{T:St→Prop}{Tp:List PanicEntry→St→Prop}(H:List Nat) (vw:Bool) (hc:∀args w,(callFunc f args).run P w=.ok (.enter f args) w)
  (hx:tc s xs.toList=some gs) (hv:bN.go H (dl s.st H vw) gs=some gs') (hl:ei H (dl s.st H vw) s.st H 0=some cP) (cV:mZ H=true) (hcon:GP P f gs' cP Q Qp)
  (hres:∀r st',Q r st'→∃bk s2 r',jt vw s H st' bk=some s2∧dv vw (iJ st' bk) r=some r'∧T (s2.put d r')) (hresP:∀ch st',Qp ch st'→∃bk s2,jt vw s H st' bk=some s2∧Tp ch s2) (hW:sS H W=true):
  kJ P W s ⟨some d,.call ⟨.value (.func f),xs,ts⟩,ty,pos,after,guard⟩ T Tp:=by
 refine⟨(fun _ h=>by cases h),?_⟩
 intro N cx μ a w hr hN K Q' hK hKp
 obtain⟨h1,h2⟩:=lL hx
 have hcall:=qq (vs:=xs.toList.map a.eval) hr hv hl cV (by simp[h1]) (fun j g v hg hv=>by
  obtain⟨x,hxj,he⟩:=h2 j g hg
  rw[ar,hxj] at hv
  cases hv
  exact hr.ev he) hcon
 unfold Oper.wp
 have:(execOp a.eval ⟨some d,.call ⟨.value (.func f),xs,ts⟩,ty,pos,after,guard⟩).run P w=.ok (.enter f (xs.toList.map a.eval).toArray) w:=by
  have e:xs.map a.eval=(xs.toList.map a.eval).toArray:=by rw[←fD]
  simp[execOp,resolve,invoke,Deferred.ofValue,Act.eval,hc,e]
 rw[this]
 refine hcall.mono ?_
 rintro e w' (⟨v,r,st',μ',rfl,hq,hC,hrv⟩ | ⟨ch,st',μ',rfl,hq,hC⟩)
 ·obtain⟨bk,s2,r',hb,hren,hT⟩:=hres r st' hq
  obtain⟨q1,q2,q3,_⟩:=my hr hl (ik cV) hC hb
  exact hK _ _ _ w' (q1.put (hN d rfl) (q2 r r' v hrv hren)) hT (q3 W (rI hW))
 ·obtain⟨bk,s2,hb,hT⟩:=hresP ch st' hq
  obtain⟨q1,_,_,_⟩:=my hr hl (ik cV) hC hb
  exact hKp ch _ _ w' q1 hT
theorem UE.c2 {W:List Nat}{s:St}{d:Nat}{ty:TypeId}{pos:String}{after:Array Edge}{guard:Option (Nat×Bool)}{f:FuncId}{x:Operand}{xs:Array Operand}{ts:Array TypeId}{gs caps gs':List G}{cP:List (Nat×ao)}{T:St→Prop}{Tp:List PanicEntry→St→Prop}(H:List Nat) (vw:Bool) (hb:ry f xs.toList=true) (hc:∀args w,(callFunc f args).run P w=.ok (.enter f args) w)
  (hf:ev s x=some (.aP f caps)) (hx:tc s xs.toList=some gs) (hv:bN.go H (dl s.st H vw) (gs++caps)=some gs') (hl:ei H (dl s.st H vw) s.st H 0=some cP) (cV:mZ H=true) (hcon:GP P f gs' cP Q Qp)
  (hres:∀r st',Q r st'→∃bk s2 r',jt vw s H st' bk=some s2∧dv vw (iJ st' bk) r=some r'∧T (s2.put d r')) (hresP:∀ch st',Qp ch st'→∃bk s2,jt vw s H st' bk=some s2∧Tp ch s2) (hW:sS H W=true):
  kJ P W s ⟨some d,.call ⟨.value x,xs,ts⟩,ty,pos,after,guard⟩ T Tp:=by
 refine⟨(fun _ h=>by cases h),?_⟩
 intro N cx μ a w hr hN K Q' hK hKp
 obtain⟨h1,h2⟩:=lL hx
 have hcl:=hr.ev hf
 generalize hav:a.eval x=vf at hcl
 cases hcl with
 | aC h=>cases h
 | aP _ _ us hlu hrc=>
  have hcall:=qq (vs:=xs.toList.map a.eval++us) hr hv hl cV (by simp[h1,hlu]) (fun j g v hg hv=>by
   rw[ba] at hg hv
   rw[aN,←h1] at hv
   split at hg
   ·rename_i hj
    rw[if_pos hj] at hv
    obtain⟨x,hxj,he⟩:=h2 j g hg
    rw[ar,hxj] at hv
    cases hv
    exact hr.ev he
   ·rename_i hj
    rw[if_neg hj] at hv
    exact hrc _ g v hg hv) hcon
  unfold Oper.wp
  have:=sX (P:=P) (w:=w) (d:=d) (ty:=ty) (pos:=pos) (after:=after) (guard:=guard) (ts:=ts) hb hc hav
  rw[this]
  refine hcall.mono ?_
  rintro e w' (⟨v,r,st',μ',rfl,hq,hC,hrv⟩ | ⟨ch,st',μ',rfl,hq,hC⟩)
  ·obtain⟨bk,s2,r',hb,hren,hT⟩:=hres r st' hq
   obtain⟨q1,q2,q3,_⟩:=my hr hl (ik cV) hC hb
   exact hK _ _ _ w' (q1.put (hN d rfl) (q2 r r' v hrv hren)) hT (q3 W (rI hW))
  ·obtain⟨bk,s2,hb,hT⟩:=hresP ch st' hq
   obtain⟨q1,_,_,_⟩:=my hr hl (ik cV) hC hb
   exact hKp ch _ _ w' q1 hT
end
end Go.AM
/-
 AM:a string's bytes appended;pointers to a block against themselves.
-/
namespace Go.AM
section
variable {P:Program}{N:Nat}{cx:Cx}{s:St}
variable {ty:TypeId}{pos:String}{after:Array Edge}{guard:Option (Nat×Bool)}{W:List Nat}{d:Nat}
def ux (b:ByteArray):List G:=b.data.toList.map fun x=>.val (.int .u8 x.toNat)
theorem AP (b:ByteArray):(ux b).length=b.size:=by rw[ux,aN,Array.length_toList];rfl
theorem Ph {b:ByteArray}{j:Nat}{g:G}(h:(ux b)[j]?=some g):∃u,(Lib.strCells b)[j]?=some u∧g=.val u:=by
 unfold ux at h
 rw[ar] at h
 obtain⟨x,hx,rfl⟩:=ay.1 h
 exact⟨_,by rw[Lib.strCells,ar,hx];rfl,rfl⟩
theorem EF.OM {t u e:TypeId}{x y:Operand}{h n:Nat}{k:ao}{b:ByteArray}(hx:ev s x=some (.aK h 1 0 n)) (hy:ev s y=some (.val (.string b))) (hk:az s.st h=some k)
  (hp:k.pure=true) (hety:k.bw=e) (hksz:k.sz=1) (hfull:k.cells.length=n) (ht:P.underlying t=some (.slice e)) (hu:P.underlying u=some .string)
  (hi:(P.info? e).map (fun i=>(i.zero,i.size,i.bytes))=some (some (.int .u8 0),1,1))
  (hbound:n+b.size≤140737488355328) (hW:W.contains h=true) (hlp:k.lp=none:=by rfl) (hpn:pinned h=false:=by rfl) (hdf:po h s.df=true:=by rfl):
  bJ P W s ⟨some d,.call ⟨.builtin .append,#[x,y],#[t,u]⟩,ty,pos,after,guard⟩
   (·={fr:=(d,.aK h 1 0 (n+b.size))::mM h s.fr,st:=(h,{k with cells:=k.cells++ux b})::ft h s.st,df:=s.df}):=by
 subst hety
 refine⟨(fun _ h=>by cases h),?_⟩
 intro N cx μ a w hr hN K Q hK
 obtain⟨i,hi1,hi2⟩:=ay.1 hi
 simp only[Prod.mk.injEq] at hi2
 obtain⟨hz,hs1,hb1⟩:=hi2
 have tF:n+b.size≤maxLen:=by unfold maxLen;omega
 have hv:(a.eval x=.slice none 0 0∧n=0∧μ h=none∧k.cells=[])∨
   ∃b cap m0 cs,a.eval x=.slice (some ⟨b,0,none⟩) n cap∧n≤cap∧μ h=some (b,m0)∧cap*1=m0.1∧w.heap[b]?=some (.cells cs k.bw (0,0))∧cs.size=m0.1∧m0.1≤maxLen*1∧
    ∀(j:Nat) (g:G),k.cells[j]?=some g→∃v,cs[j]?=some v∧bZ (cx.O s.st μ) cx.base w μ k g v:=by
  have hv:=hr.ev hx
  generalize a.eval x=v at hv
  cases hv with
  | aC h=>cases h
  | eD _ _ hm=>
   have:=hr.st.dB h k hk
   rw[hm] at this
   exact .inl ⟨rfl,rfl,hm,this.1⟩
  | aK _ _ _ _ b m0 cap hm hn hc=>
   obtain⟨cs,h1,h2,h3,h4,h5,h6⟩:=hr.own hk hm hlp
   exact .inr ⟨b,cap,m0,cs,rfl,hn,hm,by omega,h1,h2,by rw[←hksz];exact h5 (by omega),h6⟩
  | dO _ _ off0 b _ hm hpos=>exact absurd hpos (nQ _)
 have hyv:a.eval y=.string b:=hr.val hy
 have hown:∃v xs,a.eval x=v∧w.ownsRow 0 k.bw 1 v n xs∧(∀(j:Nat) (g:G),k.cells[j]?=some g→∃v,xs[j]?=some v∧bZ (cx.O s.st μ) cx.base w μ k g v):=by
  rcases hv with ⟨h1,h2,h3,h4⟩ | ⟨b,cap,m0,cs,h1,h2,h3,h4,h6,h7,h8,h9⟩
  ·subst h2
   exact⟨_,[],h1,World.ownsRow_nil w 0 k.bw 1,fun j g hg=>by rw[h4] at hg;simp at hg⟩
  ·refine⟨_,cs.toList.take (n*1),h1,⟨?_,.inr ⟨b,cap,cs,rfl,cv _,h6,h2,?_,by rw[h7,h4],rfl⟩⟩,fun j g hg=>?_⟩
   ·rw[bo,Array.length_toList,h7,←h4]
    exact dL (ca _ h2)
   ·omega
   ·obtain⟨v,hv,hrv⟩:=h9 j g hg
    have hj:j<n*1:=by have:=(aw.1 hg).1;omega
    exact⟨v,by rw[aV,if_pos hj,bn];exact hv,hrv⟩
 obtain⟨v,xs,h1,h2,h5⟩:=hown
 have law:=Lib.run_append_own_string (P:=P) w 0 t u ty k.bw i ht hu hi1 hz hs1 hb1 v n xs h2 b tF hbound (cv _)
 rw[←h1,←hyv] at law
 obtain⟨v',w',hrun,ho,hgrow,hnil⟩:=law
 have hexec:(execOp a.eval ⟨some d,.call ⟨.builtin .append,#[x,y],#[t,u]⟩,ty,pos,after,guard⟩).run P w=.ok (.value v') w':=by
  simp only[execOp,resolve,invoke,builtin,Sem.run_bind,Sem.run_pure,Result.andThen_ok,oV,aB,eJ,hrun]
 have hoth:∀b,b<w.heap.size→(∀m,μ h≠some (b,m))→w'.heap[b]?=w.heap[b]?:=by
  intro b hb' hn
  refine hgrow.block b hb' fun e=>?_
  rcases hv with ⟨q1,q2,q3,q4⟩ | ⟨b',cap,m0,cs,q1,q2,q3,q4,q6,q7,q8,q9⟩
  ·rw[q1] at e;cases e
  ·rw[q1] at e
   cases e
   exact hn m0 q3
 unfold Oper.wp
 rw[hexec]
 by_cases hnone:v'=.slice none 0 0
 ·obtain⟨q1,q2⟩:=hnil.1 hnone
  obtain⟨r2,r3⟩:n=0∧μ h=none:=by
   rcases hv with ⟨r1,r2,r3,r4⟩ | ⟨b',cap,m0,cs,r1,_⟩
   ·exact⟨r2,r3⟩
   ·rw[q1] at r1;cases r1
  subst hnone
  subst r2
  have hbn:ux b=[]:=aT (by rw[AP];exact q2)
  have hk2:=uA (h:=h) hk hp
  have hr2:=(hr.kill h).Ra (k':={k with cells:=k.cells++ux b}) hk2 rfl rfl id (fun h=>h) rfl (by simp[hbn]) hlp hlp
  have hsame:∀b,b<w.heap.size→w'.heap[b]?=w.heap[b]?:=fun b hb=>hoth b hb fun m hm=>by rw[r3] at hm;cases hm
  have hr3:=hr2.kept hgrow.size hsame hgrow.os hgrow.tape hgrow.output
  refine hK μ _ _ w' (hr3.put (d:=d) (g:=.aK h 1 0 (0+b.size)) (hN d rfl) ?_) rfl ?_
  ·rw[q2];exact .eD _ _ r3
  ·refine⟨hgrow.size,fun b hb _=>hsame b hb,fun x k1 c1 m1 b1 hw h1 h2 hi=>?_⟩
   by_cases e:x=h
   ·subst e;exact .inl ⟨x,k,c1,m1,hw,hk,h2,hi⟩
   ·have h1':az (ft h s.st) x=some k1:=by rw[←aI _ _ e];exact h1
    obtain⟨k0,h5,_⟩:=dh h1'
    exact .inl ⟨x,k0,c1,m1,hw,h5,h2,hi⟩
 obtain⟨ho1,ho2⟩:=ho
 rcases ho2 with ⟨ho2,_⟩ | ⟨g,cap,cur,rfl,_,hcur,hnc,hcm,hcs,htake⟩
 ·exact absurd ho2 hnone
 have hg:(∃m0,μ h=some (g,m0))∨w.heap.size≤g:=by
  by_cases hlt:g<w.heap.size
  ·refine .inl ?_
   have hnl:((n+b.size:Nat):Int)≤9223372036854775807:=by omega
   rcases hv with ⟨q1,q2,q3,q4⟩ | ⟨b',cap',m0,cs,q1,q2,q3,q4,q6,q7,q8,q9⟩
   ·subst q2
    simp only[cr] at hrun
    by_cases hb0:b.size=0
    ·have:=hnil.2 ⟨q1,hb0⟩;cases this
    ·have hr2:=run_append_nil_string (P:=P) w t u ty k.bw i (.int .u8 0) ht hu hi1 hz b (by omega) (by omega) (by rw[hb1];omega)
     rw[q1,hyv,hr2] at hrun
     injection hrun with r1 r2
     cases r1
     exact absurd hlt (nQ _)
   ·by_cases hroom:n+b.size≤cap'
    ·have hr2:=Lib.run_append_room_string (P:=P) w t u ty k.bw i ht hu hi1 hs1 b' n cap' cs q6 b hroom (by omega)
     rw[q1,hyv,hr2] at hrun
     injection hrun with r1 r2
     cases r1
     exact⟨m0,q3⟩
    ·rcases h2.2 with ⟨q10,q11⟩ | ⟨g',cap2,cur2,q10,_,q12,q13,q14,q15,q16⟩
     ·rw[←h1,q1] at q10;cases q10
     have holds:=h2.cells (g:=b') (by rw[←h1,q1];rfl)
     have hr2:=Lib.run_append_grow_string (P:=P) w t u ty k.bw i (.int .u8 0) ht hu hi1 hz ⟨b',0,none⟩ n cap' xs (by rw[hs1];exact h2.1) holds b (by omega)
      hnl (by rw[hb1];exact growslice_fits (by omega) (by omega))
     rw[q1,hyv,hr2] at hrun
     injection hrun with r1 r2
     cases r1
     exact absurd hlt (nQ _)
  ·exact .inr (by omega)
 have hxl:=h2.1
 have jJ:∀(j:Nat) (v:Value),(xs++Lib.strCells b)[j]?=some v→cur[j]?=some v:=by
  intro j v hv
  rw[←htake,aV] at hv
  split at hv
  ·rw[bn] at hv;exact hv
  ·cases hv
 obtain⟨hr2,hst⟩:=hr.Nk (k':={k with cells:=k.cells++ux b}) hk hg hcur rfl hgrow.size hoth hgrow.os hgrow.tape hgrow.output id hp (by dsimp only;rw[ak,hfull,AP,hcs];omega)
  (fun _=>by dsimp only;rw[hcs,hksz];exact ca _ hcm)
  (by
   intro j g' hg'
   dsimp only at hg'
   rw[ba] at hg'
   split at hg'
   ·obtain⟨v,hv,hrv⟩:=h5 j g' hg'
    refine⟨v,jJ j v ?_,?_⟩
    ·rw[cd (by omega)];exact hv
    ·unfold bZ at hrv⊢
     dsimp only
     rw[hp] at hrv⊢
     exact hrv
   ·rename_i hj
    obtain⟨v,hv,rfl⟩:=Ph hg'
    refine⟨v,jJ j v ?_,?_⟩
    ·rw[dj (by omega),hxl,kc,←hfull];exact hv
    ·unfold bZ
     dsimp only
     rw[hp]
     exact .val _) W hW hlp hpn hdf
 refine hK _ _ _ w' (hr2.put (d:=d) (g:=.aK h 1 0 (n+b.size)) (hN d rfl) ?_) rfl hst
 exact .aK _ _ _ _ _ _ cap (cp _ _ _) hnc (by rw[hcs];omega)
def strOf (l:List Int):ByteArray:=⟨(l.map fun n=>UInt8.ofNat n.toNat).toArray⟩
def aH (b:ByteArray):List Int:=b.data.toList.map fun x=>(x.toNat:Int)
theorem cu (b:ByteArray):(aH b).length=b.size:=by rw[aH,aN,Array.length_toList];rfl
theorem E7:∀(l:List Int) (acc:ByteArray),List.foldl (fun b (a:Int)=>b.push (UInt8.ofNat a.toNat)) acc l=⟨acc.data++(l.map fun n=>UInt8.ofNat n.toNat).toArray⟩
 | [],acc=>by simp
 | x::r,acc=>by
  rw[List.foldl_cons,E7 r]
  apply ByteArray.ext
  simp[ByteArray.push]
theorem YL.QG {dst:Option Tmp}{t t' e:TypeId}{x:Operand}{h n:Nat}{k:ao}{l:List Int}(hx:ev s x=some (.aK h 1 0 n)) (hk:az s.st h=some k) (hlp:k.lp=none) (hc:k.cells=l.map fun a=>.val (.int .u8 a)) (hn:l.length=n)
  (ht:P.underlying t=some (.slice e)) (he:P.underlying e=some (.int .u8)) (ht':P.underlying t'=some .string) (hW:W.contains h=false):eQ P W s ⟨dst,.convert t t' x,ty,pos,after,guard⟩ (.val (.string (strOf l))):=fun N cx μ a w hr=>by
 refine⟨_,.aC (.val _),fun w' hs' hw'=>?_⟩
 have hv:=hr.ev hx
 generalize e1:a.eval x=v at hv
 cases hv with
 | aC h=>cases h
 | eD _ _ hm=>
  obtain rfl:l=[]:=aT hn
  simp[execOp,e1,convert,run_underlying ht,run_underlying ht',run_underlying he,Conv.bytesToString,strOf]
  rfl
 | dO _ _ off0 b _ hm hpos=>exact absurd hpos (nQ _)
 | aK _ _ _ _ b m cap hm hcap hcc=>
  obtain⟨cs,h1,h2,h3,_,_,h5⟩:=hr.own hk hm hlp
  have hb:=hr.agree hk hm hW ⟨hs',hw'⟩ (lt_of_heap h1)
  rw[h1] at hb
  have hlen:n≤cs.size:=by rw[h2];omega
  have hl2:=pV (P:=P) (off:=0) hb n (by omega)
  have hcs:((cs.toList.drop 0).take n).toArray=(l.map fun a=>Value.int .u8 a).toArray:=by
   congr 1
   refine lQ fun j=>?_
   rw[iN,aV]
   by_cases hj:j<n
   ·rw[if_pos hj,bn]
    have hjl:j<l.length:=by omega
    obtain⟨v,hv,hrv⟩:=h5 j (.val (.int .u8 l[j])) (by rw[hc,ar,av hjl];rfl)
    rw[hv,ar,av hjl]
    unfold bZ at hrv
    split at hrv <;> cases hrv
    ·rfl
    ·rename_i hi;cases hi;rfl
   ·rw[if_neg hj,ly (by rw[aN];omega)]
  rw[hcs] at hl2
  have hconv:(convert t t' (.slice (some ⟨b,0,none⟩) n cap)).run P w'=.ok (.string (strOf l)) w':=by
   simp only[convert,Sem.run_bind,run_underlying ht,run_underlying ht',run_underlying he,Result.andThen_ok,Conv.bytesToString,hl2]
   simp[strOf,E7]
  simp only[execOp,e1,Sem.run_bind,hconv,Result.andThen_ok,Sem.run_pure]
theorem K7 {fits:TypeId→Bool}:∀{d:Nat}{e:TypeId}{c c' off n:Nat},rowAt P fits d e c off n=true→c≤c'→rowAt P fits d e c' off n=true
 | 0,_,_,_,_,_,h,_=>by cases h
 | d+1,e,c,c',off,n,h,hc=>by
  simp only[rowAt] at h⊢
  split at h
  ·cases h
  ·rename_i hs
   rw[if_neg hs]
   simp only[bD,ag,decide_eq_true_eq] at h⊢
   rcases h with ⟨⟨h1,h2⟩,h3⟩ | ⟨h1,h2⟩
   ·exact .inl ⟨⟨h1,by omega⟩,h3⟩
   ·exact .inr ⟨by omega,h2⟩
theorem AU:∀{d:Nat}{e u:TypeId}{c c' off n:Nat},liesAt P d e c off u n=true→c≤c'→liesAt P d e c' off u n=true
 | 0,_,_,_,_,_,_,h,_=>by cases h
 | d+1,e,u,c,c',off,n,h,hc=>by
  simp only[liesAt,bD] at h⊢
  rcases h with h | h
  ·exact .inl (K7 h hc)
  ·refine .inr ?_
   split at h
   ·exact AU h hc
   ·cases h
variable {dst:Option Tmp}
theorem PY.TN {t t' e:TypeId}{x y:Operand}{h off:Nat}{j:TypeInfo}(hx:ev s x=some (.loc h off)) (hy:ev s y=some (.loc h off)) (ht:P.underlying t=some (.pointer e)) (hte:P.info? e=some j):
  PY P s ⟨dst,.binOp .neq t x y t',ty,pos,after,guard⟩ (.val (.bool false)):=fun N cx μ a w hr=>by
 obtain⟨b,m,e1,hm⟩:=hr.loc hx
 obtain⟨b',m',e2,hm'⟩:=hr.loc hy
 rw[hm] at hm'
 cases hm'
 refine⟨_,.aC (.val _),fun w'=>?_⟩
 have h:=Lib.run_neq_ptr_same (P:=P) w' ⟨b,off,none⟩ ht hte
 have hg:(eqGuard .neq t x y (.pointer (some ⟨b,off,none⟩)) (.pointer (some ⟨b,off,none⟩))).run P w'=.ok () w':=by simp[eqGuard]
 simp only[execOp,e1,e2,Sem.run_bind,hg,Result.andThen_ok,h,Sem.run_pure]
theorem YL.Pc {src dt t:TypeId}{x:Operand}{h off:Nat}{k:ao}{j:TypeInfo}(hx:ev s x=some (.loc h off)) (hk:az s.st h=some k) (hlp:k.lp=none) (hs:P.underlying src=some (.pointer t)) (hd:P.underlying dt=some .unsafePointer)
  (ht:P.info? t=some j) (hj:j.size≠0) (hoff:off<k.cells.length) (hW:W.contains h=false):eQ P W s ⟨dst,.convert src dt x,ty,pos,after,guard⟩ (.loc h off):=fun N cx μ a w hr=>by
 obtain⟨b,m,e1,hm⟩:=hr.loc hx
 obtain⟨cs,h1,h2,h3,_⟩:=hr.own hk hm hlp
 refine⟨_,.loc h off b m hm,fun w' hs' hw'=>?_⟩
 have hb:=hr.agree hk hm hW ⟨hs',hw'⟩ (lt_of_heap h1)
 rw[h1] at hb
 have hsh:w'.shape? b=some (k.bw,cs.size):=by simp[World.shape?,hb]
 have:=Lib.run_to_unsafe (P:=P) w' ⟨b,off,none⟩ hs hd ht hj hsh (by show off<cs.size;omega)
 simp only[execOp,e1,Sem.run_bind,this,Result.andThen_ok,Sem.run_pure]
theorem YL.LX {src dt u:TypeId}{x:Operand}{h off:Nat}{k:ao}{j:TypeInfo}(hx:ev s x=some (.loc h off)) (hk:az s.st h=some k) (hlp:k.lp=none) (hs:P.underlying src=some .unsafePointer) (hd:P.underlying dt=some (.pointer u))
  (hu:P.info? u=some j) (hl:liesAt P P.depth k.bw 1 off u 1=true) (hc0:P.cellsOf k.bw≠0) (hc:P.cellsOf k.bw≤k.cells.length) (hW:W.contains h=false):eQ P W s ⟨dst,.convert src dt x,ty,pos,after,guard⟩ (.loc h off):=fun N cx μ a w hr=>by
 obtain⟨b,m,e1,hm⟩:=hr.loc hx
 obtain⟨cs,h1,h2,h3,_⟩:=hr.own hk hm hlp
 refine⟨_,.loc h off b m hm,fun w' hs' hw'=>?_⟩
 have hb:=hr.agree hk hm hW ⟨hs',hw'⟩ (lt_of_heap h1)
 rw[h1] at hb
 have hsh:w'.shape? b=some (k.bw,cs.size):=by simp[World.shape?,hb]
 have:=Lib.run_from_unsafe (P:=P) w' ⟨b,off,none⟩ hs hd hu hsh (AU hl (Nat.div_pos (by omega) (by omega)))
 simp only[execOp,e1,Sem.run_bind,this,Result.andThen_ok,Sem.run_pure]
theorem PY.same {f:FuncId}{x:Operand}{ts:Array TypeId}{g:G}(hx:ev s x=some g) (hc:∀v w,(callFunc f #[v]).run P w=.ok (.value v) w):PY P s ⟨dst,.call ⟨.value (.func f),#[x],ts⟩,ty,pos,after,guard⟩ g:=fun N cx μ a w hr=>by
 refine⟨_,hr.ev hx,fun w'=>?_⟩
 simp[execOp,resolve,invoke,Deferred.ofValue,Act.eval,hc]
end
end Go.AM
