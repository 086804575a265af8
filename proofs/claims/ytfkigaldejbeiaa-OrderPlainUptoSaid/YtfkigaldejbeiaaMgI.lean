/-
  AM, fourth part: maps.
-/
import Derived.Test.YtfkigaldejbeiaaMgF
set_option linter.unusedSectionVars false
set_option linter.unusedSimpArgs false
set_option linter.unusedVariables false
/-
 AM:maps:keys that are structs of two numbers.
-/
namespace Go.AM
section
variable {P:Program}
def hP (q:IntKind) (k:Int×Int):Value:=.agg #[.int q k.1,.int q k.2]
structure zS (P:Program) (kt:TypeId) (q:IntKind):Prop where
 ex : ∃ f0 f1 : Field, P.underlying kt = some (.struct #[f0, f1]) ∧ f0.name ≠ "_" ∧ f1.name ≠ "_" ∧ f0.offset = 0 ∧ f1.offset = 1 ∧ P.underlying f0.type = some (.int q) ∧ P.underlying f1.type = some (.int q)
 no:P.stoodInHeld kt=false
theorem I6 {kt:TypeId}{q:IntKind}(K:zS P kt q) (k k':Int×Int) (d:Nat) (w:World):(Op.equalIn (d+2) kt (hP q k) (hP q k')).run P w=.ok (decide (k=k')) w:=by
 obtain⟨f0,f1,h1,h2,h3,h4,h5,h6,h7⟩:=K.ex
 have hno:=K.no
 have p0:∀k:Int×Int,(part f0.type #[.int q k.1,.int q k.2] 0).run P w=.ok (.int q k.1) w:=fun k=>ld (tG h6) rfl w
 have p1:∀k:Int×Int,(part f1.type #[.int q k.1,.int q k.2] 1).run P w=.ok (.int q k.2) w:=fun k=>ld (tG h7) rfl w
 rw[Op.equalIn]
 unfold hP
 simp only[Sem.run_bind,run_underlying h1,Result.andThen_ok]
 have hp:Sem.run P (Sem.program Sem.pure) w=.ok P w:=rfl
 rw[show program=Sem.program Sem.pure from rfl,hp]
 simp only[Result.andThen_ok,hno,Bool.false_eq_true,if_false]
 rw[←Array.forIn_toList]
 simp only[List.forIn_cons,List.forIn_nil,ne_eq,h2,h3,not_false_eq_true,if_true,h4,h5,Sem.run_bind,p0,p1,Result.andThen_ok,rS h6,rS h7]
 by_cases e1:k.1=k'.1
 ·by_cases e2:k.2=k'.2
  ·simp[e1,e2,Prod.ext_iff,p1 k',rS h7]
  ·have p2:=p1 k
   rw[e1] at p2
   simp[e1,e2,Prod.ext_iff,p2,p1 k',rS h7]
 ·simp[e1,Prod.ext_iff]
theorem KK {kt:TypeId}{q:IntKind}(K:zS P kt q) (k k':Int×Int) (w:World):(Op.equal kt (hP q k) (hP q k')).run P w=.ok (decide (k=k')) w:=I6 K k k' 9998 w
theorem w5 {kt:TypeId}{q:IntKind}(K:zS P kt q) (em:Bool) (k:Int×Int) (w:World):(Instr.checkKey em 10000 kt (hP q k)).run P w=.ok () w:=by
 obtain⟨f0,f1,h1,h2,h3,h4,h5,h6,h7⟩:=K.ex
 have p0:=ld (P:=P) (tG h6) (cs:=#[.int q k.1,.int q k.2]) (i:=0) (v:=.int q k.1) rfl w
 have p1:=ld (P:=P) (tG h7) (cs:=#[.int q k.1,.int q k.2]) (i:=1) (v:=.int q k.2) rfl w
 have c0:∀d a,(Instr.checkKey em (d+1) f0.type (.int q a)).run P w=.ok () w:=fun d a=>by simp[Instr.checkKey,run_underlying h6]
 have c1:∀d a,(Instr.checkKey em (d+1) f1.type (.int q a)).run P w=.ok () w:=fun d a=>by simp[Instr.checkKey,run_underlying h7]
 have key:∀d,(Instr.checkKey em (d+2) kt (hP q k)).run P w=.ok () w:=fun d=>by
  rw[Instr.checkKey]
  unfold hP
  simp only[Sem.run_bind,run_underlying h1,Result.andThen_ok]
  rw[←Array.forIn_toList]
  simp only[List.forIn_cons,List.forIn_nil,ne_eq,h2,h3,not_false_eq_true,if_true,h4,h5,Sem.run_bind,p0,p1,Result.andThen_ok,c0,c1,Sem.run_pure]
 exact key 9998
def yq (q:IntKind) (k:Int×Int):List ((Int×Int)×Value)→Nat→Option (Nat×Value)
 | [],_=>none
 | e::r,i=>if k=e.1 then some (i,e.2) else yq q k r (i+1)
theorem EM {kt:TypeId}{q:IntKind}(K:zS P kt q) (k:Int×Int) (w:World):∀(es:List MapEntry) (l:List ((Int×Int)×Value)) (i:Nat),es.map (fun e=>(e.key,e.val))=l.map (fun e=>(hP q e.1,e.2))→
  (Instr.findAsking kt (hP q k) es i).run P w=.ok (yq q k l i) w
 | [],[],i,h=>by simp[Instr.findAsking,yq]
 | [],_::_,i,h=>by simp at h
 | _::_,[],i,h=>by simp at h
 | e::es,x::l,i,h=>by
  simp only[aJ,List.cons.injEq,ja] at h
  obtain⟨⟨h1,h2⟩,h3⟩:=h
  have ih:=EM K k w es l (i+1) h3
  simp only[Instr.findAsking,h1,Sem.run_bind,KK K,Result.andThen_ok,yq,decide_eq_true_eq]
  by_cases he:k=x.1
  ·simp[he,h2]
  ·simp[he,ih]
theorem yL {kt:TypeId}{q:IntKind}(K:zS P kt q) (k:Int×Int) (w:World) (es:List MapEntry) (l:List ((Int×Int)×Value)) (h:es.map (fun e=>(e.key,e.val))=l.map (fun e=>(hP q e.1,e.2))):
  (Instr.findKey kt (hP q k) es).run P w=.ok (yq q k l 0) w:=by
 obtain⟨f0,f1,h1,_⟩:=K.ex
 have:=EM K k w es l 0 h
 unfold Instr.findKey
 simp only[Sem.run_bind,run_underlying h1,Result.andThen_ok]
 cases es with
 | nil=>
  cases l with
  | nil=>simp[Instr.findNow,yq]
  | cons=>simp at h
 | cons e es=>
  have:Instr.findNow (.struct #[f0,f1]) (hP q k) (e::es) 0=none:=by
   simp[Instr.findNow,Instr.sameNow,hP]
  rw[this]
  assumption
end
end Go.AM
/-
 AM:maps from two numbers to pointers:the structs that they lead to are of slices;all of it belongs to the map.
-/
namespace Go.AM
structure ME where
 key:Int×Int
 t:Nat
 f:List (Nat×List G)
def pf (O:Nat→Prop) (w:World) (kty:TypeId) (m:Mm) (p:Nat×List G) (u:Value):Prop:=
 (p.2=[]∧p.1=iK∧u=.slice none 0 0)∨(p.2≠[]∧∃c k,m.2[p.1]?=some (some (c,k))∧rN O w kty 1 p.2.length p.2 u (some (c,k)))
def Ll:List (Nat×List G)→Nat→Option Nat
 | [],_=>none
 | (x,gs)::_,0=>match gs with | []=>none | _::_=>some x
 | _::r,j+1=>Ll r j
def p6 (e:ME):Nat→Option Nat
 | 0=>some e.t
 | j+1=>Ll e.f j
theorem u0:∀{f:List (Nat×List G)}{j x:Nat},Ll f j=some x→∃gs,f[j]?=some (x,gs)∧gs≠[]
 | [],j,x,h=>by cases h
 | (y,gs)::r,0,x,h=>by
  cases gs with
  | nil=>cases h
  | cons a b=>cases h;exact⟨_,rfl,by simp⟩
 | _::r,j+1,x,h=>u0 (f:=r) h
theorem wo:∀{f:List (Nat×List G)}{j x:Nat}{gs:List G},f[j]?=some (x,gs)→gs≠[]→Ll f j=some x
 | [],j,x,gs,h,_=>by simp at h
 | (y,gs')::r,0,x,gs,h,hn=>by
  simp at h
  obtain⟨rfl,rfl⟩:=h
  cases gs' with
  | nil=>exact absurd rfl hn
  | cons a b=>rfl
 | _::r,j+1,x,gs,h,hn=>wo (f:=r) (by simpa using h) hn
def lM (m:Mm) (t:Nat):Value:=match m.2[t]? with
 | some (some (c,_))=>.pointer (some ⟨c,0,none⟩)
 | _=>.pointer none
structure Aw (q:IntKind) (kty tty:TypeId) (n:Nat) (es:List ME) (pd:Option (Option (Nat×Nat)×Nat×List G)) (O:Nat→Prop) (w:World) (b:Nat) (m:Mm):Prop where
 len:m.2.length=n
 tW:n≤maxLen
 vR:m.1=0
 heap:∃ms clock,w.heap[b]?=some (.map ms clock)∧ms.toList.map (fun e=>(e.key,e.val))=es.map fun e=>(hP q e.key,lM m e.t)
 root:∀(i c k:Nat),m.2[i]?=some (some (c,k))→c≠b∧c<w.heap.size
 ot:∀e∈es,∃c cs,m.2[e.t]?=some (some (c,cs.size))∧w.heap[c]?=some (.cells cs tty (0,0))∧e.f.length≤cs.size∧∀(j:Nat) (p:Nat×List G),e.f[j]?=some p→∃u,cs[j]?=some u∧pf O w kty m p u
 inj:∀(i i':Nat) (e e':ME) (j j' x x' c k k':Nat),es[i]?=some e→es[i']?=some e'→p6 e j=some x→p6 e' j'=some x'→m.2[x]?=some (some (c,k))→m.2[x']?=some (some (c,k'))→i=i'∧j=j'
 yk:∀(sr:Option (Nat×Nat)) (x:Nat) (gs:List G),pd=some (sr,x,gs)→gs≠[]∧(∃c k cs,m.2[x]?=some (some (c,k))∧w.heap[c]?=some (.cells cs kty (0,0))∧cs.size=k∧k≤maxLen∧gs.length≤k∧∀(i:Nat) (g:G),gs[i]?=some g→∃v,cs[i]?=some v∧bG O w g v)∧
  ∀(e:ME) (j' x' c k k':Nat),e∈es→p6 e j'=some x'→m.2[x]?=some (some (c,k))→m.2[x']?=some (some (c,k'))→∃j,sr=some (e.t,j)∧j'=j+1
theorem pf.mono {O O':Nat→Prop}{w w':World}{kty:TypeId}{m:Mm}{p:Nat×List G}{u:Value}(h:pf O w kty m p u) (hk:Kept O w w') (hO:∀x,x<w.heap.size→¬O x→¬O' x)
  (hc:∀c k,m.2[p.1]?=some (some (c,k))→w'.heap[c]?=w.heap[c]?):pf O' w' kty m p u:=
 h.imp id fun ⟨h0,c,k,h1,h2⟩=>⟨h0,c,k,h1,h2.mono hk hO fun c' k' e=>by cases e;exact hc c k h1⟩
theorem pf.shut {O Z:Nat→Prop}{w w':World}{kty:TypeId}{m:Mm}{p:Nat×List G}{u:Value}(h:pf O w kty m p u) (hs:gR Z w w'):pf O w' kty m p u:=
 h.imp id fun ⟨h0,c,k,h1,h2⟩=>⟨h0,c,k,h1,h2.shut hs⟩
def yP (i:Nat):List (Nat×List G)→Option (List G)
 | []=>none
 | (x,gs)::r=>match gs with
  | []=>yP i r
  | g::gs'=>bif Nat.beq x i then some (g::gs') else yP i r
def gD (i:Nat):List ME→Option (List G)
 | []=>none
 | e::r=>match yP i e.f with
  | some gs=>some gs
  | none=>gD i r
theorem yO {i:Nat}{gs:List G}:∀{f:List (Nat×List G)},yP i f=some gs→gs≠[]∧∃j:Nat,f[j]?=some (i,gs)
 | [],h=>by cases h
 | (x,gs0)::r,h=>by
  simp only[yP] at h
  cases gs0 with
  | nil=>obtain⟨h1,j,h2⟩:=yO (f:=r) h;exact⟨h1,j+1,h2⟩
  | cons g gs'=>
   dsimp only at h
   cases hb:Nat.beq x i with
   | true=>
    rw[hb] at h
    cases h
    rw[aa hb]
    exact⟨by simp,0,rfl⟩
   | false=>rw[hb] at h;obtain⟨h1,j,h2⟩:=yO (f:=r) h;exact⟨h1,j+1,h2⟩
theorem yM {i:Nat}{gs:List G}:∀{es:List ME},gD i es=some gs→gs≠[]∧∃e∈es,∃j:Nat,e.f[j]?=some (i,gs)
 | [],h=>by cases h
 | e::r,h=>by
  simp only[gD] at h
  cases hf:yP i e.f with
  | some gs'=>rw[hf] at h;cases h;obtain⟨h1,j,h2⟩:=yO hf;exact⟨h1,e,au,j,h2⟩
  | none=>rw[hf] at h;obtain⟨h1,e',h2,h3⟩:=yM (es:=r) h;exact⟨h1,e',ao _ h2,h3⟩
def fI (q:IntKind) (kty tty:TypeId) (n:Nat) (es:List ME) (pd:Option (Option (Nat×Nat)×Nat×List G)):Dp where
 φ:=Aw q kty tty n es pd
 gQ:=False
 row:=fun i=>gD i es
 GZ:=fun h=>(yM h).1
 KN:=by
  intro O w b m i gs h hrow
  obtain⟨h0,e,he,j,hj⟩:=yM hrow
  obtain⟨c,cs,h1,h2,h3,h4⟩:=h.ot e he
  obtain⟨u,h5,h6⟩:=h4 j _ hj
  rcases h6 with ⟨h6,_⟩ | ⟨_,c',k',h7,cap,cs',_,_,_,h8,_,_,_,h9⟩
  ·exact absurd h6 h0
  ·exact⟨c',k',cs',kty,h7,h8,h9⟩
 mono:=by
  intro O O' w w' b m h hk hO hb
  refine {len:=h.len,tW:=h.tW,vR:=h.vR,heap:=?_,root:=fun i c k e=>⟨(h.root i c k e).1,bW (h.root i c k e).2 hk.size⟩,ot:=fun e he=>?_,inj:=h.inj,yk:=fun sr x gs e=>?_}
  ·obtain⟨ms,cl,h1,h2⟩:=h.heap
   exact⟨ms,cl,(hb b (.self _ _)).trans h1,h2⟩
  ·obtain⟨c,cs,h1,h2,h3,h4⟩:=h.ot e he
   refine⟨c,cs,h1,(hb c (.lq h1)).trans h2,h3,fun j p hp=>?_⟩
   obtain⟨u,h5,h6⟩:=h4 j p hp
   exact⟨u,h5,h6.mono hk hO fun c k e=>hb c (.lq e)⟩
  ·obtain⟨h0,⟨c,k,cs,h1,h2,h3,h4,h5,h6⟩,h7⟩:=h.yk sr x gs e
   exact⟨h0,⟨c,k,cs,h1,(hb c (.lq h1)).trans h2,h3,h4,h5,fun i g hg=>let ⟨v,hv,hr⟩:=h6 i g hg;⟨v,hv,hr.mono hk hO⟩⟩,h7⟩
 shut:=by
  intro O Z w w' b m h hs hz
  have hb:∀x,In x b m→w'.heap[x]?=w.heap[x]?:=fun x hx=>by
   rcases hs.block x with h | ⟨h,_⟩
   ·exact h
   ·exact absurd h (hz x hx)
  refine {len:=h.len,tW:=h.tW,vR:=h.vR,heap:=?_,root:=fun i c k e=>⟨(h.root i c k e).1,by rw[hs.size];exact(h.root i c k e).2⟩,ot:=fun e he=>?_,inj:=h.inj,yk:=fun sr x gs e=>?_}
  ·obtain⟨ms,cl,h1,h2⟩:=h.heap
   exact⟨ms,cl,(hb b (.self _ _)).trans h1,h2⟩
  ·obtain⟨c,cs,h1,h2,h3,h4⟩:=h.ot e he
   refine⟨c,cs,h1,(hb c (.lq h1)).trans h2,h3,fun j p hp=>?_⟩
   obtain⟨u,h5,h6⟩:=h4 j p hp
   exact⟨u,h5,h6.shut hs⟩
  ·obtain⟨h0,⟨c,k,cs,h1,h2,h3,h4,h5,h6⟩,h7⟩:=h.yk sr x gs e
   exact⟨h0,⟨c,k,cs,h1,(hb c (.lq h1)).trans h2,h3,h4,h5,fun i g hg=>let ⟨v,hv,hr⟩:=h6 i g hg;⟨v,hv,hr.shut hs⟩⟩,h7⟩
 live:=by
  intro O w b m h x hx
  rcases hx with rfl | ⟨n,hn⟩
  ·obtain⟨ms,cl,h1,_⟩:=h.heap
   exact dt h1
  ·obtain⟨i,hi⟩:=bR hn
   exact(h.root i x n hi).2
section
variable {P:Program}{N:Nat}{cx:Cx}{s:St}{W:List Nat}
variable {dst:Option Tmp}{ty:TypeId}{pos:String}{after:Array Edge}{guard:Option (Nat×Bool)}
theorem Rel.xp {μ:Mu}{a:Act}{w:World}(hr:Rel N cx μ s a w){h:Nat}{k:ap}{q:IntKind}{kty tty:TypeId}{n:Nat}{es:List ME}{pd:Option (Option (Nat×Nat)×Nat×List G)}(hk:aq s.st h=some k) (hl:k.lp=some (.deep (fI q kty tty n es pd))){b:Nat}{m:Mm}(hm:μ h=some (b,m)):
  Aw q kty tty n es pd (bif k.fresh then eA (cx.O s.st μ) cx.base else cx.O s.st μ) w b m:=by
 have:=hr.st.dc h k hk
 rw[hm] at this
 exact((aQ.deep hl).1 this).1
theorem Rel.dV {μ:Mu}{a:Act}{w:World}(hrel:Rel N cx μ s a w){x:Operand}{h:Nat}(hx:AM.ev s x=some (.dV h)):∃b m,a.eval x=.map (some b)∧μ h=some (b,m):=by
 have hr:=hrel.ev hx
 generalize a.eval x=v at hr
 cases hr with
 | aH h=>cases h
 | dV _ b m hm=>exact⟨b,m,rfl,hm⟩
theorem Rel.hP {μ:Mu}{a:Act}{w:World}(hrel:Rel N cx μ s a w){x:Operand}{q:IntKind}{ky:Int×Int}(hx:AM.ev s x=some (.agg [.val (.int q ky.1),.val (.int q ky.2)])):a.eval x=AM.hP q ky:=by
 have hr:=hrel.ev hx
 generalize a.eval x=v at hr
 have key:∀us:List Value,us.length=2→(∀(j:Nat) (g:G) (v:Value),[G.val (.int q ky.1),.val (.int q ky.2)][j]?=some g→us[j]?=some v→g=.val v)→us=[.int q ky.1,.int q ky.2]:=by
  intro us hl h
  match us,hl with
  | [a,b],_=>
   have h1:=h 0 _ a rfl rfl
   have h2:=h 1 _ b rfl rfl
   cases h1;cases h2;rfl
 cases hr with
 | aH h=>
  cases h with
  | agg _ us hl hr=>
   rw[key us hl fun j g v hg hv=>by
    have:=hr j g v hg hv
    match j,hg with
    | 0,hg=>cases hg;cases this;rfl
    | 1,hg=>cases hg;cases this;rfl
    | j+2,hg=>simp at hg]
   rfl
 | agg _ us hl hr=>
  rw[key us hl fun j g v hg hv=>by
   have:=hr j g v hg hv
   match j,hg with
   | 0,hg=>cases hg;cases this with | aH h=>cases h;rfl
   | 1,hg=>cases hg;cases this with | aH h=>cases h;rfl
   | j+2,hg=>simp at hg]
  rfl
def my (es:List ME) (ky:Int×Int):Option ME:=es.find? fun e=>decide (ky=e.key)
def vQ (es:List ME) (t:Nat):Option ME:=es.find? fun e=>Nat.beq e.t t
theorem wU {es:List ME}{t:Nat}{e:ME}(h:vQ es t=some e):e∈es∧e.t=t:=⟨List.mem_of_find?_eq_some h,aa (by simpa using List.find?_some h)⟩
theorem M6 {es:List ME}{ky:Int×Int}{e:ME}(h:my es ky=some e):e∈es∧e.key=ky:=⟨List.mem_of_find?_eq_some h,by have:=List.find?_some h;simp at this;exact this.symm⟩
theorem BO (q:IntKind) (ky:Int×Int) (m:Mm):∀(es:List ME) (i:Nat),(yq q ky (es.map fun e=>(e.key,lM m e.t)) i).map (·.2)=(my es ky).map fun e=>lM m e.t
 | [],_=>rfl
 | e::r,i=>by
  simp only[aJ,yq,my,oG]
  by_cases h:ky=e.key
  ·simp[h]
  ·simp only[h,if_false,decide_false]
   exact BO q ky m r (i+1)
theorem YL.RH {t kt et:TypeId}{x y:Operand}{h:Nat}{k:ap}{q:IntKind}{kty tty:TypeId}{n:Nat}{es:List ME}{pd:Option (Option (Nat×Nat)×Nat×List G)}{ky:Int×Int}(hx:ev s x=some (.dV h)) (hy:ev s y=some (.agg [.val (.int q ky.1),.val (.int q ky.2)]))
  (hk:aq s.st h=some k) (hl:k.lp=some (.deep (fI q kty tty n es pd))) (ht:P.underlying t=some (.map kt et)) (K:zS P kt q) (hz:∀w,(zeroValue et).run P w=.ok (.pointer none) w) (hW:W.contains h=false):
  fB P W s ⟨dst,.lookup t x y true,ty,pos,after,guard⟩ (.bl [match my es ky with | some e=>.kp h e.t 0 | none=>.val (.pointer none),.val (.bool (my es ky).isSome)]):=fun N cx μ a w hrel=>by
 obtain⟨b,m,e1,hm⟩:=hrel.dV hx
 have hf:=hrel.xp hk hl hm
 have e2:=hrel.hP hy
 obtain⟨ms,cl,h1,h2⟩:=hf.heap
 have h2:ms.toList.map (fun e=>(e.key,e.val))=(es.map fun e=>(e.key,lM m e.t)).map fun e=>(AM.hP q e.1,e.2):=by rw[h2,fR];rfl
 have hv:∃v,(yq q ky (es.map fun e=>(e.key,lM m e.t)) 0=none∧my es ky=none∧v=Value.pointer none)∨(∃i e,yq q ky (es.map fun e=>(e.key,lM m e.t)) 0=some (i,v)∧my es ky=some e∧v=lM m e.t):=by
  have:=BO q ky m es 0
  cases hf1:yq q ky (es.map fun e=>(e.key,lM m e.t)) 0 with
  | none=>
   rw[hf1] at this
   cases hf2:my es ky with
   | none=>exact⟨_,.inl ⟨rfl,rfl,rfl⟩⟩
   | some e=>rw[hf2] at this;cases this
  | some iv=>
   obtain⟨i,v⟩:=iv
   rw[hf1] at this
   cases hf2:my es ky with
   | none=>rw[hf2] at this;cases this
   | some e=>rw[hf2] at this;cases this;exact⟨_,.inr ⟨i,e,rfl,rfl,rfl⟩⟩
 obtain⟨v,hv⟩:=hv
 have hrun:∀w',w'.heap[b]?=w.heap[b]?→(Instr.lookup t (.map (some b)) (AM.hP q ky) true).run P w'=.ok (.tuple #[v,.bool (my es ky).isSome]) w':=fun w' hb=>by
  rw[h1] at hb
  have hg:(getObj b).run P w'=.ok (.map ms cl) w':=by simp[getObj,Sem.run,hb]
  have hfk:=yL K ky w' ms.toList _ h2
  rcases hv with ⟨q1,q2,rfl⟩ | ⟨i,e,q1,q2,q3⟩
  ·simp[Instr.lookup,run_underlying ht,hg,w5 K,hfk,q1,q2,hz]
  ·simp[Instr.lookup,run_underlying ht,hg,w5 K,hfk,q1,q2]
 refine⟨.tuple #[v,.bool (my es ky).isSome],?_,fun w' hs hw'=>?_⟩
 ·refine .bl _ [v,.bool (my es ky).isSome] rfl fun j g u hg hu=>?_
  match j,hg,hu with
  | 0,hg,hu=>
   cases hg;cases hu
   rcases hv with ⟨q1,q2,rfl⟩ | ⟨i,e,q1,q2,q3⟩
   ·rw[q2];exact .aH (.val _)
   ·rw[q2,q3]
    obtain⟨c,cs,h3,_⟩:=hf.ot e (M6 q2).1
    have:lM m e.t=.pointer (some ⟨c,0,none⟩):=by simp only[lM,h3]
    rw[this]
    exact .kp h e.t 0 b m c _ hm h3
  | 1,hg,hu=>cases hg;cases hu;exact .aH (.val _)
  | j+2,hg,hu=>simp at hg
 ·have hb:=hrel.wI hk hm hW ⟨hs,hw'⟩ (.self b m)
  simp[execOp,e1,e2,hrun w' hb]
theorem YL.RI {t:TypeId}{x:Operand}{h tt off z:Nat}{k:ap}{q:IntKind}{kty tty:TypeId}{n:Nat}{es:List ME}{pd:Option (Option (Nat×Nat)×Nat×List G)}{e:ME}{gs:List G}(hx:ev s x=some (.kp h tt off)) (hk:aq s.st h=some k) (hl:k.lp=some (.deep (fI q kty tty n es pd)))
  (he:vQ es tt=some e) (hf:e.f[off]?=some (z,gs)) (hag:∀w,(isAgg t).run P w=.ok false w) (hW:W.contains h=false):fB P W s ⟨dst,.load t x,ty,pos,after,guard⟩ (.ks h z 1 gs.length):=fun N cx μ a w hrel=>by
 obtain⟨b,m,c,n',e1,hm,hc⟩:=hrel.kp hx
 have hM:=hrel.xp hk hl hm
 obtain⟨he1,he2⟩:=wU he
 obtain⟨c',cs,h1,h2,h3,h4⟩:=hM.ot e he1
 rw[he2,hc] at h1
 cases h1
 obtain⟨u,h5,h6⟩:=h4 off _ hf
 refine⟨u,?_,fun w' hs hw'=>?_⟩
 ·rcases h6 with ⟨q1,_,rfl⟩ | ⟨q1,c2,k2,q2,q3⟩
  ·have q1:gs=[]:=q1
   subst q1
   exact .g9 h z 1 none 0 fun _=>⟨rfl,rfl⟩
  ·obtain⟨cap,cs',rfl,r1,r2,_⟩:=q3
   exact .ks h z 1 _ b m c2 k2 cap hm q2 r1 r2
 ·have hb:=hrel.wI hk hm hW ⟨hs,hw'⟩ (.lq hc)
  rw[h2] at hb
  have hcell:w'.cell? ⟨c,off,none⟩=some u:=by rw[cell_of hb,h5]
  simp[execOp,e1,Instr.loadAt,Instr.sureAddr,loadVar,hag,hcell]
end
end Go.AM
/-
 AM:maps:what belongs to a block uc more behind.
-/
namespace Go.AM
def vU (rn:G→G) (k:ap):ap:=bif k.pure then k else {k with cells:=k.cells.map rn}
theorem Oc (rn:G→G) (k:ap):(vU rn k).cw=k.cw∧(vU rn k).pure=k.pure∧(vU rn k).lp=k.lp:=by
 unfold vU
 cases h:k.pure with
 | true=>exact⟨rfl,h,rfl⟩
 | false=>exact⟨rfl,rfl,rfl⟩
def vD (rn:G→G) (fr:List (Nat×G)):List (Nat×G):=fr.map fun x=>(x.1,rn x.2)
theorem OR {rn:G→G}{fr:List (Nat×G)}{t:Nat}{g:G}(h:get (vD rn fr) t=some g):∃g0,get fr t=some g0∧g=rn g0:=by
 induction fr with
 | nil=>cases h
 | cons x r ih=>
  obtain⟨y,g0⟩:=x
  simp only[vD,aJ,get] at h⊢
  cases hb:Nat.beq y t with
  | true=>rw[hb] at h;cases h;exact⟨g0,rfl,rfl⟩
  | false=>rw[hb] at h;exact ih h
theorem aQ.rn {O:Nat→Prop}{base:Nat}{w:World}{μ μ':Mu}{rn:G→G}{k:ap}{x:Option (Nat×Mm)}(hb:aQ O base w μ k x) (hr:∀g v,aY O base w μ g v→aY O base w μ' (rn g) v):aQ O base w μ' (vU rn k) x:=by
 unfold vU
 cases hp:k.pure with
 | true=>exact hb.fH fun hp'=>by rw[hp] at hp';cases hp'
 | false=>
  simp only[cond_false]
  cases x with
  | none=>
   obtain⟨h1,h2⟩:=hb
   refine⟨by simp[h1],?_⟩
   dsimp only
   split at h2
   ·trivial
   ·exact h2.elim
   ·rw[hp] at h2;cases h2.2
  | some bm=>
   obtain⟨b,m⟩:=bm
   have gm:∀{j:Nat}{g:G},(k.cells.map rn)[j]?=some g→∃g0,k.cells[j]?=some g0∧g=rn g0:=fun {j g} h=>by
    rw[ay] at h
    cases hg:k.cells[j]? with
    | none=>rw[hg] at h;cases h
    | some g0=>rw[hg] at h;cases h;exact⟨g0,rfl,rfl⟩
   cases hl:k.lp with
   | none=>
    obtain⟨cs1,h4,h5,h6,h7,h8,h9⟩:=hb.cells hl
    refine .mk rfl (hb.kn hl) ⟨cs1,h4,h5,by simpa using h6,h7,h8,fun j g hg=>?_⟩
    obtain⟨g0,e1,rfl⟩:=gm hg
    obtain⟨v,hv,hrv⟩:=h9 j g0 e1
    refine⟨v,hv,?_⟩
    unfold cz at hrv⊢
    rw[hp] at hrv
    simp only
    exact hr _ _ hrv
   | some kd=>
    cases kd with
    | deep d=>have:=((aQ.deep hl).1 hb).2.1;rw[hp] at this;cases this
    | loop lp=>
     obtain⟨D,vs,q1,q2,q3,q4,q5⟩:=(aQ.loop hl).1 hb
     refine(aQ.loop rfl).2 ⟨D,vs,q1,q2,q3,rfl,fun j t g ht hg=>?_⟩
     obtain⟨g0,e1,rfl⟩:=gm hg
     obtain⟨v,hv,hrv⟩:=q5 j t g0 ht e1
     exact⟨v,hv,hr _ _ hrv⟩
section
variable {P:Program}{N:Nat}{cx:Cx}{s:St}{W:List Nat}
theorem Rel.grow {μ : Mu} {a : Act} {w w' : World} (hr : Rel N cx μ s a w) {hh : Nat} {k k' : ap} {b : Nat} {m : Mm} {l' : List (Option (Nat × Nat))} {rm : List Nat} {st' : List (Nat × ap)} {rn : G → G} (hk : aq s.st hh = some k) (hm : μ hh = some (b, m))
    (hk' : aq st' hh = some k') (hst : ∀ x k1, x ≠ hh → aq st' x = some k1 → x ∉ rm ∧ ∃ k0, aq s.st x = some k0 ∧ k1 = vU rn k0)
    (hkid : ∀ c n, some (c, n) ∈ l' → (∃ n', some (c, n') ∈ m.2) ∨ (w.heap.size ≤ c ∧ c < w'.heap.size) ∨ ∃ x k0 m0, x ∈ rm ∧ aq s.st x = some k0 ∧ μ x = some (c, m0) ∧ k0.cw = true) (hrm : hh ∉ rm)
    (hrn : ∀ O base w g v, aY O base w μ g v → aY O base w (fV μ hh (some (b, m.1, m.2 ++ l'))) (rn g) v) (hdf : ∀ g ∈ s.df, rn g = g)
    (hsz : w.heap.size ≤ w'.heap.size) (hoth : ∀ x, x < w.heap.size → ¬ In x b m → w'.heap[x]? = w.heap[x]?) (hos : w'.os = w.os) (htape : w'.tape = w.tape) (hout : w'.output = w.output) (hmine : k'.cw = true → k.cw = true)
    (hb : ∀ O', (∀ x, x < w.heap.size → O' x → cx.O s.st μ x) → aQ O' cx.base w' (fV μ hh (some (b, m.1, m.2 ++ l'))) k' (some (b, m.1, m.2 ++ l'))) (hW : ∀ x ∈ hh :: rm, W.contains x = true) :
    Rel N cx (fV μ hh (some (b, m.1, m.2 ++ l'))) { fr := vD rn s.fr, st := st', df := s.df } a w' ∧ Step W s.st μ st' (fV μ hh (some (b, m.1, m.2 ++ l'))) w w' := by
  have hbs : cx.base ≤ w.heap.size := hr.st.hb
  have hinK : ∀ y, In y b ((m.1, m.2 ++ l') : Mm) → In y b m ∨ (w.heap.size ≤ y ∧ y < w'.heap.size) ∨ ∃ x k0 m0, x ∈ rm ∧ aq s.st x = some k0 ∧ μ x = some (y, m0) ∧ k0.cw = true := by
    rintro y (h | ⟨n, hn⟩)
    · exact .inl (.inl h)
    · rcases cP.1 hn with hn | hn
      · exact .inl (.inr ⟨n, hn⟩)
      · rcases hkid y n hn with ⟨n', h⟩ | h | h
        · exact .inl (.inr ⟨n', h⟩)
        · exact .inr (.inl h)
        · exact .inr (.inr h)
  have was : ∀ x k1 b1 m1 y, aq st' x = some k1 → fV μ hh (some (b, m.1, m.2 ++ l')) x = some (b1, m1) → In y b1 m1 →
      (x = hh ∧ w.heap.size ≤ y ∧ y < w'.heap.size) ∨ ∃ z k0 c0 m0, aq s.st z = some k0 ∧ μ z = some (c0, m0) ∧ In y c0 m0 ∧ ((x ≠ hh ∧ z = x ∧ z ∉ rm ∧ k1.cw = k0.cw) ∨ (x = hh ∧ ((z = hh ∧ k1 = k') ∨ (z ∈ rm ∧ k0.cw = true)))) := by
    intro x k1 b1 m1 y h1 h2 h3
    by_cases e : x = hh
    · subst e
      rw [bz] at h2
      cases h2
      rw [hk'] at h1
      cases h1
      rcases hinK y h3 with h4 | h4 | ⟨z, k0, m0, q1, q2, q3, q4⟩
      · exact .inr ⟨x, k, b, m, hk, hm, h4, .inr ⟨rfl, .inl ⟨rfl, rfl⟩⟩⟩
      · exact .inl ⟨rfl, h4⟩
      · exact .inr ⟨z, k0, y, m0, q2, q3, .self _ _, .inr ⟨rfl, .inr ⟨q1, q4⟩⟩⟩
    · rw [aT e] at h2
      obtain ⟨q0, k0, h4, rfl⟩ := hst x k1 e h1
      exact .inr ⟨x, k0, b1, m1, h4, h2, h3, .inl ⟨e, rfl, q0, (Oc rn k0).1⟩⟩
  have hO : ∀ x, x < w.heap.size → cx.O st' (fV μ hh (some (b, m.1, m.2 ++ l'))) x → cx.O s.st μ x := by
    rintro x hx (ho | ⟨y, k1, c1, m1, h1, h2, h3⟩)
    · exact .inl ho
    · rcases was y k1 c1 m1 x h1 h2 h3 with ⟨_, h4, _⟩ | ⟨z, k0, c0, m0, q1, q2, q3, _⟩
      · omega
      · exact .inr ⟨z, k0, c0, m0, q1, q2, q3⟩
  have hown : ∀ x, In x b m → cx.O s.st μ x := fun x hx => .inr ⟨hh, k, b, m, hk, hm, hx⟩
  have hkept : Kept (cx.O s.st μ) w w' := ⟨hsz, fun b' hb' hn => hoth b' hb' fun e => hn (hown b' e)⟩
  have hOm : ∀ x, x < w.heap.size → ¬ cx.O s.st μ x → ¬ cx.O st' (fV μ hh (some (b, m.1, m.2 ++ l'))) x := fun x hx hn ho => hn (hO x hx ho)
  have hext : ∀ y, Ext (μ y) (fV μ hh (some (b, m.1, m.2 ++ l')) y) := fun y => by
    by_cases e : y = hh
    · subst e; rw [bz, hm]; exact .inr ⟨b, m.1, m.2, l', rfl, rfl⟩
    · rw [aT e]; exact .inl rfl
  refine ⟨{ st := { dc := ?_, cE := ?_, bU := ?_, ei := ?_, eg := hr.st.eg, hb := cB hr.st.hb hsz, os := hos.trans hr.st.os, tape := htape.trans hr.st.tape, output := hout.trans hr.st.output, da := ?_ }, nd := ?_, sz := hr.sz, fr := ?_ }, ?_⟩
  · intro x k1 h1
    by_cases e : x = hh
    · subst e
      rw [hk'] at h1
      cases h1
      rw [bz]
      exact hb _ hO
    · rw [aT e]
      obtain ⟨_, k0, h4, rfl⟩ := hst x k1 e h1
      refine ((hr.st.dc x k0 h4).mono (fun b1 m1 hmx y hy => hoth y (hr.st.bU x k0 b1 m1 y h4 hmx hy).2.2.1 fun e' => e (hr.st.cE x hh k0 k y b1 m1 b m h4 hk hmx hm hy e')) hkept hOm).rn (hrn _ _ _)
  · intro x x' k1 k2 y b1 m1 b2 m2 h1 h2 h3 h4 h5 h6
    rcases was x k1 b1 m1 y h1 h3 h5 with ⟨e1, e2, _⟩ | ⟨z, k0, c0, m0, q1, q2, q3, q4⟩ <;> rcases was x' k2 b2 m2 y h2 h4 h6 with ⟨f1, f2, _⟩ | ⟨z', k0', c0', m0', r1, r2, r3, r4⟩
    · rw [e1, f1]
    · have := (hr.st.bU z' k0' c0' m0' y r1 r2 r3).2.2.1; omega
    · have := (hr.st.bU z k0 c0 m0 y q1 q2 q3).2.2.1; omega
    · have := hr.st.cE z z' k0 k0' y c0 m0 c0' m0' q1 r1 q2 r2 q3 r3
      subst this
      rcases q4 with ⟨e1, e2, e3, _⟩ | ⟨e1, e2⟩ <;> rcases r4 with ⟨f1, f2, f3, _⟩ | ⟨f1, f2⟩
      · exact e2.symm.trans f2
      · rcases f2 with ⟨f2, _⟩ | ⟨f2, _⟩
        · exact absurd (e2.symm.trans f2) e1
        · exact absurd f2 e3
      · rcases e2 with ⟨e2, _⟩ | ⟨e2, _⟩
        · exact absurd (f2.symm.trans e2) f1
        · exact absurd e2 f3
      · rw [e1, f1]
  · intro x k1 b1 m1 y h1 h2 h3
    rcases was x k1 b1 m1 y h1 h2 h3 with ⟨e1, e2, e3⟩ | ⟨z, k0, c0, m0, q1, q2, q3, q4⟩
    · have hxb : ∀ z, cx.X z → z < w.heap.size := fun z hz => bW (hr.st.eg z hz) hbs
      exact ⟨fun hx => by have := hxb y hx; omega, .inl (by omega), e3, fun _ => by omega⟩
    · obtain ⟨a1, a2, a3, a4⟩ := hr.st.bU z k0 c0 m0 y q1 q2 q3
      refine ⟨a1, a2, bW a3 hsz, fun h => a4 ?_⟩
      rcases q4 with ⟨_, _, _, e⟩ | ⟨_, ⟨e, e'⟩ | ⟨_, e⟩⟩
      · rw [← e]; exact h
      · subst e
        rw [hk] at q1
        cases q1
        subst e'
        exact hmine h
      · exact e
  · intro x k1 h1 h2
    by_cases e : x = hh
    · subst e
      rw [bz]
      refine (hr.st.ei x k hk h2).trans (base' := cx.base) (.inr ⟨b, m.1, m.2, l', by rw [hm], rfl, fun c n hc => ?_⟩) (az _)
      rcases hkid c n hc with h | h | ⟨z, k0, m0, q1, q2, q3, q4⟩
      · exact .inr h
      · exact .inl (cB hbs h.1)
      · exact .inl ((hr.st.bU z k0 c m0 c q2 q3 (.self _ _)).2.2.2 q4)
    · rw [aT e]
      obtain ⟨_, k0, h4, _⟩ := hst x k1 e h1
      exact hr.st.ei x k0 h4 h2
  · intro b' hb1 hA
    rw [hoth b' (by omega) (fun e => (hr.st.bU hh k b m b' hk hm e).2.1.elim (fun h1 => by omega) (fun h1 => hA h1))]
    exact hr.st.da b' hb1 hA
  · exact (hr.nd.mono hkept hOm).l9 fun g hg y hy => hext y
  · intro t g hg
    obtain ⟨g0, h1, rfl⟩ := OR hg
    obtain ⟨v, hv, hrv⟩ := hr.fr t g0 h1
    exact ⟨v, hv, hrn _ _ _ _ _ (hrv.mono hkept hOm (az _))⟩
  · refine ⟨hsz, fun b' hb' hn => hoth b' hb' fun e => ?_, fun x k1 c1 m1 y hw h1 h2 hy => ?_⟩
    · exact hn hh k b m (by simpa using hW hh au) hk hm e
    · rcases was x k1 c1 m1 y h1 h2 hy with ⟨_, e2, _⟩ | ⟨z, k0, c0, m0, q1, q2, q3, q4⟩
      · exact .inr e2
      · refine .inl ⟨z, k0, c0, m0, ?_, q1, q2, q3⟩
        rcases q4 with ⟨_, e2, _⟩ | ⟨_, ⟨e2, _⟩ | ⟨e2, _⟩⟩
        · exact e2 ▸ hw
        · subst e2; simpa using hW z au
        · simpa using hW z (ao _ e2)
end
end Go.AM
/-
 AM:maps:one is made;an entry more,with a struct that was the call's own.
-/
namespace Go.AM
section
variable {P:Program}{N:Nat}{cx:Cx}{s:St}{W:List Nat}
variable {ty:TypeId}{pos:String}{after:Array Edge}{guard:Option (Nat×Bool)}
def HG (q:IntKind) (kty tty:TypeId):ap:=⟨0,true,true,true,1,[],some (.deep (fI q kty tty 0 [] none))⟩
theorem Rel.allocMap {μ : Mu} {a : Act} {w : World} (hr : Rel N cx μ s a w) {hd : Nat} (q : IntKind) (kty tty : TypeId) (hfr : fresh s hd = true) :
    Rel N cx (fV μ hd (some (w.heap.size, 0, []))) { fr := s.fr, st := (hd, HG q kty tty) :: s.st, df := s.df } a (w.alloc (.map #[] 0)) ∧ Step W s.st μ ((hd, HG q kty tty) :: s.st) (fV μ hd (some (w.heap.size, 0, []))) w (w.alloc (.map #[] 0)) := by
  unfold fresh at hfr
  simp only [aj, Option.isNone_iff_eq_none] at hfr
  obtain ⟨f1, f2, f3, f5, f6⟩ := hfr
  have h := hr.st
  have hO : ∀ b, b < w.heap.size → ¬ cx.O s.st μ b → ¬ cx.O ((hd, HG q kty tty) :: s.st) (fV μ hd (some (w.heap.size, 0, []))) b := by
    intro b hb hn ho
    rcases ho with ho | ⟨x, k', c, m, h1, h2, h3⟩
    · exact hn (.inl ho)
    · by_cases e : x = hd
      · subst e; rw [bz] at h2; cases h2; rw [In.plain.1 h3] at hb; omega
      · rw [aD _ s.st e] at h1; rw [aT e] at h2; exact hn (.inr ⟨x, k', c, m, h1, h2, h3⟩)
  have hlt : ∀ x k' b m y, aq s.st x = some k' → μ x = some (b, m) → In y b m → y < w.heap.size := fun x k' b m y h1 h2 h3 => (h.bU x k' b m y h1 h2 h3).2.2.1
  have hkept := nP (cx.O s.st μ) w (.map #[] 0)
  refine ⟨{ st := { dc := ?_, cE := ?_, bU := ?_, ei := ?_, eg := h.eg, hb := ?_, os := h.os, tape := h.tape, output := h.output, da := ?_ }, nd := (hr.nd.mono hkept hO).fH (fun g hg y hy => aT fun e => by subst e; rw [lX f5 hg] at hy; cases hy), sz := hr.sz, fr := fun t g hg => ?_ }, ?_⟩
  · intro x k' h1
    by_cases e : x = hd
    · subst e
      rw [dv] at h1; cases h1
      rw [bz]
      refine (aQ.deep rfl).2 ⟨?_, rfl, rfl, fun _ => h.hb⟩
      exact { len := rfl, tW := hZ _, vR := rfl, heap := ⟨#[], 0, heap_alloc_new w _, rfl⟩, root := fun i c k e => by simp at e, ot := fun e he => absurd he (by simp), inj := fun i i' e e' j j' x x' c k k' h => by simp at h, yk := fun sr x gs e => by cases e }
    · rw [aD _ s.st e] at h1
      rw [aT e]
      refine ((h.dc x k' h1).mono (fun b m hm y hy => cJ w _ y (hlt x k' b m y h1 hm hy)) hkept hO).fH fun hp g hg y hy => aT ?_
      intro e
      subst e
      rw [qE f3 h1 hp hg] at hy
      cases hy
  · intro x x' k1 k2 y b m b' m' h1 h2 h3 h4 h5 h6
    by_cases e : x = hd
    · by_cases e' : x' = hd
      · rw [e, e']
      · subst e
        rw [bz] at h3; rw [aT e'] at h4; rw [aD _ s.st e'] at h2
        cases h3
        have := hlt x' k2 _ m' y h2 h4 h6
        rw [In.plain.1 h5] at this
        omega
    · by_cases e' : x' = hd
      · subst e'
        rw [bz] at h4; rw [aT e] at h3; rw [aD _ s.st e] at h1
        cases h4
        have := hlt x k1 _ m y h1 h3 h5
        rw [In.plain.1 h6] at this
        omega
      · rw [aD _ s.st e] at h1; rw [aD _ s.st e'] at h2; rw [aT e] at h3; rw [aT e'] at h4
        exact h.cE x x' k1 k2 y b m b' m' h1 h2 h3 h4 h5 h6
  · intro x k' b m y h1 h2 h3
    by_cases e : x = hd
    · subst e
      rw [bz] at h2
      cases h2
      rw [In.plain.1 h3]
      refine ⟨fun hx => ?_, .inl h.hb, by simp, fun _ => h.hb⟩
      have := h.eg _ hx
      have := h.hb
      omega
    · rw [aD _ s.st e] at h1; rw [aT e] at h2
      obtain ⟨a1, a2, a3, a4⟩ := h.bU x k' b m y h1 h2 h3
      exact ⟨a1, a2, by simp only [World.size_alloc]; omega, a4⟩
  · intro x k1 h1 h2
    by_cases e : x = hd
    · subst e; rw [gW f6] at h2; cases h2
    · rw [aD _ s.st e] at h1; rw [aT e]; exact h.ei x k1 h1 h2
  · simp only [World.size_alloc]; have := h.hb; omega
  · intro b hb hA
    rw [cJ w _ b (by have := h.hb; omega)]
    exact h.da b hb hA
  · obtain ⟨v, hv, hrv⟩ := hr.fr t g hg
    refine ⟨v, hv, (hrv.mono hkept hO (az _)).fH fun y hy => aT ?_⟩
    intro e
    subst e
    rw [kQ f2 hg] at hy
    cases hy
  · refine ⟨by simp, fun b hb _ => cJ w _ b hb, fun h k' c m b hw h1 hm hi => ?_⟩
    by_cases e : h = hd
    · subst e
      rw [bz] at hm
      cases hm
      exact .inr (by rw [In.plain.1 hi]; exact az _)
    · rw [aD _ s.st e] at h1
      rw [aT e] at hm
      exact .inl ⟨h, k', c, m, hw, h1, hm, hi⟩
theorem EF.mkMap {d : Nat} {t : TypeId} (hd : Nat) (q : IntKind) (kty tty : TypeId) (hfr : fresh s hd = true) :
  bN P W s ⟨some d, .makeMap t none, ty, pos, after, guard⟩ (· = { fr := (d, .dV hd) :: s.fr, st := (hd, HG q kty tty) :: s.st, df := s.df }) := by
 refine bN.of (s1 := { fr := s.fr, st := (hd, HG q kty tty) :: s.st, df := s.df }) (g := .dV hd) rfl (fun _ h => by cases h) ?_
 intro N cx μ a w hr
 obtain ⟨h1, h2⟩ := hr.allocMap (W := W) q kty tty hfr
 refine ⟨.map (some w.heap.size), _, _, ?_, h1, .dV hd _ _ (bz _ _ _), h2⟩
 simp [execOp, Instr.makeMap, newObj, Sem.run]
def l8 (h2 h n:Nat):G→G
 | .loc x off=>bif Nat.beq x h2 then .kp h n off else .loc x off
 | .aR x sz off k=>bif Nat.beq x h2 then .any else .aR x sz off k
 | .kp x i off=>bif Nat.beq x h2 then .any else .kp x i off
 | .ks x i sz k=>bif Nat.beq x h2 then .any else .ks x i sz k
 | .ct x=>bif Nat.beq x h2 then .any else .ct x
 | .dV x=>bif Nat.beq x h2 then .any else .dV x
 | .agg gs=>.agg (go gs)
 | .bl gs=>.bl (go gs)
 | .aF f gs=>.aF f (go gs)
 | g=>g
where go:List G→List G
 | []=>[]
 | g::r=>l8 h2 h n g::go r
theorem rU {h2 h n:Nat}{gs:List G}:(l8.go h2 h n gs).length=gs.length∧∀(j:Nat) (g':G),(l8.go h2 h n gs)[j]?=some g'→∃g,gs[j]?=some g∧g'=l8 h2 h n g:=by
 induction gs with
 | nil=>exact⟨rfl,fun j g e=>by simp[l8.go] at e⟩
 | cons x r ih=>
  refine⟨by simp[l8.go,ih.1],fun j g' e=>?_⟩
  simp only[l8.go] at e
  cases j with
  | zero=>cases e;exact⟨x,rfl,rfl⟩
  | succ j=>exact ih.2 j g' e
theorem aY.rk {O:Nat→Prop}{base:Nat}{w:World}{μ μ':Mu}{g:G}{v:Value}{h2 h n c z b:Nat}{m m2:Mm}(hv:aY O base w μ g v) (hext:∀y,Ext (μ y) (μ' y)) (hm:μ' h=some (b,m)) (hn:m.2[n]?=some (some (c,z))) (hc:μ h2=some (c,m2)):aY O base w μ' (l8 h2 h n g) v:=by
 have one:∀{x:Nat}{g:G}{v:Value},aY O base w μ' g v→aY O base w μ' (bif Nat.beq x h2 then G.any else g) v:=fun {x g v} h=>by
  cases Nat.beq x h2 with
  | true=>exact .aH (.any _)
  | false=>exact h
 induction hv with
 | aH hi=>
  have key:∀{g:G}{v:Value},bG O w g v→aY O base w μ' (l8 h2 h n g) v:=by
   intro g v hi
   induction hi with
   | any v=>exact .aH (.any _)
   | val v=>exact .aH (.val _)
   | nil=>exact .aH .nil
   | gQ a c=>exact .aH (.gQ a c)
   | sl n cells b off cap us h1 h2 h3 h4 h5 ih=>exact .aH (.sl n cells b off cap us h1 h2 h3 h4 h5)
   | ptr cells b off us h1 h2 h3 h4 ih=>exact .aH (.ptr cells b off us h1 h2 h3 h4)
   | agg cells us hl hr ih=>
    refine .agg _ us (by rw[rU.1];exact hl) fun j g v hg hv=>?_
    obtain⟨g0,e1,rfl⟩:=rU.2 j g hg
    exact ih j g0 v e1 hv
  exact key hi
 | fr h=>exact .fr h
 | loc x off b' m' hm'=>
  simp only[l8]
  cases hb:Nat.beq x h2 with
  | true=>
   have:=aa hb
   subst this
   rw[hc] at hm'
   cases hm'
   exact .kp h n off b m c z hm hn
  | false=>obtain⟨m2,e,_⟩:=(hext x).get hm';exact .loc x off b' m2 e
 | eQ x sz hm'=>exact one (.eQ x sz ((hext x).nil hm'))
 | aR x sz off n b' m' cap hm' hn' hc'=>obtain⟨m2,e,e1,_⟩:=(hext x).get hm';exact one (.aR x sz off n b' m2 cap e hn' (by rw[e1];exact hc'))
 | @dJ x sz off0 b' m' ks hm' hp=>
  obtain⟨⟨m1,ks'⟩,e,e1,_⟩:=(hext x).get hm'
  have e1:m1=m':=e1
  subst e1
  exact one (.dJ x sz off0 b' m1 e hp)
 | agg cells us hl hr ih=>
  refine .agg _ us (by rw[rU.1];exact hl) fun j g v hg hv=>?_
  obtain⟨g0,e1,rfl⟩:=rU.2 j g hg
  exact ih j g0 v e1 hv
 | bl cells us hl hr ih=>
  refine .bl _ us (by rw[rU.1];exact hl) fun j g v hg hv=>?_
  obtain⟨g0,e1,rfl⟩:=rU.2 j g hg
  exact ih j g0 v e1 hv
 | aF f cells us hl hr ih=>
  refine .aF f _ us (by rw[rU.1];exact hl) fun j g v hg hv=>?_
  obtain⟨g0,e1,rfl⟩:=rU.2 j g hg
  exact ih j g0 v e1 hv
 | ct x b' m' hm'=>obtain⟨m2,e,_⟩:=(hext x).get hm';exact one (.ct x b' m2 e)
 | dV x b' m' hm'=>obtain⟨m2,e,_⟩:=(hext x).get hm';exact one (.dV x b' m2 e)
 | kp x i off b' m' c' n' hm' hk=>obtain⟨m2,e,_,e3⟩:=(hext x).get hm';exact one (.kp x i off b' m2 c' n' e (e3 i _ hk))
 | g9 x i sz a cap hi=>exact one (.g9 x i sz a cap hi)
 | ks x i sz n' b' m' c' k cap hm' hk hn' hc'=>obtain⟨m2,e,_,e3⟩:=(hext x).get hm';exact one (.ks x i sz n' b' m2 c' k cap e (e3 i _ hk) hn' hc')
end
end Go.AM
/-
 AM:maps:an entry more;a slice's append;its store.
-/
namespace Go.AM
mutual
theorem G5 {h2 h n:Nat}:∀g:G,g.b9 h2=false→l8 h2 h n g=g
 | .loc x off,e=>by show(bif Nat.beq x h2 then _ else _)=_;rw[show Nat.beq x h2=false from e];rfl
 | .aR x _ _ _,e=>by show(bif Nat.beq x h2 then _ else _)=_;rw[show Nat.beq x h2=false from e];rfl
 | .kp x _ _,e=>by show(bif Nat.beq x h2 then _ else _)=_;rw[show Nat.beq x h2=false from e];rfl
 | .ks x _ _ _,e=>by show(bif Nat.beq x h2 then _ else _)=_;rw[show Nat.beq x h2=false from e];rfl
 | .ct x,e=>by show(bif Nat.beq x h2 then _ else _)=_;rw[show Nat.beq x h2=false from e];rfl
 | .dV x,e=>by show(bif Nat.beq x h2 then _ else _)=_;rw[show Nat.beq x h2=false from e];rfl
 | .agg gs,e=>congrArg G.agg (zY gs e)
 | .bl gs,e=>congrArg G.bl (zY gs e)
 | .aF f gs,e=>congrArg (G.aF f) (zY gs e)
 | .any,_=>rfl
 | .val _,_=>rfl
 | .sl _ _,_=>rfl
 | .ptr _,_=>rfl
 | .fr _,_=>rfl
theorem zY {h2 h n:Nat}:∀gs:List G,G.b9.go h2 gs=false→l8.go h2 h n gs=gs
 | [],_=>rfl
 | x::r,e=>by
  simp only[G.b9.go,bI] at e
  simp only[l8.go,G5 x e.1,zY r e.2]
end
def Bg (rn:G→G) (st:List (Nat×ap)):List (Nat×ap):=st.map fun x=>(x.1,vU rn x.2)
theorem EI {rn:G→G}{x:Nat}{k1:ap}:∀{st:List (Nat×ap)},aq (Bg rn st) x=some k1→∃k0,aq st x=some k0∧k1=vU rn k0
 | [],h=>by cases h
 | (y,k)::r,h=>by
  simp only[Bg,aJ,ig] at h⊢
  cases hb:Nat.beq y x with
  | true=>rw[hb] at h;cases h;exact⟨k,rfl,rfl⟩
  | false=>rw[hb] at h;exact EI (st:=r) h
theorem pI {rn:G→G}{x:Nat}{k:ap}:∀{st:List (Nat×ap)},aq st x=some k→aq (Bg rn st) x=some (vU rn k)
 | [],h=>by cases h
 | (y,k')::r,h=>by
  simp only[Bg,aJ,ig] at h⊢
  cases hb:Nat.beq y x with
  | true=>rw[hb] at h;cases h;rfl
  | false=>rw[hb] at h;exact pI (st:=r) h
theorem pf.ext {O:Nat→Prop}{w:World}{kty:TypeId}{m:Mm}{l':List (Option (Nat×Nat))}{p:Nat×List G}{u:Value}(h:pf O w kty m p u):pf O w kty (m.1,m.2++l') p u:=
 h.imp id fun ⟨h0,c,k,h1,h2⟩=>⟨h0,c,k,by
  have:=(al.1 h1).1
  show(m.2++l')[p.1]?=_
  rw[cH this];exact h1,h2⟩
theorem Aw.has {q:IntKind}{kty tty:TypeId}{n:Nat}{es:List ME}{pd:Option (Option (Nat×Nat)×Nat×List G)}{O:Nat→Prop}{w:World}{b:Nat}{m:Mm}(h:Aw q kty tty n es pd O w b m){e:ME}{j x:Nat}(he:e∈es) (hx:p6 e j=some x):∃c k,m.2[x]?=some (some (c,k)):=by
 obtain⟨c,cs,h1,h2,h3,h4⟩:=h.ot e he
 cases j with
 | zero=>cases hx;exact⟨c,_,h1⟩
 | succ j=>
  obtain⟨gs,h5,h6⟩:=u0 hx
  obtain⟨u,_,h7⟩:=h4 j _ h5
  rcases h7 with ⟨h7,_⟩ | ⟨_,c',k',h7,_⟩
  ·exact absurd h7 h6
  ·exact⟨c',k',h7⟩
theorem nw {α:Type}{l l':List α}{i:Nat}{x:α}(h:l[i]?=some x):(l++l')[i]?=some x:=by rw[cH (al.1 h).1];exact h
section
variable {P:Program}{N:Nat}{cx:Cx}{s:St}{W:List Nat}
variable {ty:TypeId}{pos:String}{after:Array Edge}{guard:Option (Nat×Bool)}
theorem EF.RG {t kt et : TypeId} {x y z : Operand} {h h2 n zf : Nat} {k k2 : ap} {q : IntKind} {kty tty : TypeId} {es : List ME} {pd : Option (Option (Nat × Nat) × Nat × List G)} {ky : Int × Int} (hx : ev s x = some (.dV h)) (hy : ev s y = some (.agg [.val (.int q ky.1), .val (.int q ky.2)])) (hz : ev s z = some (.loc h2 0)) (hne : Nat.beq h2 h = false)
    (hk : aq s.st h = some k) (hl : k.lp = some (.deep (fI q kty tty n es pd))) (ht : P.underlying t = some (.map kt et)) (K : zS P kt q) (hno : my es ky = none) (hk2 : aq s.st h2 = some k2) (hlp2 : k2.lp = none) (hety : k2.bP = tty) (hm2 : k2.cw = true)
    (hc2 : k2.cells = List.replicate zf (.val (.slice none 0 0))) (hlim : n + 1 ≤ maxLen) (hdf : qe h2 s.df = true) (hW : W.contains h = true) (hW2 : W.contains h2 = true) :
    bN P W s ⟨none, .mapUpdate t x y z, ty, pos, after, guard⟩ (· = { fr := vD (l8 h2 h n) s.fr, st := bD (Bg (l8 h2 h n) (oP s.st h2)) h { k with lp := some (.deep (fI q kty tty (n + 1) (es ++ [⟨ky, n, List.replicate zf (iK, [])⟩]) pd)) }, df := s.df }) := by
  have hne : h2 ≠ h := fun e => by subst e; rw [aI] at hne; cases hne
  refine bN.skip rfl (fun _ h => by cases h) ?_
  intro N cx μ a w hr
  obtain ⟨b, m, e1, hm⟩ := hr.dV hx
  have hM := hr.xp hk hl hm
  have e2 := hr.hP hy
  obtain ⟨c, mc, e3, hmc⟩ := hr.loc hz
  obtain ⟨cs, r1, r2, r3, r4, r5, r6⟩ := hr.own hk2 hmc hlp2
  obtain ⟨ms, cl, g1, g2⟩ := hM.heap
  have hb0 := hr.st.dc h k hk
  rw [hm] at hb0
  obtain ⟨_, p2, p3, p4⟩ := (aQ.deep hl).1 hb0
  have kidne : ∀ {i c' k' : Nat}, m.2[i]? = some (some (c', k')) → c' ≠ c := fun {i c' k'} e e' => hne (hr.st.cE h2 h k2 k c c mc b m hk2 hk hmc hm (.self _ _) (e' ▸ .lq e))
  have hcb : c ≠ b := fun e' => hne (hr.st.cE h2 h k2 k c c mc b m hk2 hk hmc hm (.self _ _) (.inl e'))
  have hclt := (hr.st.bU h2 k2 c mc c hk2 hmc (.self _ _)).2.2.1
  have hblt := dt g1
  have hlen := hM.len
  have hnew : (m.2 ++ [some (c, mc.1)])[n]? = some (some (c, mc.1)) := by rw [← hlen]; simp
  have hn1 : yq q ky (es.map fun e => (e.key, lM m e.t)) 0 = none := by
    have := BO q ky m es 0
    rw [hno] at this
    exact Option.map_eq_none_iff.1 this
  have hfk := yL (P := P) K ky w ms.toList (es.map fun e => (e.key, lM m e.t)) (by rw [g2, fR]; rfl)
  rw [hn1] at hfk
  have hg : (getObj b).run P w = .ok (.map ms cl) w := by simp [getObj, Sem.run, g1]
  have hs : (setObj b (.map (ms.push ⟨AM.hP q ky, .pointer (some ⟨c, 0, none⟩), cl⟩) (cl + 1))).run P w = .ok () { w with heap := w.heap.setIfInBounds b (.map (ms.push ⟨AM.hP q ky, .pointer (some ⟨c, 0, none⟩), cl⟩) (cl + 1)) } := by simp [setObj, Sem.run, g1]
  have hrun : (Instr.mapUpdate t (.map (some b)) (AM.hP q ky) (.pointer (some ⟨c, 0, none⟩))).run P w = .ok () { w with heap := w.heap.setIfInBounds b (.map (ms.push ⟨AM.hP q ky, .pointer (some ⟨c, 0, none⟩), cl⟩) (cl + 1)) } := by
    simp [Instr.mapUpdate, run_underlying ht, hg, w5 K, hfk, hs]
  have hset1 : (w.heap.setIfInBounds b (.map (ms.push ⟨AM.hP q ky, .pointer (some ⟨c, 0, none⟩), cl⟩) (cl + 1)))[b]? = some (.map (ms.push ⟨AM.hP q ky, .pointer (some ⟨c, 0, none⟩), cl⟩) (cl + 1)) := by simp [hblt]
  have hset2 : ∀ r', r' ≠ b → (w.heap.setIfInBounds b (.map (ms.push ⟨AM.hP q ky, .pointer (some ⟨c, 0, none⟩), cl⟩) (cl + 1)))[r']? = w.heap[r']? := fun r' hn => by simp [Ne.symm hn]
  have hk' : aq (oP s.st h2) h = some k := k8 (fun e => hne e.symm) hk
  have hext : ∀ y, Ext (μ y) (fV μ h (some (b, m.1, m.2 ++ [some (c, mc.1)])) y) := fun y => by
    by_cases e : y = h
    · subst e; rw [bz, hm]; exact .inr ⟨b, m.1, m.2, _, rfl, rfl⟩
    · rw [aT e]; exact .inl rfl
  have hG := hr.grow (W := W) (w' := { w with heap := w.heap.setIfInBounds b (.map (ms.push ⟨AM.hP q ky, .pointer (some ⟨c, 0, none⟩), cl⟩) (cl + 1)) }) (l' := [some (c, mc.1)]) (rm := [h2]) (rn := l8 h2 h n)
    (k' := { k with lp := some (.deep (fI q kty tty (n + 1) (es ++ [⟨ky, n, List.replicate zf (iK, [])⟩]) pd)) }) (st' := bD (Bg (l8 h2 h n) (oP s.st h2)) h { k with lp := some (.deep (fI q kty tty (n + 1) (es ++ [⟨ky, n, List.replicate zf (iK, [])⟩]) pd)) })
    hk hm (fg (pI hk')) (fun x k1 hxh h1 => by
      rw [eO hxh] at h1
      obtain ⟨k0, h3, h4⟩ := EI h1
      obtain ⟨h5, h6⟩ := EH h3
      exact ⟨by simpa using h5, k0, h6, h4⟩) (fun c' n' hc' => by
      simp at hc'
      obtain ⟨rfl, rfl⟩ := hc'
      exact .inr (.inr ⟨h2, k2, mc, by simp, hk2, hmc, hm2⟩)) (by simpa using fun e : h = h2 => hne e.symm)
    (fun O base w g v hv => hv.rk (c := c) (z := mc.1) (m := (m.1, m.2 ++ [some (c, mc.1)])) hext (bz _ _ _) hnew hmc)
    (fun g hg => G5 g (lX hdf hg)) (by simp) (fun x hxl hxn => hset2 x fun e => hxn (.inl e)) rfl rfl rfl id (fun O' hO => by
      refine (aQ.deep (d := fI q kty tty (n + 1) (es ++ [⟨ky, n, List.replicate zf (iK, [])⟩]) pd) rfl).2 ⟨?_, p2, p3, p4⟩
      have hO2 : ∀ x, x < w.heap.size → ¬ (bif k.fresh then eA (cx.O s.st μ) cx.base else cx.O s.st μ) x → ¬ (bif k.fresh then eA O' cx.base else O') x := by
        intro x hx hn ho
        cases hkf : k.fresh with
        | false => rw [hkf] at hn ho; exact hn (hO x hx ho)
        | true => rw [hkf] at hn ho; exact hn (ho.imp id (hO x hx))
      have hkp : Kept (bif k.fresh then eA (cx.O s.st μ) cx.base else cx.O s.st μ) w { w with heap := w.heap.setIfInBounds b (.map (ms.push ⟨AM.hP q ky, .pointer (some ⟨c, 0, none⟩), cl⟩) (cl + 1)) } := by
        refine ⟨by simp, fun b' _ hn => hset2 b' fun e => hn ?_⟩
        subst e
        have hown : cx.O s.st μ b' := .inr (.root hk hm)
        cases k.fresh with
        | false => exact hown
        | true => exact .inr hown
      have hold : ∀ {i c' k' : Nat}, m.2[i]? = some (some (c', k')) → (w.heap.setIfInBounds b (.map (ms.push ⟨AM.hP q ky, .pointer (some ⟨c, 0, none⟩), cl⟩) (cl + 1)))[c']? = w.heap[c']? := fun {i c' k'} e => hset2 c' (hM.root i c' k' e).1
      have hcase : ∀ (i : Nat) (e : ME), (es ++ [⟨ky, n, List.replicate zf (iK, [])⟩])[i]? = some e → (i < es.length ∧ es[i]? = some e) ∨ (i = es.length ∧ e = ⟨ky, n, List.replicate zf (iK, [])⟩) := by
        intro i e h
        rw [a9] at h
        split at h
        · rename_i hi; exact .inl ⟨hi, h⟩
        · rename_i hi
          have : i - es.length = 0 := by
            cases hd : i - es.length with
            | zero => rfl
            | succ d => rw [hd] at h; simp at h
          rw [this] at h
          cases h
          exact .inr ⟨by omega, rfl⟩
      have hitn : ∀ {j x : Nat}, p6 ⟨ky, n, List.replicate zf (iK, [])⟩ j = some x → j = 0 ∧ x = n := by
        intro j x h
        cases j with
        | zero => cases h; exact ⟨rfl, rfl⟩
        | succ j =>
          obtain ⟨gs, h5, h6⟩ := u0 h
          rw [ff] at h5
          split at h5
          · cases h5; exact absurd rfl h6
          · cases h5
      have hback : ∀ {e : ME} {j x c' k' : Nat}, e ∈ es → p6 e j = some x → (m.2 ++ [some (c, mc.1)])[x]? = some (some (c', k')) → m.2[x]? = some (some (c', k')) := by
        intro e j x c' k' he hx' hc'
        obtain ⟨c1, k1, h1⟩ := hM.has he hx'
        rw [nw h1] at hc'
        cases hc'
        exact h1
      refine { len := by show (m.2 ++ [some (c, mc.1)]).length = n + 1; simp [hlen], tW := hlim, vR := hM.vR, heap := ⟨_, _, hset1, ?_⟩, root := fun i c' k' e => ?_, ot := fun e he => ?_, inj := fun i i' e e' j j' x x' c' k1 k1' q1 q2 q3 q4 q5 q6 => ?_, yk := fun sr x gs e => ?_ }
      · rw [Array.toList_push, jC, jC, g2]
        congr 1
        · refine eB fun e he => ?_
          obtain ⟨c', cs', h3, _⟩ := hM.ot e he
          have h3' : (m.2 ++ [some (c, mc.1)])[e.t]? = some (some (c', cs'.size)) := nw h3
          simp only [lM, h3, h3']
        · simp only [aJ, iB, lM, hnew]
      · show c' ≠ b ∧ c' < _
        rw [a9] at e
        split at e
        · exact ⟨(hM.root i c' k' e).1, by simpa using (hM.root i c' k' e).2⟩
        · have := ar e
          simp at this
          rw [this.1]
          exact ⟨hcb, by simpa using hclt⟩
      · rcases cP.1 he with he | he
        · obtain ⟨c', cs', h3, h4, h5, h6⟩ := hM.ot e he
          refine ⟨c', cs', nw h3, (hold h3).trans h4, h5, fun j p hp => ?_⟩
          obtain ⟨u, h7, h8⟩ := h6 j p hp
          exact ⟨u, h7, (h8.mono hkp hO2 fun c2 k2 e => hold e).ext⟩
        · rw [cu.1 he]
          refine ⟨c, cs, by rw [r2]; exact hnew, (hset2 c hcb).trans (by rw [r1, hety]), by rw [hc2] at r3; simp at r3 ⊢; omega, fun j p hp => ?_⟩
          dsimp only at hp
          rw [ff] at hp
          split at hp
          · rename_i hj
            cases hp
            obtain ⟨v, hv, hrv⟩ := r6 j (.val (.slice none 0 0)) (by rw [hc2, ff, if_pos hj])
            refine ⟨v, hv, .inl ⟨rfl, rfl, ?_⟩⟩
            unfold cz at hrv
            cases hp2 : k2.pure with
            | true => rw [hp2] at hrv; cases hrv; rfl
            | false => rw [hp2] at hrv; cases hrv with | aH h => cases h; rfl
          · cases hp
      · rcases hcase i e q1 with ⟨i1, i2⟩ | ⟨i1, rfl⟩ <;> rcases hcase i' e' q2 with ⟨j1, j2⟩ | ⟨j1, rfl⟩
        · exact hM.inj i i' e e' j j' x x' c' k1 k1' i2 j2 q3 q4 (hback (ar i2) q3 q5) (hback (ar j2) q4 q6)
        · obtain ⟨_, rfl⟩ := hitn q4
          have q6 : (m.2 ++ [some (c, mc.1)])[x']? = _ := q6
          rw [hnew] at q6
          cases q6
          exact absurd rfl (kidne (hback (ar i2) q3 q5))
        · obtain ⟨_, rfl⟩ := hitn q3
          have q5 : (m.2 ++ [some (c, mc.1)])[x]? = _ := q5
          rw [hnew] at q5
          cases q5
          exact absurd rfl (kidne (hback (ar j2) q4 q6))
        · obtain ⟨rfl, _⟩ := hitn q3
          obtain ⟨rfl, _⟩ := hitn q4
          exact ⟨i1.trans j1.symm, rfl⟩
      · obtain ⟨z0, ⟨c', k', cs', z1, z2, z3, z4, z5, z6⟩, z7⟩ := hM.yk sr x gs e
        refine ⟨z0, ⟨c', k', cs', nw z1, (hold z1).trans z2, z3, z4, z5, fun i g hg => let ⟨v, hv, hr⟩ := z6 i g hg; ⟨v, hv, hr.mono hkp hO2⟩⟩, fun e' j' x' c2 k2' k3 he' hx' hc1 hc2' => ?_⟩
        have hc1 : (m.2 ++ [some (c, mc.1)])[x]? = some (some (c2, k2')) := hc1
        rw [nw z1] at hc1
        cases hc1
        rcases cP.1 he' with he' | he'
        · exact z7 e' j' x' c' k' k3 he' hx' z1 (hback he' hx' hc2')
        · rw [cu.1 he'] at hx'
          obtain ⟨_, rfl⟩ := hitn hx'
          have hc2' : (m.2 ++ [some (c, mc.1)])[x']? = _ := hc2'
          rw [hnew] at hc2'
          cases hc2'
          exact absurd rfl (kidne z1)) (fun x hx => by
      rcases aZ.1 hx with rfl | hx
      · exact hW
      · rcases aZ.1 hx with rfl | hx
        · exact hW2
        · cases hx)
  refine ⟨_, _, ?_, hG.1, hG.2⟩
  simp [execOp, e1, e2, e3, hrun]
end
end Go.AM
/-
 AM:maps:a slice's append;its store.
-/
namespace Go.AM
section
variable {P:Program}{N:Nat}{cx:Cx}{s:St}{W:List Nat}
variable {ty:TypeId}{pos:String}{after:Array Edge}{guard:Option (Nat×Bool)}{d:Nat}
theorem Qg (fr:List (Nat×G)):vD id fr=fr:=by unfold vD;simp
theorem Ro (k:ap):vU id k=k:=by unfold vU;simp
theorem EF.RJ {t e0:TypeId}{x y:Operand}{h z n bt:Nat}{k:ap}{q:IntKind}{kty tty:TypeId}{es:List ME}{sr:Option (Nat×Nat)}{gs:List G}{gy:G}{v0:Value}{f:Bool}{zv:Value}(hx:ev s x=some (.ks h z 1 gs.length)) (hy:ev s y=some gy) (hk:aq s.st h=some k)
  (hl:k.lp=some (.deep (fI q kty tty n es none))) (hsr:(z=iK∧gs=[]∧sr=none)∨(gs≠[]∧∃tt j e,sr=some (tt,j)∧vQ es tt=some e∧e.f[j]?=some (z,gs))) (hsrc:oT s.st 1 gy=some ([.val v0],1,f)) (hone:v0.oneCell'=true) (hety:e0=kty) (ht:P.underlying t=some (.slice e0)) (hi:(P.info? e0).map (fun i=>(i.zero,i.size,i.bytes))=some (some zv,1,bt))
  (hzs:zv.cells.size=1) (hlim:n+1≤maxLen) (ua:gs.length+1≤maxLen) (hbound:(gs.length+1)*bt≤140737488355328) (hW:W.contains h=true):
  bN P W s ⟨some d,.call ⟨.builtin .append,#[x,y],#[t,t]⟩,ty,pos,after,guard⟩
   (·={fr:=(d,.ks h n 1 (gs.length+1))::s.fr,st:=bD s.st h {k with lp:=some (.deep (fI q kty tty (n+1) es (some (sr,n,gs++[.val v0]))))},df:=s.df}):=by
 subst hety
 refine bN.of (s1:={fr:=s.fr,st:=bD s.st h {k with lp:=some (.deep (fI q e0 tty (n+1) es (some (sr,n,gs++[.val v0]))))},df:=s.df}) (g:=.ks h n 1 (gs.length+1)) rfl (fun _ h=>by cases h) ?_
 intro N cx μ a w hr
 obtain⟨i,hi1,lC⟩:=av.1 hi
 simp only[ja] at lC
 obtain⟨hz,hs1,hb1⟩:=lC
 have hv:∃b m,μ h=some (b,m)∧((a.eval x=.slice none 0 0∧gs=[])∨∃c cap cs,a.eval x=.slice (some ⟨c,0,none⟩) gs.length cap∧gs≠[]∧gs.length≤cap∧m.2[z]?=some (some (c,cap))∧w.heap[c]?=some (.cells cs e0 (0,0))∧cs.size=cap∧cap≤maxLen∧
    ∀(j:Nat) (g:G),gs[j]?=some g→∃v,cs[j]?=some v∧bG (bif k.fresh then eA (cx.O s.st μ) cx.base else cx.O s.st μ) w g v):=by
  obtain⟨b,m,hm⟩:∃b m,μ h=some (b,m):=by
   have:=hr.st.dc h k hk
   cases hm:μ h with
   | none=>
    rw[hm] at this
    obtain⟨_,h2⟩:=this
    rw[hl] at h2
    exact h2.1.elim
   | some bm=>exact⟨bm.1,bm.2,rfl⟩
  refine⟨b,m,hm,?_⟩
  have hM:=hr.xp hk hl hm
  have hv:=hr.ev hx
  generalize a.eval x=v at hv
  generalize hn0:gs.length=n0 at hv
  rcases hsr with ⟨h6,hgs,_⟩ | ⟨h0,tt,j,e,_,he,hf⟩
  ·subst hgs
   cases hv with
   | aH h=>cases h
   | g9 _ _ _ xa cap hi=>
    obtain⟨rfl,rfl⟩:=hi h6
    exact .inl ⟨rfl,rfl⟩
   | ks _ _ _ _ b' m' c kk cap hm' hkk hn' hc'=>
    exfalso
    rw[hm] at hm'
    cases hm'
    have hlt:=(al.1 hkk).1
    have h8:=hM.len
    exact Kj (i:=z) (by omega) h6
  ·obtain⟨he1,he2⟩:=wU he
   obtain⟨c1,cs1,h1,h2,h3,h4⟩:=hM.ot e he1
   obtain⟨u,h5,h6⟩:=h4 j _ hf
   rcases h6 with ⟨h6,_,_⟩ | ⟨h6,c',k',h7,h8⟩
   ·exact absurd h6 h0
   ·cases hv with
    | aH h=>cases h
    | g9 _ _ _ xa cap hi=>exact absurd (bp hn0) h0
    | ks _ _ _ _ b' m' c kk cap hm' hkk hn' hc'=>
     rw[hm] at hm'
     cases hm'
     rw[hkk] at h7
     cases h7
     obtain⟨cap',cs',q1,q2,q3,q4,q5,q6,q7,q8⟩:=h8
     refine .inr ⟨_,cap,cs',by rw[←hn0],h6,by omega,by rw[hkk,←hc',ed],q4,by omega,by omega,q8⟩
 obtain⟨b,m,hm,hv⟩:=hv
 have hM:=hr.xp hk hl hm
 have hlen:=hM.len
 obtain⟨b2,off2,c2,news,e1,e2,e3,e4,e5,e6⟩:∃(b2 off2 c2:Nat) (news:List Value),a.eval y=.slice (some ⟨b2,off2,none⟩) 1 c2∧news.length=1*1∧(∀(j:Nat) (u:Value),news[j]?=some u→w.cell? ⟨b2,off2+j,none⟩=some u)∧(∀u∈news,u.oneCell'=true)∧news=[v0]∧True:=by
  rcases hr.src hy hsrc rfl (fun g hg=>by simp at hg;subst hg;exact hone) with ⟨_,h2⟩ | ⟨b2,off2,c2,news,e1,e2,e3,e4,e5,e6⟩
  ·cases h2
  ·refine⟨b2,off2,c2,news,e1,e2,e3,e4,?_,trivial⟩
   obtain⟨u,h1,h2⟩:=e5 0 _ rfl
   cases h2
   match news,e2,h1 with
   | [u],_,h1=>cases h1;rfl
 subst e5
 have hcell:∀j u,[v0][j]?=some u→w.cell? ((⟨b2,off2,none⟩:Addr).add j)=some u:=fun j u hu=>by rw[Addr.iY];exact e3 j u hu
 have hown:∃v xs,a.eval x=v∧w.ownsRow 0 e0 1 v gs.length xs∧∀(j:Nat) (g:G),gs[j]?=some g→∃v,xs[j]?=some v∧bG (bif k.fresh then eA (cx.O s.st μ) cx.base else cx.O s.st μ) w g v:=by
  rcases hv with ⟨h1,h2⟩ | ⟨c,cap,cs,h1,h0,h2,h3,h4,h5,h6,h7⟩
  ·subst h2
   exact⟨_,[],h1,World.ownsRow_nil w 0 e0 1,fun j g hg=>by simp at hg⟩
  ·refine⟨_,cs.toList.take (gs.length*1),h1,⟨?_,.inr ⟨c,cap,cs,rfl,hZ _,h4,h2,h6,by omega,rfl⟩⟩,fun j g hg=>?_⟩
   ·have:cs.toList.length=cap:=by rw[Array.length_toList];exact h5
    rw[aX];omega
   ·obtain⟨v,hv,hrv⟩:=h7 j g hg
    have hj:j<gs.length*1:=by have:=(al.1 hg).1;omega
    exact⟨v,by rw[bf,if_pos hj,bq];exact hv,hrv⟩
 obtain⟨v,xs,h1,h2,h5⟩:=hown
 have law:=run_append_own (P:=P) w 0 t ty e0 i zv 1 bt ht hi1 hz hs1 hb1 hzs Nat.one_pos v gs.length xs h2 ⟨b2,off2,none⟩ 1 c2 [v0] e2 hcell e4 ua hbound (hZ _)
 rw[←h1,←e1] at law
 obtain⟨v',w',hrun,ho,hgrow,_⟩:=law
 have hblock:∃g cap,v'=.slice (some ⟨g,0,none⟩) (gs.length+1) cap∧((∃cap0,gs≠[]∧m.2[z]?=some (some (g,cap0))∧cap0=cap)∨(w.heap.size≤g∧∀c,c<w.heap.size→w'.heap[c]?=w.heap[c]?)):=by
  have hmm:gs.length+1≤9223372036854775807:=by unfold maxLen at ua;omega
  rcases hv with ⟨q1,q2⟩ | ⟨c,cap,cs,q1,q0,q2,q3,q4,q5,q6,q7⟩
  ·subst q2
   have hr2:=run_append_nil (P:=P) w t ty e0 i zv ht hi1 hz ⟨b2,off2,none⟩ 1 c2 [v0] (by rw[hs1];exact e2) hcell Nat.one_pos (by omega) (by rw[hb1];simp only[cX,bT] at hbound;omega)
   rw[q1,e1,hr2] at hrun
   injection hrun with r1 r2
   exact⟨_,_,r1.symm,.inr ⟨az _,fun c hc=>by rw[←r2];exact cJ w.drew _ c hc⟩⟩
  ·rcases h2.2 with ⟨q10,q11⟩ | ⟨g,cap',cur,q10,_,q12,q13,q14,q15,q16⟩
   ·rw[←h1,q1] at q10;cases q10
   ·rw[←h1,q1] at q10
    cases q10
    by_cases hroom:gs.length+1≤cap
    ·have hfit:gs.length*i.size+[v0].length≤cur.size:=by rw[hs1,q15];simp;omega
     have hr2:=run_append_room (P:=P) w t ty e0 i ht hi1 c gs.length cap cur q12 ⟨b2,off2,none⟩ 1 c2 [v0] (by rw[hs1];exact e2) hcell e4 hroom hfit
     rw[q1,e1,hr2] at hrun
     injection hrun with r1 r2
     exact⟨_,_,r1.symm,.inl ⟨cap,q0,q3,rfl⟩⟩
    ·have holds:=h2.cells (g:=c) (by rw[←h1,q1];rfl)
     have hr2:=run_append_grow (P:=P) w t ty e0 i zv ht hi1 hz ⟨c,0,none⟩ gs.length cap xs (by rw[hs1];exact h2.1) holds ⟨b2,off2,none⟩ 1 c2 [v0] (by rw[hs1];exact e2) hcell (by omega)
      (by omega) (growslice_fits (by omega) (by rw[hb1];exact hbound))
     rw[q1,e1,hr2] at hrun
     injection hrun with r1 r2
     exact⟨_,_,r1.symm,.inr ⟨az _,fun c hc=>by rw[←r2];exact cJ w.drew _ c hc⟩⟩
 obtain⟨g,cap,rfl,hg⟩:=hblock
 obtain⟨ho1,ho2⟩:=ho
 rcases ho2 with ⟨ho2,_⟩ | ⟨g',cap',cur,ho2,_,hcur,hnc,hcm,hcs,htake⟩
 ·cases ho2
 cases ho2
 have fo:∀(j:Nat) (v:Value),(xs++[v0])[j]?=some v→cur[j]?=some v:=by
  intro j v hv
  rw[←htake,bf] at hv
  split at hv
  ·rw[bq] at hv;exact hv
  ·cases hv
 have hxl:xs.length=gs.length:=by rw[h2.1,ed]
 have hsrcb:∀c,(a.eval x).ownBlock=some c→∃cap0,gs≠[]∧m.2[z]?=some (some (c,cap0)):=by
  intro c hc
  rcases hv with ⟨q1,q2⟩ | ⟨c',cap,cs,q1,q0,q2,q3,_⟩
  ·rw[q1] at hc;cases hc
  ·rw[q1] at hc;cases hc;exact⟨cap,q0,q3⟩
 have hstay:∀c,c<w.heap.size→(∀cap0,gs≠[]→m.2[z]?≠some (some (c,cap0)))→w'.heap[c]?=w.heap[c]?:=by
  intro c hc hn
  refine hgrow.block c hc fun e'=>?_
  obtain⟨cap0,h3,h4⟩:=hsrcb c e'.symm
  exact hn cap0 h3 h4
 have hblt:b<w.heap.size:=let ⟨_,_,q1,_⟩:=hM.heap;dt q1
 have hgb:g≠b:=by
  rcases hg with ⟨cap0,_,h3,_⟩ | ⟨h3,_⟩
  ·exact(hM.root z g cap0 h3).1
  ·omega
 have hgl:g<w'.heap.size:=dt hcur
 have hnew:(m.2++[some (g,cap)])[n]?=some (some (g,cap)):=by rw[←hlen];simp
 have hsrc0:gs≠[]→∃p e j,es[p]?=some e∧sr=some (e.t,j)∧e.f[j]?=some (z,gs)∧p6 e (j+1)=some z:=fun h0=>by
  rcases hsr with ⟨_,h,_⟩ | ⟨_,tt,j,e,h1,he,hf⟩
  ·exact absurd h h0
  ·obtain⟨he1,he2⟩:=wU he
   obtain⟨p,hp⟩:=bR he1
   exact⟨p,e,j,hp,by rw[h1,he2],hf,wo hf h0⟩
 have hback:∀{e:ME}{j x c' k':Nat},e∈es→p6 e j=some x→(m.2++[some (g,cap)])[x]?=some (some (c',k'))→m.2[x]?=some (some (c',k')):=by
  intro e j x c' k' he hx' hc'
  obtain⟨c1,k1,h1⟩:=hM.has he hx'
  rw[nw h1] at hc'
  cases hc'
  exact h1
 have hb0:=hr.st.dc h k hk
 rw[hm] at hb0
 obtain⟨_,p2,p3,p4⟩:=(aQ.deep hl).1 hb0
 have hG:=hr.grow (W:=W) (w':=w') (l':=[some (g,cap)]) (rm:=[]) (rn:=id) (k':={k with lp:=some (.deep (fI q e0 tty (n+1) es (some (sr,n,gs++[.val v0]))))}) (st':=bD s.st h {k with lp:=some (.deep (fI q e0 tty (n+1) es (some (sr,n,gs++[.val v0]))))})
  hk hm (fg hk) (fun x k1 hxh h1=>by
   rw[eO hxh] at h1
   exact⟨by simp,k1,h1,(Ro k1).symm⟩) (fun c' n' hc'=>by
   simp at hc'
   obtain⟨rfl,rfl⟩:=hc'
   rcases hg with ⟨cap0,_,h3,_⟩ | ⟨h3,_⟩
   ·exact .inl ⟨cap0,ar h3⟩
   ·exact .inr (.inl ⟨h3,hgl⟩)) (by simp)
  (fun O base w g v hv=>hv.l9 fun y _=>by
   by_cases e:y=h
   ·subst e;rw[bz,hm];exact .inr ⟨b,m.1,m.2,_,rfl,rfl⟩
   ·rw[aT e];exact .inl rfl)
  (fun g _=>rfl) hgrow.size (fun x hxl hxn=>hstay x hxl fun cap0 _ h3=>hxn (.lq h3)) hgrow.os hgrow.tape hgrow.output id (fun O' hO=>by
   refine(aQ.deep (d:=fI q e0 tty (n+1) es (some (sr,n,gs++[.val v0]))) rfl).2 ⟨?_,p2,p3,p4⟩
   have hO2:∀x,x<w.heap.size→¬(bif k.fresh then eA (cx.O s.st μ) cx.base else cx.O s.st μ) x→¬(bif k.fresh then eA O' cx.base else O') x:=by
    intro x hx hn ho
    cases hkf:k.fresh with
    | false=>rw[hkf] at hn ho;exact hn (hO x hx ho)
    | true=>rw[hkf] at hn ho;exact hn (ho.imp id (hO x hx))
   have hkp:Kept (bif k.fresh then eA (cx.O s.st μ) cx.base else cx.O s.st μ) w w':=by
    refine⟨hgrow.size,fun b' hb' hn=>hstay b' hb' fun cap0 _ h3=>hn ?_⟩
    have hown:cx.O s.st μ b':=.inr ⟨h,k,b,m,hk,hm,.lq h3⟩
    cases k.fresh with
    | false=>exact hown
    | true=>exact .inr hown
   have hoth:∀{i:Nat}{e':ME}{j' x' c' k':Nat},es[i]?=some e'→p6 e' j'=some x'→m.2[x']?=some (some (c',k'))→(∀p e j,es[p]?=some e→e.f[j]?=some (z,gs)→sr=some (e.t,j)→i≠p∨j'≠j+1)→w'.heap[c']?=w.heap[c']?:=by
    intro i e' j' x' c' k' q1 q2 q3 q4
    refine hstay c' (hM.root x' c' k' q3).2 fun cap0 h0 h3=>?_
    obtain⟨p,e,j,hp,hs,hf,hit⟩:=hsrc0 h0
    obtain⟨r1,r2⟩:=hM.inj i p e' e j' (j+1) x' z c' k' cap0 q1 hp q2 hit q3 h3
    rcases q4 p e j hp hf hs with q4 | q4
    ·exact q4 r1
    ·exact q4 r2
   refine {len:=by show(m.2++[some (g,cap)]).length=n+1;simp[hlen],tW:=hlim,vR:=hM.vR,heap:=?_,root:=fun i c' k' e=>?_,ot:=fun e' he'=>?_,inj:=fun i i' e e' j j' x x' c' k1 k1' q1 q2 q3 q4 q5 q6=>hM.inj i i' e e' j j' x x' c' k1 k1' q1 q2 q3 q4 (hback (ar q1) q3 q5) (hback (ar q2) q4 q6),yk:=fun sr' x gs' e'=>?_}
   ·obtain⟨ms,cl,g1,g2⟩:=hM.heap
    refine⟨ms,cl,(hstay b hblt fun cap0 _ h3=>(hM.root z b cap0 h3).1 rfl).trans g1,?_⟩
    rw[g2]
    refine eB fun e he=>?_
    obtain⟨c',cs',h3,_⟩:=hM.ot e he
    have h3':(m.2++[some (g,cap)])[e.t]?=some (some (c',cs'.size)):=nw h3
    simp only[lM,h3,h3']
   ·show c'≠b∧c'<_
    rw[a9] at e
    split at e
    ·exact⟨(hM.root i c' k' e).1,bW (hM.root i c' k' e).2 hgrow.size⟩
    ·have:=ar e
     simp at this
     rw[this.1]
     exact⟨hgb,hgl⟩
   ·obtain⟨i',hi'⟩:=bR he'
    obtain⟨c',cs',h3,h4,h5',h6⟩:=hM.ot e' he'
    refine⟨c',cs',nw h3,(hoth hi' (j':=0) rfl h3 (fun _ _ _ _ _ _=>.inr (by omega))).trans h4,h5',fun j' p' hp'=>?_⟩
    obtain⟨u,h7,h8⟩:=h6 j' p' hp'
    refine⟨u,h7,?_⟩
    rcases h8 with h8 | ⟨r0,c1,k1,r1,r2⟩
    ·exact .inl h8
    ·by_cases hsame:∃p e j,es[p]?=some e∧e.f[j]?=some (z,gs)∧sr=some (e.t,j)∧i'=p∧j'=j
     ·obtain⟨p,e,j,hp,hf,_,rfl,rfl⟩:=hsame
      rw[hp] at hi'
      cases hi'
      rw[hf] at hp'
      cases hp'
      obtain⟨cap1,cs1,s1,s2,s3,s4,s5,s6,s7,s8⟩:=r2
      rcases hg with ⟨cap0,_,h3',h3''⟩ | ⟨_,h3'⟩
      ·
       rw[h3'] at r1
       cases r1
       refine .inr ⟨r0,g,k1,nw h3',cap1,cur,s1,s2,s3,hcur,by omega,by omega,s7,fun i g0 hg0=>?_⟩
       obtain⟨v,hv1,hv2⟩:=h5 i g0 hg0
       refine⟨v,fo i v ?_,hv2.mono hkp hO2⟩
       rw[cH (al.1 hv1).1]
       exact hv1
      ·
       have hst:w'.heap[c1]?=w.heap[c1]?:=h3' c1 (hM.root z c1 k1 r1).2
       exact(pf.mono (.inr ⟨r0,c1,k1,r1,cap1,cs1,s1,s2,s3,s4,s5,s6,s7,s8⟩) hkp hO2 fun c k e=>by rw[r1] at e;cases e;exact hst).ext
     ·exact(pf.mono (.inr ⟨r0,c1,k1,r1,r2⟩) hkp hO2 fun c k e=>by
       rw[r1] at e;cases e
       refine hoth hi' (show p6 e' (j'+1)=some p'.1 from wo hp' r0) r1 fun p e j h1 h2 h3=>?_
       by_cases q1:i'=p
       ·exact .inr fun q2=>hsame ⟨p,e,j,h1,h2,h3,q1,by omega⟩
       ·exact .inl q1).ext
   ·cases e'
    refine⟨by simp,⟨g,cap,cur,hnew,hcur,by omega,hcm,by simp;omega,fun i g0 hg0=>?_⟩,fun e' j' x' c' k1 k1' q1 q2 q3 q4=>?_⟩
    ·rw[a9] at hg0
     split at hg0
     ·obtain⟨v,hv1,hv2⟩:=h5 i g0 hg0
      refine⟨v,fo i v ?_,hv2.mono hkp hO2⟩
      rw[cH (al.1 hv1).1]
      exact hv1
     ·rename_i hi0
      have:i-gs.length=0:=by
       cases hd:i-gs.length with
       | zero=>rfl
       | succ d=>rw[hd] at hg0;simp at hg0
      rw[this] at hg0
      cases hg0
      refine⟨v0,fo i v0 ?_,.val _⟩
      rw[cV (by omega),show i-xs.length=0 by omega];rfl
    ·have q3:(m.2++[some (g,cap)])[n]?=_:=q3
     rw[hnew] at q3
     cases q3
     have q4:=hback q1 q2 q4
     obtain⟨i1,hi1⟩:=bR q1
     rcases hg with ⟨cap0,h0,h3,_⟩ | ⟨h3,_⟩
     ·obtain⟨p,e,j,hp,hs,hf,hit⟩:=hsrc0 h0
      obtain⟨r1,r2⟩:=hM.inj i1 p e' e j' (j+1) x' z g k1' cap0 hi1 hp q2 hit q4 h3
      subst r1
      rw[hp] at hi1
      cases hi1
      exact⟨j,hs,r2⟩
     ·have:=(hM.root x' g k1' q4).2
      omega) (fun x hx=>by
   rcases aZ.1 hx with rfl | hx
   ·exact hW
   ·cases hx)
 rw[Qg] at hG
 refine⟨_,_,w',?_,hG.1,.ks h n 1 (gs.length+1) b _ g cap cap (bz _ _ _) hnew hnc (ed _),hG.2⟩
 simp only[execOp,resolve,invoke,builtin,Sem.run_bind,Sem.run_pure,Result.andThen_ok,jW,aJ,iB,hrun]
def wZ (es:List ME) (t j:Nat) (p:Nat×List G):List ME:=es.map fun e=>bif Nat.beq e.t t then {e with f:=e.f.set j p} else e
theorem GR {es:List ME}{t j i:Nat}{p:Nat×List G}{e':ME}(h:(wZ es t j p)[i]?=some e'):∃e,es[i]?=some e∧((e.t=t∧e'={e with f:=e.f.set j p})∨(e.t≠t∧e'=e)):=by
 unfold wZ at h
 rw[ay] at h
 cases he:es[i]? with
 | none=>rw[he] at h;cases h
 | some e=>
  rw[he] at h
  cases h
  refine⟨e,rfl,?_⟩
  cases hb:Nat.beq e.t t with
  | true=>exact .inl ⟨aa hb,by simp[hb]⟩
  | false=>exact .inr ⟨(fun e'=>by subst e';rw[aI] at hb;cases hb),by simp[hb]⟩
theorem EF.SE {t:TypeId}{x y:Operand}{h tt j z n:Nat}{sr:Option (Nat×Nat)}{k:ap}{q:IntKind}{kty tty:TypeId}{es:List ME}{e:ME}{gs:List G}(hx:ev s x=some (.kp h tt j)) (hy:ev s y=some (.ks h z 1 gs.length)) (hk:aq s.st h=some k)
  (hl:k.lp=some (.deep (fI q kty tty n es (some (sr,z,gs))))) (hsr:sr=none∨sr=some (tt,j)) (he:vQ es tt=some e) (hj:j<e.f.length) (hsz:∀w,(sizeOf t).run P w=.ok 1 w) (hW:W.contains h=true):
  bN P W s ⟨none,.store t x y,ty,pos,after,guard⟩ (·={fr:=s.fr,st:=bD s.st h {k with lp:=some (.deep (fI q kty tty n (wZ es tt j (z,gs)) none))},df:=s.df}):=by
 refine bN.skip rfl (fun _ h=>by cases h) ?_
 intro N cx μ a w hr
 obtain⟨b,m,c,n',e1,hm,hc⟩:=hr.kp hx
 have hM:=hr.xp hk hl hm
 obtain⟨he1,he2⟩:=wU he
 obtain⟨c',cs,h1,h2,h3,h4⟩:=hM.ot e he1
 rw[he2,hc] at h1
 cases h1
 obtain⟨z0,⟨c2,k2,cs2,z1,z2,z3,z4,z5,z6⟩,z7'⟩:=hM.yk sr z gs rfl
 have z7:∀(e:ME) (j' x' c k k':Nat),e∈es→p6 e j'=some x'→m.2[z]?=some (some (c,k))→m.2[x']?=some (some (c,k'))→e.t=tt∧j'=j+1:=fun e j' x' c k k' q1 q2 q3 q4=>by
  obtain⟨j0,r1,r2⟩:=z7' e j' x' c k k' q1 q2 q3 q4
  rcases hsr with hsr | hsr
  ·rw[hsr] at r1;cases r1
  ·rw[hsr] at r1;cases r1;exact⟨rfl,r2⟩
 have hval:∃cap,a.eval y=.slice (some ⟨c2,0,none⟩) gs.length cap∧gs.length≤cap∧cap=k2:=by
  have hv:=hr.ev hy
  generalize a.eval y=v at hv
  generalize hn0:gs.length=n0 at hv
  cases hv with
  | aH h=>cases h
  | g9 _ _ _ xa cap hi=>exact absurd (bp hn0) z0
  | ks _ _ _ _ b' m' c3 kk cap hm' hkk hn' hc'=>
   rw[hm] at hm'
   cases hm'
   rw[z1] at hkk
   cases hkk
   exact⟨cap,by first | rfl | rw[hn0],by omega,by omega⟩
 obtain⟨cap,v1,v2,rfl⟩:=hval
 have hlen:j<cs.size:=by omega
 have hrun:=run_storeCells_at P c j tty [a.eval y] 0 cs w h2 (by simp;omega) (fun v hv=>by simp at hv;subst hv;rw[v1];rfl)
 simp only[dq,bA,cX,bT] at hrun
 have hcells:(a.eval y).cells=#[a.eval y]:=ma (by rw[v1];rfl)
 have hset:(cs.toList.take j++[a.eval y]++cs.toList.drop (j+1)).toArray=cs.setIfInBounds j (a.eval y):=by
  apply Array.ext'
  rw[jY,cL,if_pos (by rw[Array.length_toList];omega)]
  simp
 rw[hset] at hrun
 obtain⟨p,hp⟩:=bR he1
 refine⟨μ,w.setRow c (cs.setIfInBounds j (a.eval y)),?_,?_⟩
 ·simp only[execOp,Instr.storeAt,Instr.sureAddr,e1,storeVar,hsz,Sem.run_bind,Sem.run_pure,Result.andThen_ok]
  rw[if_neg (by rw[hcells];simp)]
  rw[hcells]
  show((storeCells ⟨c,j,none⟩ [a.eval y] 0).run P w).andThen _=_
  rw[hrun]
  rfl
 ·refine hr.rewrite (k':={k with lp:=some (.deep (fI q kty tty n (wZ es tt j (z,gs)) none))}) hk hm (.lq hc) (setRow_size _ _ _) (fun b' hb'=>setRow_other w c b' _ hb') rfl rfl rfl id (fun O' hO=>?_) hW
  have hb0:=hr.st.dc h k hk
  rw[hm] at hb0
  obtain⟨_,p2,p3,p4⟩:=(aQ.deep hl).1 hb0
  refine(aQ.deep (d:=fI q kty tty n (wZ es tt j (z,gs)) none) rfl).2 ⟨?_,p2,p3,p4⟩
  have hO2:∀x,x<w.heap.size→¬(bif k.fresh then eA (cx.O s.st μ) cx.base else cx.O s.st μ) x→¬(bif k.fresh then eA O' cx.base else O') x:=by
   intro x hx hn ho
   cases hkf:k.fresh with
   | false=>rw[hkf] at hn ho;exact hn ((hO x).2 ho)
   | true=>rw[hkf] at hn ho;exact hn (ho.imp id (hO x).2)
  have hkp:Kept (bif k.fresh then eA (cx.O s.st μ) cx.base else cx.O s.st μ) w (w.setRow c (cs.setIfInBounds j (a.eval y))):=by
   refine⟨by rw[setRow_size];exact az _,fun b' _ hn=>setRow_other w c b' _ fun e=>hn ?_⟩
   subst e
   have:cx.O s.st μ b':=.inr ⟨h,k,b,m,hk,hm,.lq hc⟩
   cases k.fresh with
   | false=>exact this
   | true=>exact .inr this
  have hthe:∀{i:Nat}{e':ME},es[i]?=some e'→e'.t=tt→i=p∧e'=e:=by
   intro i e' q1 q2
   have:=(hM.inj i p e' e 0 0 tt tt c cs.size cs.size q1 hp (by rw[p6,q2]) (by rw[p6,he2]) hc hc).1
   subst this
   rw[hp] at q1
   cases q1
   exact⟨rfl,rfl⟩
  have hoth:∀{i:Nat}{e':ME}{j' x' c' k':Nat},es[i]?=some e'→p6 e' j'=some x'→m.2[x']?=some (some (c',k'))→(i≠p∨j'≠0)→(w.setRow c (cs.setIfInBounds j (a.eval y))).heap[c']?=w.heap[c']?:=by
   intro i e' j' x' c' k' q1 q2 q3 q4
   refine setRow_other w c c' _ fun e3=>?_
   subst e3
   obtain⟨r1,r2⟩:=hM.inj i p e' e j' 0 x' tt c' k' cs.size q1 hp q2 (by rw[p6,he2]) q3 hc
   rcases q4 with q4 | q4
   ·exact q4 r1
   ·exact q4 r2
  have hc2:c2≠c:=fun e3=>by
   subst e3
   have:=(z7 e 0 tt c2 cap cs.size he1 (by rw[p6,he2]) z1 hc).2
   omega
  have hnewi:∀{i:Nat}{e':ME}{j' x':Nat},(wZ es tt j (z,gs))[i]?=some e'→p6 e' j'=some x'→(i=p∧j'=j+1∧x'=z)∨∃e0,es[i]?=some e0∧p6 e0 j'=some x'∧(i≠p∨j'≠j+1):=by
   intro i e' j' x' q1 q2
   obtain⟨e0,r1,r2⟩:=GR q1
   rcases r2 with ⟨r2,rfl⟩ | ⟨r2,rfl⟩
   ·obtain⟨rfl,rfl⟩:=hthe r1 r2
    cases j' with
    | zero=>exact .inr ⟨_,r1,q2,.inr (by omega)⟩
    | succ j'=>
     obtain⟨gs',s1,s2⟩:=u0 q2
     dsimp only at s1
     by_cases hjj:j'=j
     ·subst hjj
      rw[cG hj] at s1
      cases s1
      exact .inl ⟨rfl,rfl,rfl⟩
     ·rw[eG (fun h=>hjj h.symm)] at s1
      exact .inr ⟨_,r1,wo s1 s2,.inr (by omega)⟩
   ·refine .inr ⟨_,r1,q2,.inl fun e3=>r2 ?_⟩
    subst e3
    rw[hp] at r1
    cases r1
    exact he2
  refine {len:=hM.len,tW:=hM.tW,vR:=hM.vR,heap:=?_,root:=fun i c k e=>⟨(hM.root i c k e).1,by rw[setRow_size];exact(hM.root i c k e).2⟩,ot:=fun e' he'=>?_,inj:=fun i i' e3 e3' j1 j1' x x' c' k1 k1' q1 q2 q3 q4 q5 q6=>?_,yk:=fun sr x gs e=>by cases e}
  ·obtain⟨ms,cl,g1,g2⟩:=hM.heap
   refine⟨ms,cl,(setRow_other w c b _ fun e=>(hM.root tt c _ hc).1 e.symm).trans g1,?_⟩
   rw[g2]
   unfold wZ
   rw[fR]
   refine eB fun e0 _=>?_
   simp only[Function.comp]
   cases Nat.beq e0.t tt <;> rfl
  ·obtain⟨i,hi⟩:=bR he'
   obtain⟨e0,r1,r2⟩:=GR hi
   obtain⟨c0,cs0,s1,s2,s3,s4⟩:=hM.ot e0 (ar r1)
   have stay:∀{j':Nat}{p':Nat×List G}{u:Value},e0.f[j']?=some p'→pf (bif k.fresh then eA (cx.O s.st μ) cx.base else cx.O s.st μ) w kty m p' u→pf (bif k.fresh then eA O' cx.base else O') (w.setRow c (cs.setIfInBounds j (a.eval y))) kty m p' u:=by
    intro j' p' u t1 t2
    rcases t2 with t2 | ⟨t0,c1,k1,t3,t4⟩
    ·exact .inl t2
    ·exact pf.mono (.inr ⟨t0,c1,k1,t3,t4⟩) hkp hO2 fun c k e=>by rw[t3] at e;cases e;exact hoth r1 (show p6 e0 (j'+1)=some p'.1 from wo t1 t0) t3 (.inr (by omega))
   rcases r2 with ⟨r2,rfl⟩ | ⟨r2,rfl⟩
   ·obtain⟨rfl,rfl⟩:=hthe r1 r2
    rw[r2,hc] at s1
    simp only[fQ,ja] at s1
    obtain⟨s1,_⟩:=s1
    subst s1
    rw[h2] at s2
    simp only[fQ,Obj.cells.injEq,and_true] at s2
    subst s2
    refine⟨c,cs.setIfInBounds j (a.eval y),by rw[r2,Array.size_setIfInBounds];exact hc,fY h2,by simpa using s3,fun j' p' hp'=>?_⟩
    dsimp only at hp'
    by_cases hjj:j'=j
    ·subst hjj
     rw[cG hj] at hp'
     cases hp'
     refine⟨a.eval y,by rw[dF hlen],.inr ⟨z0,c2,cap,z1,cap,cs2,v1,v2,ed _,(setRow_other w c c2 _ hc2).trans z2,z3,by omega,(ed _).symm,fun i g hg=>let ⟨v,hv,hrv⟩:=z6 i g hg;⟨v,hv,hrv.mono hkp hO2⟩⟩⟩
    ·rw[eG (fun h=>hjj h.symm)] at hp'
     obtain⟨u,t1,t2⟩:=s4 j' p' hp'
     exact⟨u,by rw[dz (fun h=>hjj h.symm)];exact t1,stay hp' t2⟩
   ·have hip:i≠p:=fun e3=>r2 (by subst e3;rw[hp] at r1;cases r1;exact he2)
    refine⟨c0,cs0,s1,(hoth r1 (j':=0) rfl s1 (.inl hip)).trans s2,s3,fun j' p' hp'=>?_⟩
    obtain⟨u,t1,t2⟩:=s4 j' p' hp'
    exact⟨u,t1,stay hp' t2⟩
  ·rcases hnewi q1 q3 with ⟨r1,r2,r3⟩ | ⟨e0,r1,r2,r3⟩ <;> rcases hnewi q2 q4 with ⟨t1,t2,t3⟩ | ⟨e0',t1,t2,t3⟩
   ·exact⟨r1.trans t1.symm,r2.trans t2.symm⟩
   ·exfalso
    subst r3
    obtain⟨w1,w2⟩:=z7 e0' j1' x' c' k1 k1' (ar t1) t2 q5 q6
    have:=(hthe t1 w1).1
    rcases t3 with t3 | t3
    ·exact t3 this
    ·exact t3 w2
   ·exfalso
    subst t3
    obtain⟨w1,w2⟩:=z7 e0 j1 x c' k1' k1 (ar r1) r2 q6 q5
    have:=(hthe r1 w1).1
    rcases r3 with r3 | r3
    ·exact r3 this
    ·exact r3 w2
   ·exact hM.inj i i' e0 e0' j1 j1' x x' c' k1 k1' r1 t1 r2 t2 q5 q6
variable {dst:Option Tmp}
theorem YL.Qy {t:TypeId}{x:Operand}{h z off:Nat}{k:ap}{q:IntKind}{kty tty:TypeId}{n:Nat}{es:List ME}{pd:Option (Option (Nat×Nat)×Nat×List G)}{gs:List G}{u:Value}(hx:ev s x=some (.kp h z off)) (hk:aq s.st h=some k) (hl:k.lp=some (.deep (fI q kty tty n es pd)))
  (hrow:gD z es=some gs) (hg:gs[off]?=some (.val u)) (hag:∀w,(isAgg t).run P w=.ok false w) (hW:W.contains h=false):fB P W s ⟨dst,.load t x,ty,pos,after,guard⟩ (.val u):=fun N cx μ a w hrel=>by
 obtain⟨b,m,c,n',e1,hm,hc⟩:=hrel.kp hx
 have hM:=hrel.xp hk hl hm
 obtain⟨c',k',cs,bP,h1,h2,h3⟩:=(fI q kty tty n es pd).KN hM hrow
 rw[hc] at h1
 cases h1
 obtain⟨v,h5,h6⟩:=h3 off _ hg
 cases h6
 refine⟨u,.aH (.val _),fun w' hs hw'=>?_⟩
 have hb:=hrel.wI hk hm hW ⟨hs,hw'⟩ (.lq hc)
 rw[h2] at hb
 have hcell:w'.cell? ⟨c,off,none⟩=some u:=by rw[cell_of hb,h5]
 simp[execOp,e1,Instr.loadAt,Instr.sureAddr,loadVar,hag,hcell]
end
end Go.AM
