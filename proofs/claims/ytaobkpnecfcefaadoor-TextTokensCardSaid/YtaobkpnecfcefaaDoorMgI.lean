/-
  AM, fourth part: maps.
-/
import Derived.Test.YtaobkpnecfcefaaDoorMgF
set_option linter.unusedSectionVars false
set_option linter.unusedSimpArgs false
set_option linter.unusedVariables false
/-
 AM:maps:keys that are structs of two numbers.
-/
namespace Go.AM
section
variable {P:Program}
def key2 (q:IntKind) (k:Int×Int):Value:=.agg #[.int q k.1,.int q k.2]
structure Key2 (P:Program) (kt:TypeId) (q:IntKind):Prop where
 ex : ∃ f0 f1 : Field, P.underlying kt = some (.struct #[f0, f1]) ∧ f0.name ≠ "_" ∧ f1.name ≠ "_" ∧ f0.offset = 0 ∧ f1.offset = 1 ∧ P.underlying f0.type = some (.int q) ∧ P.underlying f1.type = some (.int q)
 no:P.stoodInHeld kt=false
theorem run_equal2' {kt:TypeId}{q:IntKind}(K:Key2 P kt q) (k k':Int×Int) (d:Nat) (w:World):(Op.equalIn (d+2) kt (key2 q k) (key2 q k')).run P w=.ok (decide (k=k')) w:=by
 obtain⟨f0,f1,h1,h2,h3,h4,h5,h6,h7⟩:=K.ex
 have hno:=K.no
 have p0:∀k:Int×Int,(part f0.type #[.int q k.1,.int q k.2] 0).run P w=.ok (.int q k.1) w:=fun k=>run_cellPart (agg_int h6) rfl w
 have p1:∀k:Int×Int,(part f1.type #[.int q k.1,.int q k.2] 1).run P w=.ok (.int q k.2) w:=fun k=>run_cellPart (agg_int h7) rfl w
 rw[Op.equalIn]
 unfold key2
 simp only[Sem.run_bind,run_underlying h1,Result.andThen_ok]
 have hp:Sem.run P (Sem.program Sem.pure) w=.ok P w:=rfl
 rw[show program=Sem.program Sem.pure from rfl,hp]
 simp only[Result.andThen_ok,hno,Bool.false_eq_true,if_false]
 rw[←Array.forIn_toList]
 simp only[List.forIn_cons,List.forIn_nil,ne_eq,h2,h3,not_false_eq_true,if_true,h4,h5,Sem.run_bind,p0,p1,Result.andThen_ok,run_eqInt h6,run_eqInt h7]
 by_cases e1:k.1=k'.1
 ·by_cases e2:k.2=k'.2
  ·simp[e1,e2,Prod.ext_iff,p1 k',run_eqInt h7]
  ·have p2:=p1 k
   rw[e1] at p2
   simp[e1,e2,Prod.ext_iff,p2,p1 k',run_eqInt h7]
 ·simp[e1,Prod.ext_iff]
theorem run_equal2 {kt:TypeId}{q:IntKind}(K:Key2 P kt q) (k k':Int×Int) (w:World):(Op.equal kt (key2 q k) (key2 q k')).run P w=.ok (decide (k=k')) w:=run_equal2' K k k' 9998 w
theorem run_check2 {kt:TypeId}{q:IntKind}(K:Key2 P kt q) (em:Bool) (k:Int×Int) (w:World):(Instr.checkKey em 10000 kt (key2 q k)).run P w=.ok () w:=by
 obtain⟨f0,f1,h1,h2,h3,h4,h5,h6,h7⟩:=K.ex
 have p0:=run_cellPart (P:=P) (agg_int h6) (cs:=#[.int q k.1,.int q k.2]) (i:=0) (v:=.int q k.1) rfl w
 have p1:=run_cellPart (P:=P) (agg_int h7) (cs:=#[.int q k.1,.int q k.2]) (i:=1) (v:=.int q k.2) rfl w
 have c0:∀d a,(Instr.checkKey em (d+1) f0.type (.int q a)).run P w=.ok () w:=fun d a=>by simp[Instr.checkKey,run_underlying h6]
 have c1:∀d a,(Instr.checkKey em (d+1) f1.type (.int q a)).run P w=.ok () w:=fun d a=>by simp[Instr.checkKey,run_underlying h7]
 have key:∀d,(Instr.checkKey em (d+2) kt (key2 q k)).run P w=.ok () w:=fun d=>by
  rw[Instr.checkKey]
  unfold key2
  simp only[Sem.run_bind,run_underlying h1,Result.andThen_ok]
  rw[←Array.forIn_toList]
  simp only[List.forIn_cons,List.forIn_nil,ne_eq,h2,h3,not_false_eq_true,if_true,h4,h5,Sem.run_bind,p0,p1,Result.andThen_ok,c0,c1,Sem.run_pure]
 exact key 9998
def fnd (q:IntKind) (k:Int×Int):List ((Int×Int)×Value)→Nat→Option (Nat×Value)
 | [],_=>none
 | e::r,i=>if k=e.1 then some (i,e.2) else fnd q k r (i+1)
theorem run_find2 {kt:TypeId}{q:IntKind}(K:Key2 P kt q) (k:Int×Int) (w:World):∀(es:List MapEntry) (l:List ((Int×Int)×Value)) (i:Nat),es.map (fun e=>(e.key,e.val))=l.map (fun e=>(key2 q e.1,e.2))→
  (Instr.findAsking kt (key2 q k) es i).run P w=.ok (fnd q k l i) w
 | [],[],i,h=>by simp[Instr.findAsking,fnd]
 | [],_::_,i,h=>by simp at h
 | _::_,[],i,h=>by simp at h
 | e::es,x::l,i,h=>by
  simp only[List.map_cons,List.cons.injEq,Prod.mk.injEq] at h
  obtain⟨⟨h1,h2⟩,h3⟩:=h
  have ih:=run_find2 K k w es l (i+1) h3
  simp only[Instr.findAsking,h1,Sem.run_bind,run_equal2 K,Result.andThen_ok,fnd,decide_eq_true_eq]
  by_cases he:k=x.1
  ·simp[he,h2]
  ·simp[he,ih]
theorem run_findKey2 {kt:TypeId}{q:IntKind}(K:Key2 P kt q) (k:Int×Int) (w:World) (es:List MapEntry) (l:List ((Int×Int)×Value)) (h:es.map (fun e=>(e.key,e.val))=l.map (fun e=>(key2 q e.1,e.2))):
  (Instr.findKey kt (key2 q k) es).run P w=.ok (fnd q k l 0) w:=by
 obtain⟨f0,f1,h1,_⟩:=K.ex
 have:=run_find2 K k w es l 0 h
 unfold Instr.findKey
 simp only[Sem.run_bind,run_underlying h1,Result.andThen_ok]
 cases es with
 | nil=>
  cases l with
  | nil=>simp[Instr.findNow,fnd]
  | cons=>simp at h
 | cons e es=>
  have:Instr.findNow (.struct #[f0,f1]) (key2 q k) (e::es) 0=none:=by
   simp[Instr.findNow,Instr.sameNow,key2]
  rw[this]
  assumption
end
end Go.AM
/-
 AM:maps from two numbers to pointers:the structs that they lead to are of slices;all of it belongs to the map.
-/
namespace Go.AM
structure ME where
 key:Int×Int
 t:Nat
 f:List (Nat×List G)
def SlAt (O:Nat→Prop) (w:World) (kty:TypeId) (m:Mm) (p:Nat×List G) (u:Value):Prop:=
 (p.2=[]∧p.1=bigI∧u=.slice none 0 0)∨(p.2≠[]∧∃c k,m.2[p.1]?=some (some (c,k))∧RowAt O w kty 1 p.2.length p.2 u (some (c,k)))
def itmF:List (Nat×List G)→Nat→Option Nat
 | [],_=>none
 | (x,gs)::_,0=>match gs with | []=>none | _::_=>some x
 | _::r,j+1=>itmF r j
def itm (e:ME):Nat→Option Nat
 | 0=>some e.t
 | j+1=>itmF e.f j
theorem itmF_some:∀{f:List (Nat×List G)}{j x:Nat},itmF f j=some x→∃gs,f[j]?=some (x,gs)∧gs≠[]
 | [],j,x,h=>by cases h
 | (y,gs)::r,0,x,h=>by
  cases gs with
  | nil=>cases h
  | cons a b=>cases h;exact⟨_,rfl,by simp⟩
 | _::r,j+1,x,h=>itmF_some (f:=r) h
theorem itmF_of:∀{f:List (Nat×List G)}{j x:Nat}{gs:List G},f[j]?=some (x,gs)→gs≠[]→itmF f j=some x
 | [],j,x,gs,h,_=>by simp at h
 | (y,gs')::r,0,x,gs,h,hn=>by
  simp at h
  obtain⟨rfl,rfl⟩:=h
  cases gs' with
  | nil=>exact absurd rfl hn
  | cons a b=>rfl
 | _::r,j+1,x,gs,h,hn=>itmF_of (f:=r) (by simpa using h) hn
def ptrAt (m:Mm) (t:Nat):Value:=match m.2[t]? with
 | some (some (c,_))=>.pointer (some ⟨c,0,none⟩)
 | _=>.pointer none
structure MapAt (q:IntKind) (kty tty:TypeId) (n:Nat) (es:List ME) (pd:Option (Option (Nat×Nat)×Nat×List G)) (O:Nat→Prop) (w:World) (b:Nat) (m:Mm):Prop where
 len:m.2.length=n
 lim:n≤maxLen
 siz:m.1=0
 heap:∃ms clock,w.heap[b]?=some (.map ms clock)∧ms.toList.map (fun e=>(e.key,e.val))=es.map fun e=>(key2 q e.key,ptrAt m e.t)
 root:∀(i c k:Nat),m.2[i]?=some (some (c,k))→c≠b∧c<w.heap.size
 tch:∀e∈es,∃c cs,m.2[e.t]?=some (some (c,cs.size))∧w.heap[c]?=some (.cells cs tty (0,0))∧e.f.length≤cs.size∧∀(j:Nat) (p:Nat×List G),e.f[j]?=some p→∃u,cs[j]?=some u∧SlAt O w kty m p u
 inj:∀(i i':Nat) (e e':ME) (j j' x x' c k k':Nat),es[i]?=some e→es[i']?=some e'→itm e j=some x→itm e' j'=some x'→m.2[x]?=some (some (c,k))→m.2[x']?=some (some (c,k'))→i=i'∧j=j'
 pnd:∀(sr:Option (Nat×Nat)) (x:Nat) (gs:List G),pd=some (sr,x,gs)→gs≠[]∧(∃c k cs,m.2[x]?=some (some (c,k))∧w.heap[c]?=some (.cells cs kty (0,0))∧cs.size=k∧k≤maxLen∧gs.length≤k∧∀(i:Nat) (g:G),gs[i]?=some g→∃v,cs[i]?=some v∧RepI O w g v)∧
  ∀(e:ME) (j' x' c k k':Nat),e∈es→itm e j'=some x'→m.2[x]?=some (some (c,k))→m.2[x']?=some (some (c,k'))→∃j,sr=some (e.t,j)∧j'=j+1
theorem SlAt.mono {O O':Nat→Prop}{w w':World}{kty:TypeId}{m:Mm}{p:Nat×List G}{u:Value}(h:SlAt O w kty m p u) (hk:Kept O w w') (hO:∀x,x<w.heap.size→¬O x→¬O' x)
  (hc:∀c k,m.2[p.1]?=some (some (c,k))→w'.heap[c]?=w.heap[c]?):SlAt O' w' kty m p u:=
 h.imp id fun ⟨h0,c,k,h1,h2⟩=>⟨h0,c,k,h1,h2.mono hk hO fun c' k' e=>by cases e;exact hc c k h1⟩
theorem SlAt.shut {O Z:Nat→Prop}{w w':World}{kty:TypeId}{m:Mm}{p:Nat×List G}{u:Value}(h:SlAt O w kty m p u) (hs:Shut Z w w'):SlAt O w' kty m p u:=
 h.imp id fun ⟨h0,c,k,h1,h2⟩=>⟨h0,c,k,h1,h2.shut hs⟩
def rowF (i:Nat):List (Nat×List G)→Option (List G)
 | []=>none
 | (x,gs)::r=>match gs with
  | []=>rowF i r
  | g::gs'=>bif Nat.beq x i then some (g::gs') else rowF i r
def rowM (i:Nat):List ME→Option (List G)
 | []=>none
 | e::r=>match rowF i e.f with
  | some gs=>some gs
  | none=>rowM i r
theorem rowF_some {i:Nat}{gs:List G}:∀{f:List (Nat×List G)},rowF i f=some gs→gs≠[]∧∃j:Nat,f[j]?=some (i,gs)
 | [],h=>by cases h
 | (x,gs0)::r,h=>by
  simp only[rowF] at h
  cases gs0 with
  | nil=>obtain⟨h1,j,h2⟩:=rowF_some (f:=r) h;exact⟨h1,j+1,h2⟩
  | cons g gs'=>
   dsimp only at h
   cases hb:Nat.beq x i with
   | true=>
    rw[hb] at h
    cases h
    rw[Nat.eq_of_beq_eq_true hb]
    exact⟨by simp,0,rfl⟩
   | false=>rw[hb] at h;obtain⟨h1,j,h2⟩:=rowF_some (f:=r) h;exact⟨h1,j+1,h2⟩
theorem rowM_some {i:Nat}{gs:List G}:∀{es:List ME},rowM i es=some gs→gs≠[]∧∃e∈es,∃j:Nat,e.f[j]?=some (i,gs)
 | [],h=>by cases h
 | e::r,h=>by
  simp only[rowM] at h
  cases hf:rowF i e.f with
  | some gs'=>rw[hf] at h;cases h;obtain⟨h1,j,h2⟩:=rowF_some hf;exact⟨h1,e,List.mem_cons_self,j,h2⟩
  | none=>rw[hf] at h;obtain⟨h1,e',h2,h3⟩:=rowM_some (es:=r) h;exact⟨h1,e',List.mem_cons_of_mem _ h2,h3⟩
def mapDp (q:IntKind) (kty tty:TypeId) (n:Nat) (es:List ME) (pd:Option (Option (Nat×Nat)×Nat×List G)):Dp where
 φ:=MapAt q kty tty n es pd
 emp:=False
 row:=fun i=>rowM i es
 rowPos:=fun h=>(rowM_some h).1
 rowOk:=by
  intro O w b m i gs h hrow
  obtain⟨h0,e,he,j,hj⟩:=rowM_some hrow
  obtain⟨c,cs,h1,h2,h3,h4⟩:=h.tch e he
  obtain⟨u,h5,h6⟩:=h4 j _ hj
  rcases h6 with ⟨h6,_⟩ | ⟨_,c',k',h7,cap,cs',_,_,_,h8,_,_,_,h9⟩
  ·exact absurd h6 h0
  ·exact⟨c',k',cs',kty,h7,h8,h9⟩
 mono:=by
  intro O O' w w' b m h hk hO hb
  refine {len:=h.len,lim:=h.lim,siz:=h.siz,heap:=?_,root:=fun i c k e=>⟨(h.root i c k e).1,Nat.lt_of_lt_of_le (h.root i c k e).2 hk.size⟩,tch:=fun e he=>?_,inj:=h.inj,pnd:=fun sr x gs e=>?_}
  ·obtain⟨ms,cl,h1,h2⟩:=h.heap
   exact⟨ms,cl,(hb b (.self _ _)).trans h1,h2⟩
  ·obtain⟨c,cs,h1,h2,h3,h4⟩:=h.tch e he
   refine⟨c,cs,h1,(hb c (.kid h1)).trans h2,h3,fun j p hp=>?_⟩
   obtain⟨u,h5,h6⟩:=h4 j p hp
   exact⟨u,h5,h6.mono hk hO fun c k e=>hb c (.kid e)⟩
  ·obtain⟨h0,⟨c,k,cs,h1,h2,h3,h4,h5,h6⟩,h7⟩:=h.pnd sr x gs e
   exact⟨h0,⟨c,k,cs,h1,(hb c (.kid h1)).trans h2,h3,h4,h5,fun i g hg=>let ⟨v,hv,hr⟩:=h6 i g hg;⟨v,hv,hr.mono hk hO⟩⟩,h7⟩
 shut:=by
  intro O Z w w' b m h hs hz
  have hb:∀x,In x b m→w'.heap[x]?=w.heap[x]?:=fun x hx=>by
   rcases hs.block x with h | ⟨h,_⟩
   ·exact h
   ·exact absurd h (hz x hx)
  refine {len:=h.len,lim:=h.lim,siz:=h.siz,heap:=?_,root:=fun i c k e=>⟨(h.root i c k e).1,by rw[hs.size];exact(h.root i c k e).2⟩,tch:=fun e he=>?_,inj:=h.inj,pnd:=fun sr x gs e=>?_}
  ·obtain⟨ms,cl,h1,h2⟩:=h.heap
   exact⟨ms,cl,(hb b (.self _ _)).trans h1,h2⟩
  ·obtain⟨c,cs,h1,h2,h3,h4⟩:=h.tch e he
   refine⟨c,cs,h1,(hb c (.kid h1)).trans h2,h3,fun j p hp=>?_⟩
   obtain⟨u,h5,h6⟩:=h4 j p hp
   exact⟨u,h5,h6.shut hs⟩
  ·obtain⟨h0,⟨c,k,cs,h1,h2,h3,h4,h5,h6⟩,h7⟩:=h.pnd sr x gs e
   exact⟨h0,⟨c,k,cs,h1,(hb c (.kid h1)).trans h2,h3,h4,h5,fun i g hg=>let ⟨v,hv,hr⟩:=h6 i g hg;⟨v,hv,hr.shut hs⟩⟩,h7⟩
 live:=by
  intro O w b m h x hx
  rcases hx with rfl | ⟨n,hn⟩
  ·obtain⟨ms,cl,h1,_⟩:=h.heap
   exact lt_of_heap h1
  ·obtain⟨i,hi⟩:=List.getElem?_of_mem hn
   exact(h.root i x n hi).2
section
variable {P:Program}{N:Nat}{cx:Cx}{s:St}{W:List Nat}
variable {dst:Option Tmp}{ty:TypeId}{pos:String}{after:Array Edge}{guard:Option (Nat×Bool)}
theorem Rel.mapAt {μ:Mu}{a:Act}{w:World}(hr:Rel N cx μ s a w){h:Nat}{k:Blk}{q:IntKind}{kty tty:TypeId}{n:Nat}{es:List ME}{pd:Option (Option (Nat×Nat)×Nat×List G)}(hk:sget s.st h=some k) (hl:k.lp=some (.deep (mapDp q kty tty n es pd))){b:Nat}{m:Mm}(hm:μ h=some (b,m)):
  MapAt q kty tty n es pd (bif k.fresh then Old (cx.O s.st μ) cx.base else cx.O s.st μ) w b m:=by
 have:=hr.st.blk h k hk
 rw[hm] at this
 exact((RelBlk.deep hl).1 this).1
theorem Rel.mref {μ:Mu}{a:Act}{w:World}(hrel:Rel N cx μ s a w){x:Operand}{h:Nat}(hx:AM.ev s x=some (.mref h)):∃b m,a.eval x=.map (some b)∧μ h=some (b,m):=by
 have hr:=hrel.ev hx
 generalize a.eval x=v at hr
 cases hr with
 | imm h=>cases h
 | mref _ b m hm=>exact⟨b,m,rfl,hm⟩
theorem Rel.key2 {μ:Mu}{a:Act}{w:World}(hrel:Rel N cx μ s a w){x:Operand}{q:IntKind}{ky:Int×Int}(hx:AM.ev s x=some (.agg [.val (.int q ky.1),.val (.int q ky.2)])):a.eval x=AM.key2 q ky:=by
 have hr:=hrel.ev hx
 generalize a.eval x=v at hr
 have key:∀us:List Value,us.length=2→(∀(j:Nat) (g:G) (v:Value),[G.val (.int q ky.1),.val (.int q ky.2)][j]?=some g→us[j]?=some v→g=.val v)→us=[.int q ky.1,.int q ky.2]:=by
  intro us hl h
  match us,hl with
  | [a,b],_=>
   have h1:=h 0 _ a rfl rfl
   have h2:=h 1 _ b rfl rfl
   cases h1;cases h2;rfl
 cases hr with
 | imm h=>
  cases h with
  | agg _ us hl hr=>
   rw[key us hl fun j g v hg hv=>by
    have:=hr j g v hg hv
    match j,hg with
    | 0,hg=>cases hg;cases this;rfl
    | 1,hg=>cases hg;cases this;rfl
    | j+2,hg=>simp at hg]
   rfl
 | agg _ us hl hr=>
  rw[key us hl fun j g v hg hv=>by
   have:=hr j g v hg hv
   match j,hg with
   | 0,hg=>cases hg;cases this with | imm h=>cases h;rfl
   | 1,hg=>cases hg;cases this with | imm h=>cases h;rfl
   | j+2,hg=>simp at hg]
  rfl
def kget (es:List ME) (ky:Int×Int):Option ME:=es.find? fun e=>decide (ky=e.key)
def tgt (es:List ME) (t:Nat):Option ME:=es.find? fun e=>Nat.beq e.t t
theorem tgt_some {es:List ME}{t:Nat}{e:ME}(h:tgt es t=some e):e∈es∧e.t=t:=⟨List.mem_of_find?_eq_some h,Nat.eq_of_beq_eq_true (by simpa using List.find?_some h)⟩
theorem kget_some {es:List ME}{ky:Int×Int}{e:ME}(h:kget es ky=some e):e∈es∧e.key=ky:=⟨List.mem_of_find?_eq_some h,by have:=List.find?_some h;simp at this;exact this.symm⟩
theorem fnd_kget (q:IntKind) (ky:Int×Int) (m:Mm):∀(es:List ME) (i:Nat),(fnd q ky (es.map fun e=>(e.key,ptrAt m e.t)) i).map (·.2)=(kget es ky).map fun e=>ptrAt m e.t
 | [],_=>rfl
 | e::r,i=>by
  simp only[List.map_cons,fnd,kget,List.find?_cons]
  by_cases h:ky=e.key
  ·simp[h]
  ·simp only[h,if_false,decide_false]
   exact fnd_kget q ky m r (i+1)
theorem YL.mapGet {t kt et:TypeId}{x y:Operand}{h:Nat}{k:Blk}{q:IntKind}{kty tty:TypeId}{n:Nat}{es:List ME}{pd:Option (Option (Nat×Nat)×Nat×List G)}{ky:Int×Int}(hx:ev s x=some (.mref h)) (hy:ev s y=some (.agg [.val (.int q ky.1),.val (.int q ky.2)]))
  (hk:sget s.st h=some k) (hl:k.lp=some (.deep (mapDp q kty tty n es pd))) (ht:P.underlying t=some (.map kt et)) (K:Key2 P kt q) (hz:∀w,(zeroValue et).run P w=.ok (.pointer none) w) (hW:W.contains h=false):
  Yield P W s ⟨dst,.lookup t x y true,ty,pos,after,guard⟩ (.tup [match kget es ky with | some e=>.kp h e.t 0 | none=>.val (.pointer none),.val (.bool (kget es ky).isSome)]):=fun N cx μ a w hrel=>by
 obtain⟨b,m,e1,hm⟩:=hrel.mref hx
 have hf:=hrel.mapAt hk hl hm
 have e2:=hrel.key2 hy
 obtain⟨ms,cl,h1,h2⟩:=hf.heap
 have h2:ms.toList.map (fun e=>(e.key,e.val))=(es.map fun e=>(e.key,ptrAt m e.t)).map fun e=>(AM.key2 q e.1,e.2):=by rw[h2,List.map_map];rfl
 have hv:∃v,(fnd q ky (es.map fun e=>(e.key,ptrAt m e.t)) 0=none∧kget es ky=none∧v=Value.pointer none)∨(∃i e,fnd q ky (es.map fun e=>(e.key,ptrAt m e.t)) 0=some (i,v)∧kget es ky=some e∧v=ptrAt m e.t):=by
  have:=fnd_kget q ky m es 0
  cases hf1:fnd q ky (es.map fun e=>(e.key,ptrAt m e.t)) 0 with
  | none=>
   rw[hf1] at this
   cases hf2:kget es ky with
   | none=>exact⟨_,.inl ⟨rfl,rfl,rfl⟩⟩
   | some e=>rw[hf2] at this;cases this
  | some iv=>
   obtain⟨i,v⟩:=iv
   rw[hf1] at this
   cases hf2:kget es ky with
   | none=>rw[hf2] at this;cases this
   | some e=>rw[hf2] at this;cases this;exact⟨_,.inr ⟨i,e,rfl,rfl,rfl⟩⟩
 obtain⟨v,hv⟩:=hv
 have hrun:∀w',w'.heap[b]?=w.heap[b]?→(Instr.lookup t (.map (some b)) (AM.key2 q ky) true).run P w'=.ok (.tuple #[v,.bool (kget es ky).isSome]) w':=fun w' hb=>by
  rw[h1] at hb
  have hg:(getObj b).run P w'=.ok (.map ms cl) w':=by simp[getObj,Sem.run,hb]
  have hfk:=run_findKey2 K ky w' ms.toList _ h2
  rcases hv with ⟨q1,q2,rfl⟩ | ⟨i,e,q1,q2,q3⟩
  ·simp[Instr.lookup,run_underlying ht,hg,run_check2 K,hfk,q1,q2,hz]
  ·simp[Instr.lookup,run_underlying ht,hg,run_check2 K,hfk,q1,q2]
 refine⟨.tuple #[v,.bool (kget es ky).isSome],?_,fun w' hs hw'=>?_⟩
 ·refine .tup _ [v,.bool (kget es ky).isSome] rfl fun j g u hg hu=>?_
  match j,hg,hu with
  | 0,hg,hu=>
   cases hg;cases hu
   rcases hv with ⟨q1,q2,rfl⟩ | ⟨i,e,q1,q2,q3⟩
   ·rw[q2];exact .imm (.val _)
   ·rw[q2,q3]
    obtain⟨c,cs,h3,_⟩:=hf.tch e (kget_some q2).1
    have:ptrAt m e.t=.pointer (some ⟨c,0,none⟩):=by simp only[ptrAt,h3]
    rw[this]
    exact .kp h e.t 0 b m c _ hm h3
  | 1,hg,hu=>cases hg;cases hu;exact .imm (.val _)
  | j+2,hg,hu=>simp at hg
 ·have hb:=hrel.agreeIn hk hm hW ⟨hs,hw'⟩ (.self b m)
  simp[execOp,e1,e2,hrun w' hb]
theorem YL.mapFld {t:TypeId}{x:Operand}{h tt off z:Nat}{k:Blk}{q:IntKind}{kty tty:TypeId}{n:Nat}{es:List ME}{pd:Option (Option (Nat×Nat)×Nat×List G)}{e:ME}{gs:List G}(hx:ev s x=some (.kp h tt off)) (hk:sget s.st h=some k) (hl:k.lp=some (.deep (mapDp q kty tty n es pd)))
  (he:tgt es tt=some e) (hf:e.f[off]?=some (z,gs)) (hag:∀w,(isAgg t).run P w=.ok false w) (hW:W.contains h=false):Yield P W s ⟨dst,.load t x,ty,pos,after,guard⟩ (.ks h z 1 gs.length):=fun N cx μ a w hrel=>by
 obtain⟨b,m,c,n',e1,hm,hc⟩:=hrel.kp hx
 have hM:=hrel.mapAt hk hl hm
 obtain⟨he1,he2⟩:=tgt_some he
 obtain⟨c',cs,h1,h2,h3,h4⟩:=hM.tch e he1
 rw[he2,hc] at h1
 cases h1
 obtain⟨u,h5,h6⟩:=h4 off _ hf
 refine⟨u,?_,fun w' hs hw'=>?_⟩
 ·rcases h6 with ⟨q1,_,rfl⟩ | ⟨q1,c2,k2,q2,q3⟩
  ·have q1:gs=[]:=q1
   subst q1
   exact .knil h z 1 none 0 fun _=>⟨rfl,rfl⟩
  ·obtain⟨cap,cs',rfl,r1,r2,_⟩:=q3
   exact .ks h z 1 _ b m c2 k2 cap hm q2 r1 r2
 ·have hb:=hrel.agreeIn hk hm hW ⟨hs,hw'⟩ (.kid hc)
  rw[h2] at hb
  have hcell:w'.cell? ⟨c,off,none⟩=some u:=by rw[cell_of hb,h5]
  simp[execOp,e1,Instr.loadAt,Instr.sureAddr,loadVar,hag,hcell]
end
end Go.AM
/-
 AM:maps:what belongs to a block gets more behind.
-/
namespace Go.AM
def rnB (rn:G→G) (k:Blk):Blk:=bif k.pure then k else {k with cells:=k.cells.map rn}
theorem rnB_same (rn:G→G) (k:Blk):(rnB rn k).mine=k.mine∧(rnB rn k).pure=k.pure∧(rnB rn k).lp=k.lp:=by
 unfold rnB
 cases h:k.pure with
 | true=>exact⟨rfl,h,rfl⟩
 | false=>exact⟨rfl,rfl,rfl⟩
def rnFr (rn:G→G) (fr:List (Nat×G)):List (Nat×G):=fr.map fun x=>(x.1,rn x.2)
theorem get_rnFr {rn:G→G}{fr:List (Nat×G)}{t:Nat}{g:G}(h:get (rnFr rn fr) t=some g):∃g0,get fr t=some g0∧g=rn g0:=by
 induction fr with
 | nil=>cases h
 | cons x r ih=>
  obtain⟨y,g0⟩:=x
  simp only[rnFr,List.map_cons,get] at h⊢
  cases hb:Nat.beq y t with
  | true=>rw[hb] at h;cases h;exact⟨g0,rfl,rfl⟩
  | false=>rw[hb] at h;exact ih h
theorem RelBlk.rn {O:Nat→Prop}{base:Nat}{w:World}{μ μ':Mu}{rn:G→G}{k:Blk}{x:Option (Nat×Mm)}(hb:RelBlk O base w μ k x) (hr:∀g v,RepV O base w μ g v→RepV O base w μ' (rn g) v):RelBlk O base w μ' (rnB rn k) x:=by
 unfold rnB
 cases hp:k.pure with
 | true=>exact hb.remap fun hp'=>by rw[hp] at hp';cases hp'
 | false=>
  simp only[cond_false]
  cases x with
  | none=>
   obtain⟨h1,h2⟩:=hb
   refine⟨by simp[h1],?_⟩
   dsimp only
   split at h2
   ·trivial
   ·exact h2.elim
   ·rw[hp] at h2;cases h2.2
  | some bm=>
   obtain⟨b,m⟩:=bm
   have gm:∀{j:Nat}{g:G},(k.cells.map rn)[j]?=some g→∃g0,k.cells[j]?=some g0∧g=rn g0:=fun {j g} h=>by
    rw[List.getElem?_map] at h
    cases hg:k.cells[j]? with
    | none=>rw[hg] at h;cases h
    | some g0=>rw[hg] at h;cases h;exact⟨g0,rfl,rfl⟩
   cases hl:k.lp with
   | none=>
    obtain⟨cs1,h4,h5,h6,h7,h8,h9⟩:=hb.cells hl
    refine .mk rfl (hb.nokid hl) ⟨cs1,h4,h5,by simpa using h6,h7,h8,fun j g hg=>?_⟩
    obtain⟨g0,e1,rfl⟩:=gm hg
    obtain⟨v,hv,hrv⟩:=h9 j g0 e1
    refine⟨v,hv,?_⟩
    unfold RepC at hrv⊢
    rw[hp] at hrv
    simp only
    exact hr _ _ hrv
   | some kd=>
    cases kd with
    | deep d=>have:=((RelBlk.deep hl).1 hb).2.1;rw[hp] at this;cases this
    | loop lp=>
     obtain⟨D,vs,q1,q2,q3,q4,q5⟩:=(RelBlk.loop hl).1 hb
     refine(RelBlk.loop rfl).2 ⟨D,vs,q1,q2,q3,rfl,fun j t g ht hg=>?_⟩
     obtain⟨g0,e1,rfl⟩:=gm hg
     obtain⟨v,hv,hrv⟩:=q5 j t g0 ht e1
     exact⟨v,hv,hr _ _ hrv⟩
section
variable {P:Program}{N:Nat}{cx:Cx}{s:St}{W:List Nat}
theorem Rel.grow {μ : Mu} {a : Act} {w w' : World} (hr : Rel N cx μ s a w) {hh : Nat} {k k' : Blk} {b : Nat} {m : Mm} {l' : List (Option (Nat × Nat))} {rm : List Nat} {st' : List (Nat × Blk)} {rn : G → G} (hk : sget s.st hh = some k) (hm : μ hh = some (b, m))
    (hk' : sget st' hh = some k') (hst : ∀ x k1, x ≠ hh → sget st' x = some k1 → x ∉ rm ∧ ∃ k0, sget s.st x = some k0 ∧ k1 = rnB rn k0)
    (hkid : ∀ c n, some (c, n) ∈ l' → (∃ n', some (c, n') ∈ m.2) ∨ (w.heap.size ≤ c ∧ c < w'.heap.size) ∨ ∃ x k0 m0, x ∈ rm ∧ sget s.st x = some k0 ∧ μ x = some (c, m0) ∧ k0.mine = true) (hrm : hh ∉ rm)
    (hrn : ∀ O base w g v, RepV O base w μ g v → RepV O base w (upd μ hh (some (b, m.1, m.2 ++ l'))) (rn g) v) (hdf : ∀ g ∈ s.df, rn g = g)
    (hsz : w.heap.size ≤ w'.heap.size) (hoth : ∀ x, x < w.heap.size → ¬ In x b m → w'.heap[x]? = w.heap[x]?) (hos : w'.os = w.os) (htape : w'.tape = w.tape) (hout : w'.output = w.output) (hmine : k'.mine = true → k.mine = true)
    (hb : ∀ O', (∀ x, x < w.heap.size → O' x → cx.O s.st μ x) → RelBlk O' cx.base w' (upd μ hh (some (b, m.1, m.2 ++ l'))) k' (some (b, m.1, m.2 ++ l'))) (hW : ∀ x ∈ hh :: rm, W.contains x = true) :
    Rel N cx (upd μ hh (some (b, m.1, m.2 ++ l'))) { fr := rnFr rn s.fr, st := st', df := s.df } a w' ∧ Step W s.st μ st' (upd μ hh (some (b, m.1, m.2 ++ l'))) w w' := by
  have hbs : cx.base ≤ w.heap.size := hr.st.hb
  have hinK : ∀ y, In y b ((m.1, m.2 ++ l') : Mm) → In y b m ∨ (w.heap.size ≤ y ∧ y < w'.heap.size) ∨ ∃ x k0 m0, x ∈ rm ∧ sget s.st x = some k0 ∧ μ x = some (y, m0) ∧ k0.mine = true := by
    rintro y (h | ⟨n, hn⟩)
    · exact .inl (.inl h)
    · rcases List.mem_append.1 hn with hn | hn
      · exact .inl (.inr ⟨n, hn⟩)
      · rcases hkid y n hn with ⟨n', h⟩ | h | h
        · exact .inl (.inr ⟨n', h⟩)
        · exact .inr (.inl h)
        · exact .inr (.inr h)
  have was : ∀ x k1 b1 m1 y, sget st' x = some k1 → upd μ hh (some (b, m.1, m.2 ++ l')) x = some (b1, m1) → In y b1 m1 →
      (x = hh ∧ w.heap.size ≤ y ∧ y < w'.heap.size) ∨ ∃ z k0 c0 m0, sget s.st z = some k0 ∧ μ z = some (c0, m0) ∧ In y c0 m0 ∧ ((x ≠ hh ∧ z = x ∧ z ∉ rm ∧ k1.mine = k0.mine) ∨ (x = hh ∧ ((z = hh ∧ k1 = k') ∨ (z ∈ rm ∧ k0.mine = true)))) := by
    intro x k1 b1 m1 y h1 h2 h3
    by_cases e : x = hh
    · subst e
      rw [upd_same] at h2
      cases h2
      rw [hk'] at h1
      cases h1
      rcases hinK y h3 with h4 | h4 | ⟨z, k0, m0, q1, q2, q3, q4⟩
      · exact .inr ⟨x, k, b, m, hk, hm, h4, .inr ⟨rfl, .inl ⟨rfl, rfl⟩⟩⟩
      · exact .inl ⟨rfl, h4⟩
      · exact .inr ⟨z, k0, y, m0, q2, q3, .self _ _, .inr ⟨rfl, .inr ⟨q1, q4⟩⟩⟩
    · rw [upd_other e] at h2
      obtain ⟨q0, k0, h4, rfl⟩ := hst x k1 e h1
      exact .inr ⟨x, k0, b1, m1, h4, h2, h3, .inl ⟨e, rfl, q0, (rnB_same rn k0).1⟩⟩
  have hO : ∀ x, x < w.heap.size → cx.O st' (upd μ hh (some (b, m.1, m.2 ++ l'))) x → cx.O s.st μ x := by
    rintro x hx (ho | ⟨y, k1, c1, m1, h1, h2, h3⟩)
    · exact .inl ho
    · rcases was y k1 c1 m1 x h1 h2 h3 with ⟨_, h4, _⟩ | ⟨z, k0, c0, m0, q1, q2, q3, _⟩
      · omega
      · exact .inr ⟨z, k0, c0, m0, q1, q2, q3⟩
  have hown : ∀ x, In x b m → cx.O s.st μ x := fun x hx => .inr ⟨hh, k, b, m, hk, hm, hx⟩
  have hkept : Kept (cx.O s.st μ) w w' := ⟨hsz, fun b' hb' hn => hoth b' hb' fun e => hn (hown b' e)⟩
  have hOm : ∀ x, x < w.heap.size → ¬ cx.O s.st μ x → ¬ cx.O st' (upd μ hh (some (b, m.1, m.2 ++ l'))) x := fun x hx hn ho => hn (hO x hx ho)
  have hext : ∀ y, Ext (μ y) (upd μ hh (some (b, m.1, m.2 ++ l')) y) := fun y => by
    by_cases e : y = hh
    · subst e; rw [upd_same, hm]; exact .inr ⟨b, m.1, m.2, l', rfl, rfl⟩
    · rw [upd_other e]; exact .inl rfl
  refine ⟨{ st := { blk := ?_, injF := ?_, outF := ?_, pin := ?_, xlt := hr.st.xlt, hb := Nat.le_trans hr.st.hb hsz, os := hos.trans hr.st.os, tape := htape.trans hr.st.tape, output := hout.trans hr.st.output, gl := hr.st.gl, keep := ?_ }, nd := ?_, sz := hr.sz, fr := ?_ }, ?_⟩
  · intro x k1 h1
    by_cases e : x = hh
    · subst e
      rw [hk'] at h1
      cases h1
      rw [upd_same]
      exact hb _ hO
    · rw [upd_other e]
      obtain ⟨_, k0, h4, rfl⟩ := hst x k1 e h1
      refine ((hr.st.blk x k0 h4).mono (fun b1 m1 hmx y hy => hoth y (hr.st.outF x k0 b1 m1 y h4 hmx hy).2.2.1 fun e' => e (hr.st.injF x hh k0 k y b1 m1 b m h4 hk hmx hm hy e')) hkept hOm).rn (hrn _ _ _)
  · intro x x' k1 k2 y b1 m1 b2 m2 h1 h2 h3 h4 h5 h6
    rcases was x k1 b1 m1 y h1 h3 h5 with ⟨e1, e2, _⟩ | ⟨z, k0, c0, m0, q1, q2, q3, q4⟩ <;> rcases was x' k2 b2 m2 y h2 h4 h6 with ⟨f1, f2, _⟩ | ⟨z', k0', c0', m0', r1, r2, r3, r4⟩
    · rw [e1, f1]
    · have := (hr.st.outF z' k0' c0' m0' y r1 r2 r3).2.2.1; omega
    · have := (hr.st.outF z k0 c0 m0 y q1 q2 q3).2.2.1; omega
    · have := hr.st.injF z z' k0 k0' y c0 m0 c0' m0' q1 r1 q2 r2 q3 r3
      subst this
      rcases q4 with ⟨e1, e2, e3, _⟩ | ⟨e1, e2⟩ <;> rcases r4 with ⟨f1, f2, f3, _⟩ | ⟨f1, f2⟩
      · exact e2.symm.trans f2
      · rcases f2 with ⟨f2, _⟩ | ⟨f2, _⟩
        · exact absurd (e2.symm.trans f2) e1
        · exact absurd f2 e3
      · rcases e2 with ⟨e2, _⟩ | ⟨e2, _⟩
        · exact absurd (f2.symm.trans e2) f1
        · exact absurd e2 f3
      · rw [e1, f1]
  · intro x k1 b1 m1 y h1 h2 h3
    rcases was x k1 b1 m1 y h1 h2 h3 with ⟨e1, e2, e3⟩ | ⟨z, k0, c0, m0, q1, q2, q3, q4⟩
    · have hxb : ∀ z, cx.X z → z < w.heap.size := fun z hz => Nat.lt_of_lt_of_le (hr.st.xlt z hz) hbs
      exact ⟨fun hx => by have := hxb y hx; omega, .inl (by omega), e3, fun _ => by omega⟩
    · obtain ⟨a1, a2, a3, a4⟩ := hr.st.outF z k0 c0 m0 y q1 q2 q3
      refine ⟨a1, a2, Nat.lt_of_lt_of_le a3 hsz, fun h => a4 ?_⟩
      rcases q4 with ⟨_, _, _, e⟩ | ⟨_, ⟨e, e'⟩ | ⟨_, e⟩⟩
      · rw [← e]; exact h
      · subst e
        rw [hk] at q1
        cases q1
        subst e'
        exact hmine h
      · exact e
  · intro x k1 h1 h2
    by_cases e : x = hh
    · subst e
      rw [upd_same]
      refine (hr.st.pin x k hk h2).trans (base' := cx.base) (.inr ⟨b, m.1, m.2, l', by rw [hm], rfl, fun c n hc => ?_⟩) (Nat.le_refl _)
      rcases hkid c n hc with h | h | ⟨z, k0, m0, q1, q2, q3, q4⟩
      · exact .inr h
      · exact .inl (Nat.le_trans hbs h.1)
      · exact .inl ((hr.st.outF z k0 c m0 c q2 q3 (.self _ _)).2.2.2 q4)
    · rw [upd_other e]
      obtain ⟨_, k0, h4, _⟩ := hst x k1 e h1
      exact hr.st.pin x k0 h4 h2
  · intro b' hb1 hA
    rw [hoth b' (by omega) (fun e => (hr.st.outF hh k b m b' hk hm e).2.1.elim (fun h1 => by omega) (fun h1 => hA h1))]
    exact hr.st.keep b' hb1 hA
  · exact (hr.nd.mono hkept hOm).remapE fun g hg y hy => hext y
  · intro t g hg
    obtain ⟨g0, h1, rfl⟩ := get_rnFr hg
    obtain ⟨v, hv, hrv⟩ := hr.fr t g0 h1
    exact ⟨v, hv, hrn _ _ _ _ _ (hrv.mono hkept hOm (Nat.le_refl _))⟩
  · refine ⟨hsz, fun b' hb' hn => hoth b' hb' fun e => ?_, fun x k1 c1 m1 y hw h1 h2 hy => ?_⟩
    · exact hn hh k b m (by simpa using hW hh List.mem_cons_self) hk hm e
    · rcases was x k1 c1 m1 y h1 h2 hy with ⟨_, e2, _⟩ | ⟨z, k0, c0, m0, q1, q2, q3, q4⟩
      · exact .inr e2
      · refine .inl ⟨z, k0, c0, m0, ?_, q1, q2, q3⟩
        rcases q4 with ⟨_, e2, _⟩ | ⟨_, ⟨e2, _⟩ | ⟨e2, _⟩⟩
        · exact e2 ▸ hw
        · subst e2; simpa using hW z List.mem_cons_self
        · simpa using hW z (List.mem_cons_of_mem _ e2)
end
end Go.AM
/-
 AM:maps:one is made;an entry more,with a struct that was the call's own.
-/
namespace Go.AM
section
variable {P:Program}{N:Nat}{cx:Cx}{s:St}{W:List Nat}
variable {ty:TypeId}{pos:String}{after:Array Edge}{guard:Option (Nat×Bool)}
def mapB (q:IntKind) (kty tty:TypeId):Blk:=⟨0,true,true,true,1,[],some (.deep (mapDp q kty tty 0 [] none))⟩
theorem Rel.allocMap {μ : Mu} {a : Act} {w : World} (hr : Rel N cx μ s a w) {hd : Nat} (q : IntKind) (kty tty : TypeId) (hfr : fresh s hd = true) :
    Rel N cx (upd μ hd (some (w.heap.size, 0, []))) { fr := s.fr, st := (hd, mapB q kty tty) :: s.st, df := s.df } a (w.alloc (.map #[] 0)) ∧ Step W s.st μ ((hd, mapB q kty tty) :: s.st) (upd μ hd (some (w.heap.size, 0, []))) w (w.alloc (.map #[] 0)) := by
  unfold fresh at hfr
  simp only [Bool.and_eq_true, Option.isNone_iff_eq_none] at hfr
  obtain ⟨f1, f2, f3, f5, f6⟩ := hfr
  have h := hr.st
  have hO : ∀ b, b < w.heap.size → ¬ cx.O s.st μ b → ¬ cx.O ((hd, mapB q kty tty) :: s.st) (upd μ hd (some (w.heap.size, 0, []))) b := by
    intro b hb hn ho
    rcases ho with ho | ⟨x, k', c, m, h1, h2, h3⟩
    · exact hn (.inl ho)
    · by_cases e : x = hd
      · subst e; rw [upd_same] at h2; cases h2; rw [In.plain.1 h3] at hb; omega
      · rw [sget_cons_other _ s.st e] at h1; rw [upd_other e] at h2; exact hn (.inr ⟨x, k', c, m, h1, h2, h3⟩)
  have hlt : ∀ x k' b m y, sget s.st x = some k' → μ x = some (b, m) → In y b m → y < w.heap.size := fun x k' b m y h1 h2 h3 => (h.outF x k' b m y h1 h2 h3).2.2.1
  have hkept := kept_alloc (cx.O s.st μ) w (.map #[] 0)
  refine ⟨{ st := { blk := ?_, injF := ?_, outF := ?_, pin := ?_, xlt := h.xlt, hb := ?_, os := h.os, tape := h.tape, output := h.output, gl := h.gl, keep := ?_ }, nd := (hr.nd.mono hkept hO).remap (fun g hg y hy => upd_other fun e => by subst e; rw [dfNo_mem f5 hg] at hy; cases hy), sz := hr.sz, fr := fun t g hg => ?_ }, ?_⟩
  · intro x k' h1
    by_cases e : x = hd
    · subst e
      rw [sget_cons_same] at h1; cases h1
      rw [upd_same]
      refine (RelBlk.deep rfl).2 ⟨?_, rfl, rfl, fun _ => h.hb⟩
      exact { len := rfl, lim := Nat.zero_le _, siz := rfl, heap := ⟨#[], 0, heap_alloc_new w _, rfl⟩, root := fun i c k e => by simp at e, tch := fun e he => absurd he (by simp), inj := fun i i' e e' j j' x x' c k k' h => by simp at h, pnd := fun sr x gs e => by cases e }
    · rw [sget_cons_other _ s.st e] at h1
      rw [upd_other e]
      refine ((h.blk x k' h1).mono (fun b m hm y hy => Go.RowKit.Below.heap_alloc w _ y (hlt x k' b m y h1 hm hy)) hkept hO).remap fun hp g hg y hy => upd_other ?_
      intro e
      subst e
      rw [stNo_get f3 h1 hp hg] at hy
      cases hy
  · intro x x' k1 k2 y b m b' m' h1 h2 h3 h4 h5 h6
    by_cases e : x = hd
    · by_cases e' : x' = hd
      · rw [e, e']
      · subst e
        rw [upd_same] at h3; rw [upd_other e'] at h4; rw [sget_cons_other _ s.st e'] at h2
        cases h3
        have := hlt x' k2 _ m' y h2 h4 h6
        rw [In.plain.1 h5] at this
        omega
    · by_cases e' : x' = hd
      · subst e'
        rw [upd_same] at h4; rw [upd_other e] at h3; rw [sget_cons_other _ s.st e] at h1
        cases h4
        have := hlt x k1 _ m y h1 h3 h5
        rw [In.plain.1 h6] at this
        omega
      · rw [sget_cons_other _ s.st e] at h1; rw [sget_cons_other _ s.st e'] at h2; rw [upd_other e] at h3; rw [upd_other e'] at h4
        exact h.injF x x' k1 k2 y b m b' m' h1 h2 h3 h4 h5 h6
  · intro x k' b m y h1 h2 h3
    by_cases e : x = hd
    · subst e
      rw [upd_same] at h2
      cases h2
      rw [In.plain.1 h3]
      refine ⟨fun hx => ?_, .inl h.hb, by simp, fun _ => h.hb⟩
      have := h.xlt _ hx
      have := h.hb
      omega
    · rw [sget_cons_other _ s.st e] at h1; rw [upd_other e] at h2
      obtain ⟨a1, a2, a3, a4⟩ := h.outF x k' b m y h1 h2 h3
      exact ⟨a1, a2, by simp only [World.size_alloc]; omega, a4⟩
  · intro x k1 h1 h2
    by_cases e : x = hd
    · subst e; rw [not_pinned f6] at h2; cases h2
    · rw [sget_cons_other _ s.st e] at h1; rw [upd_other e]; exact h.pin x k1 h1 h2
  · simp only [World.size_alloc]; have := h.hb; omega
  · intro b hb hA
    rw [Go.RowKit.Below.heap_alloc w _ b (by have := h.hb; omega)]
    exact h.keep b hb hA
  · obtain ⟨v, hv, hrv⟩ := hr.fr t g hg
    refine ⟨v, hv, (hrv.mono hkept hO (Nat.le_refl _)).remap fun y hy => upd_other ?_⟩
    intro e
    subst e
    rw [frNo_get f2 hg] at hy
    cases hy
  · refine ⟨by simp, fun b hb _ => Go.RowKit.Below.heap_alloc w _ b hb, fun h k' c m b hw h1 hm hi => ?_⟩
    by_cases e : h = hd
    · subst e
      rw [upd_same] at hm
      cases hm
      exact .inr (by rw [In.plain.1 hi]; exact Nat.le_refl _)
    · rw [sget_cons_other _ s.st e] at h1
      rw [upd_other e] at hm
      exact .inl ⟨h, k', c, m, hw, h1, hm, hi⟩
theorem EF.mkMap {d : Nat} {t : TypeId} (hd : Nat) (q : IntKind) (kty tty : TypeId) (hfr : fresh s hd = true) :
  Effect P W s ⟨some d, .makeMap t none, ty, pos, after, guard⟩ (· = { fr := (d, .mref hd) :: s.fr, st := (hd, mapB q kty tty) :: s.st, df := s.df }) := by
 refine Effect.of (s1 := { fr := s.fr, st := (hd, mapB q kty tty) :: s.st, df := s.df }) (g := .mref hd) rfl (fun _ h => by cases h) ?_
 intro N cx μ a w hr
 obtain ⟨h1, h2⟩ := hr.allocMap (W := W) q kty tty hfr
 refine ⟨.map (some w.heap.size), _, _, ?_, h1, .mref hd _ _ (upd_same _ _ _), h2⟩
 simp [execOp, Instr.makeMap, newObj, Sem.run]
def rkG (h2 h n:Nat):G→G
 | .loc x off=>bif Nat.beq x h2 then .kp h n off else .loc x off
 | .osl x sz off k=>bif Nat.beq x h2 then .any else .osl x sz off k
 | .kp x i off=>bif Nat.beq x h2 then .any else .kp x i off
 | .ks x i sz k=>bif Nat.beq x h2 then .any else .ks x i sz k
 | .yld x=>bif Nat.beq x h2 then .any else .yld x
 | .mref x=>bif Nat.beq x h2 then .any else .mref x
 | .agg gs=>.agg (go gs)
 | .tup gs=>.tup (go gs)
 | .clo f gs=>.clo f (go gs)
 | g=>g
where go:List G→List G
 | []=>[]
 | g::r=>rkG h2 h n g::go r
theorem rkG_go {h2 h n:Nat}{gs:List G}:(rkG.go h2 h n gs).length=gs.length∧∀(j:Nat) (g':G),(rkG.go h2 h n gs)[j]?=some g'→∃g,gs[j]?=some g∧g'=rkG h2 h n g:=by
 induction gs with
 | nil=>exact⟨rfl,fun j g e=>by simp[rkG.go] at e⟩
 | cons x r ih=>
  refine⟨by simp[rkG.go,ih.1],fun j g' e=>?_⟩
  simp only[rkG.go] at e
  cases j with
  | zero=>cases e;exact⟨x,rfl,rfl⟩
  | succ j=>exact ih.2 j g' e
theorem RepV.rk {O:Nat→Prop}{base:Nat}{w:World}{μ μ':Mu}{g:G}{v:Value}{h2 h n c z b:Nat}{m m2:Mm}(hv:RepV O base w μ g v) (hext:∀y,Ext (μ y) (μ' y)) (hm:μ' h=some (b,m)) (hn:m.2[n]?=some (some (c,z))) (hc:μ h2=some (c,m2)):RepV O base w μ' (rkG h2 h n g) v:=by
 have one:∀{x:Nat}{g:G}{v:Value},RepV O base w μ' g v→RepV O base w μ' (bif Nat.beq x h2 then G.any else g) v:=fun {x g v} h=>by
  cases Nat.beq x h2 with
  | true=>exact .imm (.any _)
  | false=>exact h
 induction hv with
 | imm hi=>
  have key:∀{g:G}{v:Value},RepI O w g v→RepV O base w μ' (rkG h2 h n g) v:=by
   intro g v hi
   induction hi with
   | any v=>exact .imm (.any _)
   | val v=>exact .imm (.val _)
   | ifc b v h=>exact .imm (.ifc b v h)
   | nil=>exact .imm .nil
   | emp a c=>exact .imm (.emp a c)
   | sl n cells b off cap us h1 h2 h3 h4 h5 ih=>exact .imm (.sl n cells b off cap us h1 h2 h3 h4 h5)
   | ptr cells b off us h1 h2 h3 h4 ih=>exact .imm (.ptr cells b off us h1 h2 h3 h4)
   | agg cells us hl hr ih=>
    refine .agg _ us (by rw[rkG_go.1];exact hl) fun j g v hg hv=>?_
    obtain⟨g0,e1,rfl⟩:=rkG_go.2 j g hg
    exact ih j g0 v e1 hv
  exact key hi
 | fr h=>exact .fr h
 | loc x off b' m' hm'=>
  simp only[rkG]
  cases hb:Nat.beq x h2 with
  | true=>
   have:=Nat.eq_of_beq_eq_true hb
   subst this
   rw[hc] at hm'
   cases hm'
   exact .kp h n off b m c z hm hn
  | false=>obtain⟨m2,e,_⟩:=(hext x).get hm';exact .loc x off b' m2 e
 | onil x sz hm'=>exact one (.onil x sz ((hext x).nil hm'))
 | osl x sz off n b' m' cap hm' hn' hc'=>obtain⟨m2,e,e1,_⟩:=(hext x).get hm';exact one (.osl x sz off n b' m2 cap e hn' (by rw[e1];exact hc'))
 | @ozero x sz off0 b' m' ks hm' hp=>
  obtain⟨⟨m1,ks'⟩,e,e1,_⟩:=(hext x).get hm'
  have e1:m1=m':=e1
  subst e1
  exact one (.ozero x sz off0 b' m1 e hp)
 | agg cells us hl hr ih=>
  refine .agg _ us (by rw[rkG_go.1];exact hl) fun j g v hg hv=>?_
  obtain⟨g0,e1,rfl⟩:=rkG_go.2 j g hg
  exact ih j g0 v e1 hv
 | tup cells us hl hr ih=>
  refine .tup _ us (by rw[rkG_go.1];exact hl) fun j g v hg hv=>?_
  obtain⟨g0,e1,rfl⟩:=rkG_go.2 j g hg
  exact ih j g0 v e1 hv
 | clo f cells us hl hr ih=>
  refine .clo f _ us (by rw[rkG_go.1];exact hl) fun j g v hg hv=>?_
  obtain⟨g0,e1,rfl⟩:=rkG_go.2 j g hg
  exact ih j g0 v e1 hv
 | yld x b' m' hm'=>obtain⟨m2,e,_⟩:=(hext x).get hm';exact one (.yld x b' m2 e)
 | mref x b' m' hm'=>obtain⟨m2,e,_⟩:=(hext x).get hm';exact one (.mref x b' m2 e)
 | kp x i off b' m' c' n' hm' hk=>obtain⟨m2,e,_,e3⟩:=(hext x).get hm';exact one (.kp x i off b' m2 c' n' e (e3 i _ hk))
 | knil x i sz a cap hi=>exact one (.knil x i sz a cap hi)
 | ks x i sz n' b' m' c' k cap hm' hk hn' hc'=>obtain⟨m2,e,_,e3⟩:=(hext x).get hm';exact one (.ks x i sz n' b' m2 c' k cap e (e3 i _ hk) hn' hc')
end
end Go.AM
/-
 AM:maps:an entry more;a slice's append;its store.
-/
namespace Go.AM
mutual
theorem rkG_no {h2 h n:Nat}:∀g:G,g.hasH h2=false→rkG h2 h n g=g
 | .loc x off,e=>by show(bif Nat.beq x h2 then _ else _)=_;rw[show Nat.beq x h2=false from e];rfl
 | .osl x _ _ _,e=>by show(bif Nat.beq x h2 then _ else _)=_;rw[show Nat.beq x h2=false from e];rfl
 | .kp x _ _,e=>by show(bif Nat.beq x h2 then _ else _)=_;rw[show Nat.beq x h2=false from e];rfl
 | .ks x _ _ _,e=>by show(bif Nat.beq x h2 then _ else _)=_;rw[show Nat.beq x h2=false from e];rfl
 | .yld x,e=>by show(bif Nat.beq x h2 then _ else _)=_;rw[show Nat.beq x h2=false from e];rfl
 | .mref x,e=>by show(bif Nat.beq x h2 then _ else _)=_;rw[show Nat.beq x h2=false from e];rfl
 | .agg gs,e=>congrArg G.agg (rkG_noL gs e)
 | .tup gs,e=>congrArg G.tup (rkG_noL gs e)
 | .clo f gs,e=>congrArg (G.clo f) (rkG_noL gs e)
 | .any,_=>rfl
 | .val _,_=>rfl
 | .ifc _,_=>rfl
 | .sl _ _,_=>rfl
 | .ptr _,_=>rfl
 | .fr _,_=>rfl
theorem rkG_noL {h2 h n:Nat}:∀gs:List G,G.hasH.go h2 gs=false→rkG.go h2 h n gs=gs
 | [],_=>rfl
 | x::r,e=>by
  simp only[G.hasH.go,Bool.or_eq_false_iff] at e
  simp only[rkG.go,rkG_no x e.1,rkG_noL r e.2]
end
def rnSt (rn:G→G) (st:List (Nat×Blk)):List (Nat×Blk):=st.map fun x=>(x.1,rnB rn x.2)
theorem sget_rnSt {rn:G→G}{x:Nat}{k1:Blk}:∀{st:List (Nat×Blk)},sget (rnSt rn st) x=some k1→∃k0,sget st x=some k0∧k1=rnB rn k0
 | [],h=>by cases h
 | (y,k)::r,h=>by
  simp only[rnSt,List.map_cons,sget_cons] at h⊢
  cases hb:Nat.beq y x with
  | true=>rw[hb] at h;cases h;exact⟨k,rfl,rfl⟩
  | false=>rw[hb] at h;exact sget_rnSt (st:=r) h
theorem sget_rnSt_of {rn:G→G}{x:Nat}{k:Blk}:∀{st:List (Nat×Blk)},sget st x=some k→sget (rnSt rn st) x=some (rnB rn k)
 | [],h=>by cases h
 | (y,k')::r,h=>by
  simp only[rnSt,List.map_cons,sget_cons] at h⊢
  cases hb:Nat.beq y x with
  | true=>rw[hb] at h;cases h;rfl
  | false=>rw[hb] at h;exact sget_rnSt_of (st:=r) h
theorem SlAt.ext {O:Nat→Prop}{w:World}{kty:TypeId}{m:Mm}{l':List (Option (Nat×Nat))}{p:Nat×List G}{u:Value}(h:SlAt O w kty m p u):SlAt O w kty (m.1,m.2++l') p u:=
 h.imp id fun ⟨h0,c,k,h1,h2⟩=>⟨h0,c,k,by
  have:=(List.getElem?_eq_some_iff.1 h1).1
  show(m.2++l')[p.1]?=_
  rw[List.getElem?_append_left this];exact h1,h2⟩
theorem MapAt.has {q:IntKind}{kty tty:TypeId}{n:Nat}{es:List ME}{pd:Option (Option (Nat×Nat)×Nat×List G)}{O:Nat→Prop}{w:World}{b:Nat}{m:Mm}(h:MapAt q kty tty n es pd O w b m){e:ME}{j x:Nat}(he:e∈es) (hx:itm e j=some x):∃c k,m.2[x]?=some (some (c,k)):=by
 obtain⟨c,cs,h1,h2,h3,h4⟩:=h.tch e he
 cases j with
 | zero=>cases hx;exact⟨c,_,h1⟩
 | succ j=>
  obtain⟨gs,h5,h6⟩:=itmF_some hx
  obtain⟨u,_,h7⟩:=h4 j _ h5
  rcases h7 with ⟨h7,_⟩ | ⟨_,c',k',h7,_⟩
  ·exact absurd h7 h6
  ·exact⟨c',k',h7⟩
theorem app_at {α:Type}{l l':List α}{i:Nat}{x:α}(h:l[i]?=some x):(l++l')[i]?=some x:=by rw[List.getElem?_append_left (List.getElem?_eq_some_iff.1 h).1];exact h
section
variable {P:Program}{N:Nat}{cx:Cx}{s:St}{W:List Nat}
variable {ty:TypeId}{pos:String}{after:Array Edge}{guard:Option (Nat×Bool)}
theorem EF.mapPut {t kt et : TypeId} {x y z : Operand} {h h2 n zf : Nat} {k k2 : Blk} {q : IntKind} {kty tty : TypeId} {es : List ME} {pd : Option (Option (Nat × Nat) × Nat × List G)} {ky : Int × Int} (hx : ev s x = some (.mref h)) (hy : ev s y = some (.agg [.val (.int q ky.1), .val (.int q ky.2)])) (hz : ev s z = some (.loc h2 0)) (hne : Nat.beq h2 h = false)
    (hk : sget s.st h = some k) (hl : k.lp = some (.deep (mapDp q kty tty n es pd))) (ht : P.underlying t = some (.map kt et)) (K : Key2 P kt q) (hno : kget es ky = none) (hk2 : sget s.st h2 = some k2) (hlp2 : k2.lp = none) (hety : k2.ety = tty) (hm2 : k2.mine = true)
    (hc2 : k2.cells = List.replicate zf (.val (.slice none 0 0))) (hlim : n + 1 ≤ maxLen) (hdf : dfNo h2 s.df = true) (hW : W.contains h = true) (hW2 : W.contains h2 = true) :
    Effect P W s ⟨none, .mapUpdate t x y z, ty, pos, after, guard⟩ (· = { fr := rnFr (rkG h2 h n) s.fr, st := sset (rnSt (rkG h2 h n) (sdel s.st h2)) h { k with lp := some (.deep (mapDp q kty tty (n + 1) (es ++ [⟨ky, n, List.replicate zf (bigI, [])⟩]) pd)) }, df := s.df }) := by
  have hne : h2 ≠ h := fun e => by subst e; rw [Nat.beq_refl] at hne; cases hne
  refine Effect.skip rfl (fun _ h => by cases h) ?_
  intro N cx μ a w hr
  obtain ⟨b, m, e1, hm⟩ := hr.mref hx
  have hM := hr.mapAt hk hl hm
  have e2 := hr.key2 hy
  obtain ⟨c, mc, e3, hmc⟩ := hr.loc hz
  obtain ⟨cs, r1, r2, r3, r4, r5, r6⟩ := hr.own hk2 hmc hlp2
  obtain ⟨ms, cl, g1, g2⟩ := hM.heap
  have hb0 := hr.st.blk h k hk
  rw [hm] at hb0
  obtain ⟨_, p2, p3, p4⟩ := (RelBlk.deep hl).1 hb0
  have kidne : ∀ {i c' k' : Nat}, m.2[i]? = some (some (c', k')) → c' ≠ c := fun {i c' k'} e e' => hne (hr.st.injF h2 h k2 k c c mc b m hk2 hk hmc hm (.self _ _) (e' ▸ .kid e))
  have hcb : c ≠ b := fun e' => hne (hr.st.injF h2 h k2 k c c mc b m hk2 hk hmc hm (.self _ _) (.inl e'))
  have hclt := (hr.st.outF h2 k2 c mc c hk2 hmc (.self _ _)).2.2.1
  have hblt := lt_of_heap g1
  have hlen := hM.len
  have hnew : (m.2 ++ [some (c, mc.1)])[n]? = some (some (c, mc.1)) := by rw [← hlen]; simp
  have hn1 : fnd q ky (es.map fun e => (e.key, ptrAt m e.t)) 0 = none := by
    have := fnd_kget q ky m es 0
    rw [hno] at this
    exact Option.map_eq_none_iff.1 this
  have hfk := run_findKey2 (P := P) K ky w ms.toList (es.map fun e => (e.key, ptrAt m e.t)) (by rw [g2, List.map_map]; rfl)
  rw [hn1] at hfk
  have hg : (getObj b).run P w = .ok (.map ms cl) w := by simp [getObj, Sem.run, g1]
  have hs : (setObj b (.map (ms.push ⟨AM.key2 q ky, .pointer (some ⟨c, 0, none⟩), cl⟩) (cl + 1))).run P w = .ok () { w with heap := w.heap.setIfInBounds b (.map (ms.push ⟨AM.key2 q ky, .pointer (some ⟨c, 0, none⟩), cl⟩) (cl + 1)) } := by simp [setObj, Sem.run, g1]
  have hrun : (Instr.mapUpdate t (.map (some b)) (AM.key2 q ky) (.pointer (some ⟨c, 0, none⟩))).run P w = .ok () { w with heap := w.heap.setIfInBounds b (.map (ms.push ⟨AM.key2 q ky, .pointer (some ⟨c, 0, none⟩), cl⟩) (cl + 1)) } := by
    simp [Instr.mapUpdate, run_underlying ht, hg, run_check2 K, hfk, hs]
  have hset1 : (w.heap.setIfInBounds b (.map (ms.push ⟨AM.key2 q ky, .pointer (some ⟨c, 0, none⟩), cl⟩) (cl + 1)))[b]? = some (.map (ms.push ⟨AM.key2 q ky, .pointer (some ⟨c, 0, none⟩), cl⟩) (cl + 1)) := by simp [hblt]
  have hset2 : ∀ r', r' ≠ b → (w.heap.setIfInBounds b (.map (ms.push ⟨AM.key2 q ky, .pointer (some ⟨c, 0, none⟩), cl⟩) (cl + 1)))[r']? = w.heap[r']? := fun r' hn => by simp [Ne.symm hn]
  have hk' : sget (sdel s.st h2) h = some k := sget_sdel_of (fun e => hne e.symm) hk
  have hext : ∀ y, Ext (μ y) (upd μ h (some (b, m.1, m.2 ++ [some (c, mc.1)])) y) := fun y => by
    by_cases e : y = h
    · subst e; rw [upd_same, hm]; exact .inr ⟨b, m.1, m.2, _, rfl, rfl⟩
    · rw [upd_other e]; exact .inl rfl
  have hG := hr.grow (W := W) (w' := { w with heap := w.heap.setIfInBounds b (.map (ms.push ⟨AM.key2 q ky, .pointer (some ⟨c, 0, none⟩), cl⟩) (cl + 1)) }) (l' := [some (c, mc.1)]) (rm := [h2]) (rn := rkG h2 h n)
    (k' := { k with lp := some (.deep (mapDp q kty tty (n + 1) (es ++ [⟨ky, n, List.replicate zf (bigI, [])⟩]) pd)) }) (st' := sset (rnSt (rkG h2 h n) (sdel s.st h2)) h { k with lp := some (.deep (mapDp q kty tty (n + 1) (es ++ [⟨ky, n, List.replicate zf (bigI, [])⟩]) pd)) })
    hk hm (sget_sset_same (sget_rnSt_of hk')) (fun x k1 hxh h1 => by
      rw [sget_sset_other hxh] at h1
      obtain ⟨k0, h3, h4⟩ := sget_rnSt h1
      obtain ⟨h5, h6⟩ := sget_sdel h3
      exact ⟨by simpa using h5, k0, h6, h4⟩) (fun c' n' hc' => by
      simp at hc'
      obtain ⟨rfl, rfl⟩ := hc'
      exact .inr (.inr ⟨h2, k2, mc, by simp, hk2, hmc, hm2⟩)) (by simpa using fun e : h = h2 => hne e.symm)
    (fun O base w g v hv => hv.rk (c := c) (z := mc.1) (m := (m.1, m.2 ++ [some (c, mc.1)])) hext (upd_same _ _ _) hnew hmc)
    (fun g hg => rkG_no g (dfNo_mem hdf hg)) (by simp) (fun x hxl hxn => hset2 x fun e => hxn (.inl e)) rfl rfl rfl id (fun O' hO => by
      refine (RelBlk.deep (d := mapDp q kty tty (n + 1) (es ++ [⟨ky, n, List.replicate zf (bigI, [])⟩]) pd) rfl).2 ⟨?_, p2, p3, p4⟩
      have hO2 : ∀ x, x < w.heap.size → ¬ (bif k.fresh then Old (cx.O s.st μ) cx.base else cx.O s.st μ) x → ¬ (bif k.fresh then Old O' cx.base else O') x := by
        intro x hx hn ho
        cases hkf : k.fresh with
        | false => rw [hkf] at hn ho; exact hn (hO x hx ho)
        | true => rw [hkf] at hn ho; exact hn (ho.imp id (hO x hx))
      have hkp : Kept (bif k.fresh then Old (cx.O s.st μ) cx.base else cx.O s.st μ) w { w with heap := w.heap.setIfInBounds b (.map (ms.push ⟨AM.key2 q ky, .pointer (some ⟨c, 0, none⟩), cl⟩) (cl + 1)) } := by
        refine ⟨by simp, fun b' _ hn => hset2 b' fun e => hn ?_⟩
        subst e
        have hown : cx.O s.st μ b' := .inr (.root hk hm)
        cases k.fresh with
        | false => exact hown
        | true => exact .inr hown
      have hold : ∀ {i c' k' : Nat}, m.2[i]? = some (some (c', k')) → (w.heap.setIfInBounds b (.map (ms.push ⟨AM.key2 q ky, .pointer (some ⟨c, 0, none⟩), cl⟩) (cl + 1)))[c']? = w.heap[c']? := fun {i c' k'} e => hset2 c' (hM.root i c' k' e).1
      have hcase : ∀ (i : Nat) (e : ME), (es ++ [⟨ky, n, List.replicate zf (bigI, [])⟩])[i]? = some e → (i < es.length ∧ es[i]? = some e) ∨ (i = es.length ∧ e = ⟨ky, n, List.replicate zf (bigI, [])⟩) := by
        intro i e h
        rw [List.getElem?_append] at h
        split at h
        · rename_i hi; exact .inl ⟨hi, h⟩
        · rename_i hi
          have : i - es.length = 0 := by
            cases hd : i - es.length with
            | zero => rfl
            | succ d => rw [hd] at h; simp at h
          rw [this] at h
          cases h
          exact .inr ⟨by omega, rfl⟩
      have hitn : ∀ {j x : Nat}, itm ⟨ky, n, List.replicate zf (bigI, [])⟩ j = some x → j = 0 ∧ x = n := by
        intro j x h
        cases j with
        | zero => cases h; exact ⟨rfl, rfl⟩
        | succ j =>
          obtain ⟨gs, h5, h6⟩ := itmF_some h
          rw [List.getElem?_replicate] at h5
          split at h5
          · cases h5; exact absurd rfl h6
          · cases h5
      have hback : ∀ {e : ME} {j x c' k' : Nat}, e ∈ es → itm e j = some x → (m.2 ++ [some (c, mc.1)])[x]? = some (some (c', k')) → m.2[x]? = some (some (c', k')) := by
        intro e j x c' k' he hx' hc'
        obtain ⟨c1, k1, h1⟩ := hM.has he hx'
        rw [app_at h1] at hc'
        cases hc'
        exact h1
      refine { len := by show (m.2 ++ [some (c, mc.1)]).length = n + 1; simp [hlen], lim := hlim, siz := hM.siz, heap := ⟨_, _, hset1, ?_⟩, root := fun i c' k' e => ?_, tch := fun e he => ?_, inj := fun i i' e e' j j' x x' c' k1 k1' q1 q2 q3 q4 q5 q6 => ?_, pnd := fun sr x gs e => ?_ }
      · rw [Array.toList_push, List.map_append, List.map_append, g2]
        congr 1
        · refine List.map_congr_left fun e he => ?_
          obtain ⟨c', cs', h3, _⟩ := hM.tch e he
          have h3' : (m.2 ++ [some (c, mc.1)])[e.t]? = some (some (c', cs'.size)) := app_at h3
          simp only [ptrAt, h3, h3']
        · simp only [List.map_cons, List.map_nil, ptrAt, hnew]
      · show c' ≠ b ∧ c' < _
        rw [List.getElem?_append] at e
        split at e
        · exact ⟨(hM.root i c' k' e).1, by simpa using (hM.root i c' k' e).2⟩
        · have := List.mem_of_getElem? e
          simp at this
          rw [this.1]
          exact ⟨hcb, by simpa using hclt⟩
      · rcases List.mem_append.1 he with he | he
        · obtain ⟨c', cs', h3, h4, h5, h6⟩ := hM.tch e he
          refine ⟨c', cs', app_at h3, (hold h3).trans h4, h5, fun j p hp => ?_⟩
          obtain ⟨u, h7, h8⟩ := h6 j p hp
          exact ⟨u, h7, (h8.mono hkp hO2 fun c2 k2 e => hold e).ext⟩
        · rw [List.mem_singleton.1 he]
          refine ⟨c, cs, by rw [r2]; exact hnew, (hset2 c hcb).trans (by rw [r1, hety]), by rw [hc2] at r3; simp at r3 ⊢; omega, fun j p hp => ?_⟩
          dsimp only at hp
          rw [List.getElem?_replicate] at hp
          split at hp
          · rename_i hj
            cases hp
            obtain ⟨v, hv, hrv⟩ := r6 j (.val (.slice none 0 0)) (by rw [hc2, List.getElem?_replicate, if_pos hj])
            refine ⟨v, hv, .inl ⟨rfl, rfl, ?_⟩⟩
            unfold RepC at hrv
            cases hp2 : k2.pure with
            | true => rw [hp2] at hrv; cases hrv; rfl
            | false => rw [hp2] at hrv; cases hrv with | imm h => cases h; rfl
          · cases hp
      · rcases hcase i e q1 with ⟨i1, i2⟩ | ⟨i1, rfl⟩ <;> rcases hcase i' e' q2 with ⟨j1, j2⟩ | ⟨j1, rfl⟩
        · exact hM.inj i i' e e' j j' x x' c' k1 k1' i2 j2 q3 q4 (hback (List.mem_of_getElem? i2) q3 q5) (hback (List.mem_of_getElem? j2) q4 q6)
        · obtain ⟨_, rfl⟩ := hitn q4
          have q6 : (m.2 ++ [some (c, mc.1)])[x']? = _ := q6
          rw [hnew] at q6
          cases q6
          exact absurd rfl (kidne (hback (List.mem_of_getElem? i2) q3 q5))
        · obtain ⟨_, rfl⟩ := hitn q3
          have q5 : (m.2 ++ [some (c, mc.1)])[x]? = _ := q5
          rw [hnew] at q5
          cases q5
          exact absurd rfl (kidne (hback (List.mem_of_getElem? j2) q4 q6))
        · obtain ⟨rfl, _⟩ := hitn q3
          obtain ⟨rfl, _⟩ := hitn q4
          exact ⟨i1.trans j1.symm, rfl⟩
      · obtain ⟨z0, ⟨c', k', cs', z1, z2, z3, z4, z5, z6⟩, z7⟩ := hM.pnd sr x gs e
        refine ⟨z0, ⟨c', k', cs', app_at z1, (hold z1).trans z2, z3, z4, z5, fun i g hg => let ⟨v, hv, hr⟩ := z6 i g hg; ⟨v, hv, hr.mono hkp hO2⟩⟩, fun e' j' x' c2 k2' k3 he' hx' hc1 hc2' => ?_⟩
        have hc1 : (m.2 ++ [some (c, mc.1)])[x]? = some (some (c2, k2')) := hc1
        rw [app_at z1] at hc1
        cases hc1
        rcases List.mem_append.1 he' with he' | he'
        · exact z7 e' j' x' c' k' k3 he' hx' z1 (hback he' hx' hc2')
        · rw [List.mem_singleton.1 he'] at hx'
          obtain ⟨_, rfl⟩ := hitn hx'
          have hc2' : (m.2 ++ [some (c, mc.1)])[x']? = _ := hc2'
          rw [hnew] at hc2'
          cases hc2'
          exact absurd rfl (kidne z1)) (fun x hx => by
      rcases List.mem_cons.1 hx with rfl | hx
      · exact hW
      · rcases List.mem_cons.1 hx with rfl | hx
        · exact hW2
        · cases hx)
  refine ⟨_, _, ?_, hG.1, hG.2⟩
  simp [execOp, e1, e2, e3, hrun]
end
end Go.AM
/-
 AM:maps:a slice's append;its store.
-/
namespace Go.AM
section
variable {P:Program}{N:Nat}{cx:Cx}{s:St}{W:List Nat}
variable {ty:TypeId}{pos:String}{after:Array Edge}{guard:Option (Nat×Bool)}{d:Nat}
theorem rnFr_id (fr:List (Nat×G)):rnFr id fr=fr:=by unfold rnFr;simp
theorem rnB_id (k:Blk):rnB id k=k:=by unfold rnB;simp
theorem EF.mapApp {t e0 : TypeId} {x y : Operand} {h z n bt : Nat} {k : Blk} {q : IntKind} {kty tty : TypeId} {es : List ME} {sr : Option (Nat × Nat)} {gs : List G} {gy : G} {v0 : Value} {f : Bool} {zv : Value} (hx : ev s x = some (.ks h z 1 gs.length)) (hy : ev s y = some gy) (hk : sget s.st h = some k)
    (hl : k.lp = some (.deep (mapDp q kty tty n es none))) (hsr : (z = bigI ∧ gs = [] ∧ sr = none) ∨ (gs ≠ [] ∧ ∃ tt j e, sr = some (tt, j) ∧ tgt es tt = some e ∧ e.f[j]? = some (z, gs))) (hsrc : gsrc s.st 1 gy = some ([.val v0], 1, f)) (hone : v0.oneCell' = true) (hety : e0 = kty) (ht : P.underlying t = some (.slice e0)) (hi : (P.info? e0).map (fun i => (i.zero, i.size, i.bytes)) = some (some zv, 1, bt))
    (hzs : zv.cells.size = 1) (hlim : n + 1 ≤ maxLen) (hmax : gs.length + 1 ≤ maxLen) (hbound : (gs.length + 1) * bt ≤ 140737488355328) (hW : W.contains h = true) :
    Effect P W s ⟨some d, .call ⟨.builtin .append, #[x, y], #[t, t]⟩, ty, pos, after, guard⟩
      (· = { fr := (d, .ks h n 1 (gs.length + 1)) :: s.fr, st := sset s.st h { k with lp := some (.deep (mapDp q kty tty (n + 1) es (some (sr, n, gs ++ [.val v0])))) }, df := s.df }) := by
  subst hety
  refine Effect.of (s1 := { fr := s.fr, st := sset s.st h { k with lp := some (.deep (mapDp q e0 tty (n + 1) es (some (sr, n, gs ++ [.val v0])))) }, df := s.df }) (g := .ks h n 1 (gs.length + 1)) rfl (fun _ h => by cases h) ?_
  intro N cx μ a w hr
  obtain ⟨i, hi1, hi2⟩ := Option.map_eq_some_iff.1 hi
  simp only [Prod.mk.injEq] at hi2
  obtain ⟨hz, hs1, hb1⟩ := hi2
  have hv : ∃ b m, μ h = some (b, m) ∧ ((a.eval x = .slice none 0 0 ∧ gs = []) ∨ ∃ c cap cs, a.eval x = .slice (some ⟨c, 0, none⟩) gs.length cap ∧ gs ≠ [] ∧ gs.length ≤ cap ∧ m.2[z]? = some (some (c, cap)) ∧ w.heap[c]? = some (.cells cs e0 (0, 0)) ∧ cs.size = cap ∧ cap ≤ maxLen ∧
        ∀ (j : Nat) (g : G), gs[j]? = some g → ∃ v, cs[j]? = some v ∧ RepI (bif k.fresh then Old (cx.O s.st μ) cx.base else cx.O s.st μ) w g v) := by
    obtain ⟨b, m, hm⟩ : ∃ b m, μ h = some (b, m) := by
      have := hr.st.blk h k hk
      cases hm : μ h with
      | none =>
        rw [hm] at this
        obtain ⟨_, h2⟩ := this
        rw [hl] at h2
        exact h2.1.elim
      | some bm => exact ⟨bm.1, bm.2, rfl⟩
    refine ⟨b, m, hm, ?_⟩
    have hM := hr.mapAt hk hl hm
    have hv := hr.ev hx
    generalize a.eval x = v at hv
    generalize hn0 : gs.length = n0 at hv
    rcases hsr with ⟨h6, hgs, _⟩ | ⟨h0, tt, j, e, _, he, hf⟩
    · subst hgs
      cases hv with
      | imm h => cases h
      | knil _ _ _ xa cap hi =>
        obtain ⟨rfl, rfl⟩ := hi h6
        exact .inl ⟨rfl, rfl⟩
      | ks _ _ _ _ b' m' c kk cap hm' hkk hn' hc' =>
        exfalso
        rw [hm] at hm'
        cases hm'
        have hlt := (List.getElem?_eq_some_iff.1 hkk).1
        have h8 := hM.len
        exact bigI_ne (i := z) (by omega) h6
    · obtain ⟨he1, he2⟩ := tgt_some he
      obtain ⟨c1, cs1, h1, h2, h3, h4⟩ := hM.tch e he1
      obtain ⟨u, h5, h6⟩ := h4 j _ hf
      rcases h6 with ⟨h6, _, _⟩ | ⟨h6, c', k', h7, h8⟩
      · exact absurd h6 h0
      · cases hv with
        | imm h => cases h
        | knil _ _ _ xa cap hi => exact absurd (List.eq_nil_of_length_eq_zero hn0) h0
        | ks _ _ _ _ b' m' c kk cap hm' hkk hn' hc' =>
          rw [hm] at hm'
          cases hm'
          rw [hkk] at h7
          cases h7
          obtain ⟨cap', cs', q1, q2, q3, q4, q5, q6, q7, q8⟩ := h8
          refine .inr ⟨_, cap, cs', by rw [← hn0], h6, by omega, by rw [hkk, ← hc', Nat.mul_one], q4, by omega, by omega, q8⟩
  obtain ⟨b, m, hm, hv⟩ := hv
  have hM := hr.mapAt hk hl hm
  have hlen := hM.len
  obtain ⟨b2, off2, c2, news, e1, e2, e3, e4, e5, e6⟩ : ∃ (b2 off2 c2 : Nat) (news : List Value), a.eval y = .slice (some ⟨b2, off2, none⟩) 1 c2 ∧ news.length = 1 * 1 ∧ (∀ (j : Nat) (u : Value), news[j]? = some u → w.cell? ⟨b2, off2 + j, none⟩ = some u) ∧ (∀ u ∈ news, u.oneCell' = true) ∧ news = [v0] ∧ True := by
    rcases hr.src hy hsrc rfl (fun g hg => by simp at hg; subst hg; exact hone) with ⟨_, h2⟩ | ⟨b2, off2, c2, news, e1, e2, e3, e4, e5, e6⟩
    · cases h2
    · refine ⟨b2, off2, c2, news, e1, e2, e3, e4, ?_, trivial⟩
      obtain ⟨u, h1, h2⟩ := e5 0 _ rfl
      cases h2
      match news, e2, h1 with
      | [u], _, h1 => cases h1; rfl
  subst e5
  have hcell : ∀ j u, [v0][j]? = some u → w.cell? ((⟨b2, off2, none⟩ : Addr).add j) = some u := fun j u hu => by rw [Addr.add_off]; exact e3 j u hu
  have hown : ∃ v xs, a.eval x = v ∧ w.ownsRow 0 e0 1 v gs.length xs ∧ ∀ (j : Nat) (g : G), gs[j]? = some g → ∃ v, xs[j]? = some v ∧ RepI (bif k.fresh then Old (cx.O s.st μ) cx.base else cx.O s.st μ) w g v := by
    rcases hv with ⟨h1, h2⟩ | ⟨c, cap, cs, h1, h0, h2, h3, h4, h5, h6, h7⟩
    · subst h2
      exact ⟨_, [], h1, World.ownsRow_nil w 0 e0 1, fun j g hg => by simp at hg⟩
    · refine ⟨_, cs.toList.take (gs.length * 1), h1, ⟨?_, .inr ⟨c, cap, cs, rfl, Nat.zero_le _, h4, h2, h6, by omega, rfl⟩⟩, fun j g hg => ?_⟩
      · have : cs.toList.length = cap := by rw [Array.length_toList]; exact h5
        rw [List.length_take]; omega
      · obtain ⟨v, hv, hrv⟩ := h7 j g hg
        have hj : j < gs.length * 1 := by have := (List.getElem?_eq_some_iff.1 hg).1; omega
        exact ⟨v, by rw [List.getElem?_take, if_pos hj, Array.getElem?_toList]; exact hv, hrv⟩
  obtain ⟨v, xs, h1, h2, h5⟩ := hown
  have law := run_append_own (P := P) w 0 t ty e0 i zv 1 bt ht hi1 hz hs1 hb1 hzs Nat.one_pos v gs.length xs h2 ⟨b2, off2, none⟩ 1 c2 [v0] e2 hcell e4 hmax hbound (Nat.zero_le _)
  rw [← h1, ← e1] at law
  obtain ⟨v', w', hrun, ho, hgrow, _⟩ := law
  have hblock : ∃ g cap, v' = .slice (some ⟨g, 0, none⟩) (gs.length + 1) cap ∧ ((∃ cap0, gs ≠ [] ∧ m.2[z]? = some (some (g, cap0)) ∧ cap0 = cap) ∨ (w.heap.size ≤ g ∧ ∀ c, c < w.heap.size → w'.heap[c]? = w.heap[c]?)) := by
    have hmm : gs.length + 1 ≤ 9223372036854775807 := by unfold maxLen at hmax; omega
    rcases hv with ⟨q1, q2⟩ | ⟨c, cap, cs, q1, q0, q2, q3, q4, q5, q6, q7⟩
    · subst q2
      have hr2 := run_append_nil (P := P) w t ty e0 i zv ht hi1 hz ⟨b2, off2, none⟩ 1 c2 [v0] (by rw [hs1]; exact e2) hcell Nat.one_pos (by omega) (by rw [hb1]; simp only [List.length_nil, Nat.zero_add] at hbound; omega)
      rw [q1, e1, hr2] at hrun
      injection hrun with r1 r2
      exact ⟨_, _, r1.symm, .inr ⟨Nat.le_refl _, fun c hc => by rw [← r2]; exact Go.RowKit.Below.heap_alloc w.drew _ c hc⟩⟩
    · rcases h2.2 with ⟨q10, q11⟩ | ⟨g, cap', cur, q10, _, q12, q13, q14, q15, q16⟩
      · rw [← h1, q1] at q10; cases q10
      · rw [← h1, q1] at q10
        cases q10
        by_cases hroom : gs.length + 1 ≤ cap
        · have hfit : gs.length * i.size + [v0].length ≤ cur.size := by rw [hs1, q15]; simp; omega
          have hr2 := run_append_room (P := P) w t ty e0 i ht hi1 c gs.length cap cur q12 ⟨b2, off2, none⟩ 1 c2 [v0] (by rw [hs1]; exact e2) hcell e4 hroom hfit
          rw [q1, e1, hr2] at hrun
          injection hrun with r1 r2
          exact ⟨_, _, r1.symm, .inl ⟨cap, q0, q3, rfl⟩⟩
        · have holds := h2.cells (g := c) (by rw [← h1, q1]; rfl)
          have hr2 := run_append_grow (P := P) w t ty e0 i zv ht hi1 hz ⟨c, 0, none⟩ gs.length cap xs (by rw [hs1]; exact h2.1) holds ⟨b2, off2, none⟩ 1 c2 [v0] (by rw [hs1]; exact e2) hcell (by omega)
            (by omega) (growslice_fits (by omega) (by rw [hb1]; exact hbound))
          rw [q1, e1, hr2] at hrun
          injection hrun with r1 r2
          exact ⟨_, _, r1.symm, .inr ⟨Nat.le_refl _, fun c hc => by rw [← r2]; exact Go.RowKit.Below.heap_alloc w.drew _ c hc⟩⟩
  obtain ⟨g, cap, rfl, hg⟩ := hblock
  obtain ⟨ho1, ho2⟩ := ho
  rcases ho2 with ⟨ho2, _⟩ | ⟨g', cap', cur, ho2, _, hcur, hnc, hcm, hcs, htake⟩
  · cases ho2
  cases ho2
  have hget : ∀ (j : Nat) (v : Value), (xs ++ [v0])[j]? = some v → cur[j]? = some v := by
    intro j v hv
    rw [← htake, List.getElem?_take] at hv
    split at hv
    · rw [Array.getElem?_toList] at hv; exact hv
    · cases hv
  have hxl : xs.length = gs.length := by rw [h2.1, Nat.mul_one]
  have hsrcb : ∀ c, (a.eval x).ownBlock = some c → ∃ cap0, gs ≠ [] ∧ m.2[z]? = some (some (c, cap0)) := by
    intro c hc
    rcases hv with ⟨q1, q2⟩ | ⟨c', cap, cs, q1, q0, q2, q3, _⟩
    · rw [q1] at hc; cases hc
    · rw [q1] at hc; cases hc; exact ⟨cap, q0, q3⟩
  have hstay : ∀ c, c < w.heap.size → (∀ cap0, gs ≠ [] → m.2[z]? ≠ some (some (c, cap0))) → w'.heap[c]? = w.heap[c]? := by
    intro c hc hn
    refine hgrow.block c hc fun e' => ?_
    obtain ⟨cap0, h3, h4⟩ := hsrcb c e'.symm
    exact hn cap0 h3 h4
  have hblt : b < w.heap.size := let ⟨_, _, q1, _⟩ := hM.heap; lt_of_heap q1
  have hgb : g ≠ b := by
    rcases hg with ⟨cap0, _, h3, _⟩ | ⟨h3, _⟩
    · exact (hM.root z g cap0 h3).1
    · omega
  have hgl : g < w'.heap.size := lt_of_heap hcur
  have hnew : (m.2 ++ [some (g, cap)])[n]? = some (some (g, cap)) := by rw [← hlen]; simp
  have hsrc0 : gs ≠ [] → ∃ p e j, es[p]? = some e ∧ sr = some (e.t, j) ∧ e.f[j]? = some (z, gs) ∧ itm e (j + 1) = some z := fun h0 => by
    rcases hsr with ⟨_, h, _⟩ | ⟨_, tt, j, e, h1, he, hf⟩
    · exact absurd h h0
    · obtain ⟨he1, he2⟩ := tgt_some he
      obtain ⟨p, hp⟩ := List.getElem?_of_mem he1
      exact ⟨p, e, j, hp, by rw [h1, he2], hf, itmF_of hf h0⟩
  have hback : ∀ {e : ME} {j x c' k' : Nat}, e ∈ es → itm e j = some x → (m.2 ++ [some (g, cap)])[x]? = some (some (c', k')) → m.2[x]? = some (some (c', k')) := by
    intro e j x c' k' he hx' hc'
    obtain ⟨c1, k1, h1⟩ := hM.has he hx'
    rw [app_at h1] at hc'
    cases hc'
    exact h1
  have hb0 := hr.st.blk h k hk
  rw [hm] at hb0
  obtain ⟨_, p2, p3, p4⟩ := (RelBlk.deep hl).1 hb0
  have hG := hr.grow (W := W) (w' := w') (l' := [some (g, cap)]) (rm := []) (rn := id) (k' := { k with lp := some (.deep (mapDp q e0 tty (n + 1) es (some (sr, n, gs ++ [.val v0])))) }) (st' := sset s.st h { k with lp := some (.deep (mapDp q e0 tty (n + 1) es (some (sr, n, gs ++ [.val v0])))) })
    hk hm (sget_sset_same hk) (fun x k1 hxh h1 => by
      rw [sget_sset_other hxh] at h1
      exact ⟨by simp, k1, h1, (rnB_id k1).symm⟩) (fun c' n' hc' => by
      simp at hc'
      obtain ⟨rfl, rfl⟩ := hc'
      rcases hg with ⟨cap0, _, h3, _⟩ | ⟨h3, _⟩
      · exact .inl ⟨cap0, List.mem_of_getElem? h3⟩
      · exact .inr (.inl ⟨h3, hgl⟩)) (by simp)
    (fun O base w g v hv => hv.remapE fun y _ => by
      by_cases e : y = h
      · subst e; rw [upd_same, hm]; exact .inr ⟨b, m.1, m.2, _, rfl, rfl⟩
      · rw [upd_other e]; exact .inl rfl)
    (fun g _ => rfl) hgrow.size (fun x hxl hxn => hstay x hxl fun cap0 _ h3 => hxn (.kid h3)) hgrow.os hgrow.tape hgrow.output id (fun O' hO => by
      refine (RelBlk.deep (d := mapDp q e0 tty (n + 1) es (some (sr, n, gs ++ [.val v0]))) rfl).2 ⟨?_, p2, p3, p4⟩
      have hO2 : ∀ x, x < w.heap.size → ¬ (bif k.fresh then Old (cx.O s.st μ) cx.base else cx.O s.st μ) x → ¬ (bif k.fresh then Old O' cx.base else O') x := by
        intro x hx hn ho
        cases hkf : k.fresh with
        | false => rw [hkf] at hn ho; exact hn (hO x hx ho)
        | true => rw [hkf] at hn ho; exact hn (ho.imp id (hO x hx))
      have hkp : Kept (bif k.fresh then Old (cx.O s.st μ) cx.base else cx.O s.st μ) w w' := by
        refine ⟨hgrow.size, fun b' hb' hn => hstay b' hb' fun cap0 _ h3 => hn ?_⟩
        have hown : cx.O s.st μ b' := .inr ⟨h, k, b, m, hk, hm, .kid h3⟩
        cases k.fresh with
        | false => exact hown
        | true => exact .inr hown
      have hoth : ∀ {i : Nat} {e' : ME} {j' x' c' k' : Nat}, es[i]? = some e' → itm e' j' = some x' → m.2[x']? = some (some (c', k')) → (∀ p e j, es[p]? = some e → e.f[j]? = some (z, gs) → sr = some (e.t, j) → i ≠ p ∨ j' ≠ j + 1) → w'.heap[c']? = w.heap[c']? := by
        intro i e' j' x' c' k' q1 q2 q3 q4
        refine hstay c' (hM.root x' c' k' q3).2 fun cap0 h0 h3 => ?_
        obtain ⟨p, e, j, hp, hs, hf, hit⟩ := hsrc0 h0
        obtain ⟨r1, r2⟩ := hM.inj i p e' e j' (j + 1) x' z c' k' cap0 q1 hp q2 hit q3 h3
        rcases q4 p e j hp hf hs with q4 | q4
        · exact q4 r1
        · exact q4 r2
      refine { len := by show (m.2 ++ [some (g, cap)]).length = n + 1; simp [hlen], lim := hlim, siz := hM.siz, heap := ?_, root := fun i c' k' e => ?_, tch := fun e' he' => ?_, inj := fun i i' e e' j j' x x' c' k1 k1' q1 q2 q3 q4 q5 q6 => hM.inj i i' e e' j j' x x' c' k1 k1' q1 q2 q3 q4 (hback (List.mem_of_getElem? q1) q3 q5) (hback (List.mem_of_getElem? q2) q4 q6), pnd := fun sr' x gs' e' => ?_ }
      · obtain ⟨ms, cl, g1, g2⟩ := hM.heap
        refine ⟨ms, cl, (hstay b hblt fun cap0 _ h3 => (hM.root z b cap0 h3).1 rfl).trans g1, ?_⟩
        rw [g2]
        refine List.map_congr_left fun e he => ?_
        obtain ⟨c', cs', h3, _⟩ := hM.tch e he
        have h3' : (m.2 ++ [some (g, cap)])[e.t]? = some (some (c', cs'.size)) := app_at h3
        simp only [ptrAt, h3, h3']
      · show c' ≠ b ∧ c' < _
        rw [List.getElem?_append] at e
        split at e
        · exact ⟨(hM.root i c' k' e).1, Nat.lt_of_lt_of_le (hM.root i c' k' e).2 hgrow.size⟩
        · have := List.mem_of_getElem? e
          simp at this
          rw [this.1]
          exact ⟨hgb, hgl⟩
      · obtain ⟨i', hi'⟩ := List.getElem?_of_mem he'
        obtain ⟨c', cs', h3, h4, h5', h6⟩ := hM.tch e' he'
        refine ⟨c', cs', app_at h3, (hoth hi' (j' := 0) rfl h3 (fun _ _ _ _ _ _ => .inr (by omega))).trans h4, h5', fun j' p' hp' => ?_⟩
        obtain ⟨u, h7, h8⟩ := h6 j' p' hp'
        refine ⟨u, h7, ?_⟩
        rcases h8 with h8 | ⟨r0, c1, k1, r1, r2⟩
        · exact .inl h8
        · by_cases hsame : ∃ p e j, es[p]? = some e ∧ e.f[j]? = some (z, gs) ∧ sr = some (e.t, j) ∧ i' = p ∧ j' = j
          · obtain ⟨p, e, j, hp, hf, _, rfl, rfl⟩ := hsame
            rw [hp] at hi'
            cases hi'
            rw [hf] at hp'
            cases hp'
            obtain ⟨cap1, cs1, s1, s2, s3, s4, s5, s6, s7, s8⟩ := r2
            rcases hg with ⟨cap0, _, h3', h3''⟩ | ⟨_, h3'⟩
            ·
              rw [h3'] at r1
              cases r1
              refine .inr ⟨r0, g, k1, app_at h3', cap1, cur, s1, s2, s3, hcur, by omega, by omega, s7, fun i g0 hg0 => ?_⟩
              obtain ⟨v, hv1, hv2⟩ := h5 i g0 hg0
              refine ⟨v, hget i v ?_, hv2.mono hkp hO2⟩
              rw [List.getElem?_append_left (List.getElem?_eq_some_iff.1 hv1).1]
              exact hv1
            ·
              have hst : w'.heap[c1]? = w.heap[c1]? := h3' c1 (hM.root z c1 k1 r1).2
              exact (SlAt.mono (.inr ⟨r0, c1, k1, r1, cap1, cs1, s1, s2, s3, s4, s5, s6, s7, s8⟩) hkp hO2 fun c k e => by rw [r1] at e; cases e; exact hst).ext
          · exact (SlAt.mono (.inr ⟨r0, c1, k1, r1, r2⟩) hkp hO2 fun c k e => by
              rw [r1] at e; cases e
              refine hoth hi' (show itm e' (j' + 1) = some p'.1 from itmF_of hp' r0) r1 fun p e j h1 h2 h3 => ?_
              by_cases q1 : i' = p
              · exact .inr fun q2 => hsame ⟨p, e, j, h1, h2, h3, q1, by omega⟩
              · exact .inl q1).ext
      · cases e'
        refine ⟨by simp, ⟨g, cap, cur, hnew, hcur, by omega, hcm, by simp; omega, fun i g0 hg0 => ?_⟩, fun e' j' x' c' k1 k1' q1 q2 q3 q4 => ?_⟩
        · rw [List.getElem?_append] at hg0
          split at hg0
          · obtain ⟨v, hv1, hv2⟩ := h5 i g0 hg0
            refine ⟨v, hget i v ?_, hv2.mono hkp hO2⟩
            rw [List.getElem?_append_left (List.getElem?_eq_some_iff.1 hv1).1]
            exact hv1
          · rename_i hi0
            have : i - gs.length = 0 := by
              cases hd : i - gs.length with
              | zero => rfl
              | succ d => rw [hd] at hg0; simp at hg0
            rw [this] at hg0
            cases hg0
            refine ⟨v0, hget i v0 ?_, .val _⟩
            rw [List.getElem?_append_right (by omega), show i - xs.length = 0 by omega]; rfl
        · have q3 : (m.2 ++ [some (g, cap)])[n]? = _ := q3
          rw [hnew] at q3
          cases q3
          have q4 := hback q1 q2 q4
          obtain ⟨i1, hi1⟩ := List.getElem?_of_mem q1
          rcases hg with ⟨cap0, h0, h3, _⟩ | ⟨h3, _⟩
          · obtain ⟨p, e, j, hp, hs, hf, hit⟩ := hsrc0 h0
            obtain ⟨r1, r2⟩ := hM.inj i1 p e' e j' (j + 1) x' z g k1' cap0 hi1 hp q2 hit q4 h3
            subst r1
            rw [hp] at hi1
            cases hi1
            exact ⟨j, hs, r2⟩
          · have := (hM.root x' g k1' q4).2
            omega) (fun x hx => by
      rcases List.mem_cons.1 hx with rfl | hx
      · exact hW
      · cases hx)
  rw [rnFr_id] at hG
  refine ⟨_, _, w', ?_, hG.1, .ks h n 1 (gs.length + 1) b _ g cap cap (upd_same _ _ _) hnew hnc (Nat.mul_one _), hG.2⟩
  simp only [execOp, resolve, invoke, builtin, Sem.run_bind, Sem.run_pure, Result.andThen_ok, List.map_toArray, List.map_cons, List.map_nil, hrun]
def setF (es:List ME) (t j:Nat) (p:Nat×List G):List ME:=es.map fun e=>bif Nat.beq e.t t then {e with f:=e.f.set j p} else e
theorem setF_get {es:List ME}{t j i:Nat}{p:Nat×List G}{e':ME}(h:(setF es t j p)[i]?=some e'):∃e,es[i]?=some e∧((e.t=t∧e'={e with f:=e.f.set j p})∨(e.t≠t∧e'=e)):=by
 unfold setF at h
 rw[List.getElem?_map] at h
 cases he:es[i]? with
 | none=>rw[he] at h;cases h
 | some e=>
  rw[he] at h
  cases h
  refine⟨e,rfl,?_⟩
  cases hb:Nat.beq e.t t with
  | true=>exact .inl ⟨Nat.eq_of_beq_eq_true hb,by simp[hb]⟩
  | false=>exact .inr ⟨(fun e'=>by subst e';rw[Nat.beq_refl] at hb;cases hb),by simp[hb]⟩
theorem EF.mapSt {t:TypeId}{x y:Operand}{h tt j z n:Nat}{sr:Option (Nat×Nat)}{k:Blk}{q:IntKind}{kty tty:TypeId}{es:List ME}{e:ME}{gs:List G}(hx:ev s x=some (.kp h tt j)) (hy:ev s y=some (.ks h z 1 gs.length)) (hk:sget s.st h=some k)
  (hl:k.lp=some (.deep (mapDp q kty tty n es (some (sr,z,gs))))) (hsr:sr=none∨sr=some (tt,j)) (he:tgt es tt=some e) (hj:j<e.f.length) (hsz:∀w,(sizeOf t).run P w=.ok 1 w) (hW:W.contains h=true):
  Effect P W s ⟨none,.store t x y,ty,pos,after,guard⟩ (·={fr:=s.fr,st:=sset s.st h {k with lp:=some (.deep (mapDp q kty tty n (setF es tt j (z,gs)) none))},df:=s.df}):=by
 refine Effect.skip rfl (fun _ h=>by cases h) ?_
 intro N cx μ a w hr
 obtain⟨b,m,c,n',e1,hm,hc⟩:=hr.kp hx
 have hM:=hr.mapAt hk hl hm
 obtain⟨he1,he2⟩:=tgt_some he
 obtain⟨c',cs,h1,h2,h3,h4⟩:=hM.tch e he1
 rw[he2,hc] at h1
 cases h1
 obtain⟨z0,⟨c2,k2,cs2,z1,z2,z3,z4,z5,z6⟩,z7'⟩:=hM.pnd sr z gs rfl
 have z7:∀(e:ME) (j' x' c k k':Nat),e∈es→itm e j'=some x'→m.2[z]?=some (some (c,k))→m.2[x']?=some (some (c,k'))→e.t=tt∧j'=j+1:=fun e j' x' c k k' q1 q2 q3 q4=>by
  obtain⟨j0,r1,r2⟩:=z7' e j' x' c k k' q1 q2 q3 q4
  rcases hsr with hsr | hsr
  ·rw[hsr] at r1;cases r1
  ·rw[hsr] at r1;cases r1;exact⟨rfl,r2⟩
 have hval:∃cap,a.eval y=.slice (some ⟨c2,0,none⟩) gs.length cap∧gs.length≤cap∧cap=k2:=by
  have hv:=hr.ev hy
  generalize a.eval y=v at hv
  generalize hn0:gs.length=n0 at hv
  cases hv with
  | imm h=>cases h
  | knil _ _ _ xa cap hi=>exact absurd (List.eq_nil_of_length_eq_zero hn0) z0
  | ks _ _ _ _ b' m' c3 kk cap hm' hkk hn' hc'=>
   rw[hm] at hm'
   cases hm'
   rw[z1] at hkk
   cases hkk
   exact⟨cap,by first | rfl | rw[hn0],by omega,by omega⟩
 obtain⟨cap,v1,v2,rfl⟩:=hval
 have hlen:j<cs.size:=by omega
 have hrun:=run_storeCells_at P c j tty [a.eval y] 0 cs w h2 (by simp;omega) (fun v hv=>by simp at hv;subst hv;rw[v1];rfl)
 simp only[Nat.add_zero,List.length_cons,List.length_nil,Nat.zero_add] at hrun
 have hcells:(a.eval y).cells=#[a.eval y]:=oneCell_cells (by rw[v1];rfl)
 have hset:(cs.toList.take j++[a.eval y]++cs.toList.drop (j+1)).toArray=cs.setIfInBounds j (a.eval y):=by
  apply Array.ext'
  rw[Array.toList_setIfInBounds,List.set_eq_take_append_cons_drop,if_pos (by rw[Array.length_toList];omega)]
  simp
 rw[hset] at hrun
 obtain⟨p,hp⟩:=List.getElem?_of_mem he1
 refine⟨μ,w.setRow c (cs.setIfInBounds j (a.eval y)),?_,?_⟩
 ·simp only[execOp,Instr.storeAt,Instr.sureAddr,e1,storeVar,hsz,Sem.run_bind,Sem.run_pure,Result.andThen_ok]
  rw[if_neg (by rw[hcells];simp)]
  rw[hcells]
  show((storeCells ⟨c,j,none⟩ [a.eval y] 0).run P w).andThen _=_
  rw[hrun]
  rfl
 ·refine hr.rewrite (k':={k with lp:=some (.deep (mapDp q kty tty n (setF es tt j (z,gs)) none))}) hk hm (.kid hc) (setRow_size _ _ _) (fun b' hb'=>setRow_other w c b' _ hb') rfl rfl rfl id (fun O' hO=>?_) hW
  have hb0:=hr.st.blk h k hk
  rw[hm] at hb0
  obtain⟨_,p2,p3,p4⟩:=(RelBlk.deep hl).1 hb0
  refine(RelBlk.deep (d:=mapDp q kty tty n (setF es tt j (z,gs)) none) rfl).2 ⟨?_,p2,p3,p4⟩
  have hO2:∀x,x<w.heap.size→¬(bif k.fresh then Old (cx.O s.st μ) cx.base else cx.O s.st μ) x→¬(bif k.fresh then Old O' cx.base else O') x:=by
   intro x hx hn ho
   cases hkf:k.fresh with
   | false=>rw[hkf] at hn ho;exact hn ((hO x).2 ho)
   | true=>rw[hkf] at hn ho;exact hn (ho.imp id (hO x).2)
  have hkp:Kept (bif k.fresh then Old (cx.O s.st μ) cx.base else cx.O s.st μ) w (w.setRow c (cs.setIfInBounds j (a.eval y))):=by
   refine⟨by rw[setRow_size];exact Nat.le_refl _,fun b' _ hn=>setRow_other w c b' _ fun e=>hn ?_⟩
   subst e
   have:cx.O s.st μ b':=.inr ⟨h,k,b,m,hk,hm,.kid hc⟩
   cases k.fresh with
   | false=>exact this
   | true=>exact .inr this
  have hthe:∀{i:Nat}{e':ME},es[i]?=some e'→e'.t=tt→i=p∧e'=e:=by
   intro i e' q1 q2
   have:=(hM.inj i p e' e 0 0 tt tt c cs.size cs.size q1 hp (by rw[itm,q2]) (by rw[itm,he2]) hc hc).1
   subst this
   rw[hp] at q1
   cases q1
   exact⟨rfl,rfl⟩
  have hoth:∀{i:Nat}{e':ME}{j' x' c' k':Nat},es[i]?=some e'→itm e' j'=some x'→m.2[x']?=some (some (c',k'))→(i≠p∨j'≠0)→(w.setRow c (cs.setIfInBounds j (a.eval y))).heap[c']?=w.heap[c']?:=by
   intro i e' j' x' c' k' q1 q2 q3 q4
   refine setRow_other w c c' _ fun e3=>?_
   subst e3
   obtain⟨r1,r2⟩:=hM.inj i p e' e j' 0 x' tt c' k' cs.size q1 hp q2 (by rw[itm,he2]) q3 hc
   rcases q4 with q4 | q4
   ·exact q4 r1
   ·exact q4 r2
  have hc2:c2≠c:=fun e3=>by
   subst e3
   have:=(z7 e 0 tt c2 cap cs.size he1 (by rw[itm,he2]) z1 hc).2
   omega
  have hnewi:∀{i:Nat}{e':ME}{j' x':Nat},(setF es tt j (z,gs))[i]?=some e'→itm e' j'=some x'→(i=p∧j'=j+1∧x'=z)∨∃e0,es[i]?=some e0∧itm e0 j'=some x'∧(i≠p∨j'≠j+1):=by
   intro i e' j' x' q1 q2
   obtain⟨e0,r1,r2⟩:=setF_get q1
   rcases r2 with ⟨r2,rfl⟩ | ⟨r2,rfl⟩
   ·obtain⟨rfl,rfl⟩:=hthe r1 r2
    cases j' with
    | zero=>exact .inr ⟨_,r1,q2,.inr (by omega)⟩
    | succ j'=>
     obtain⟨gs',s1,s2⟩:=itmF_some q2
     dsimp only at s1
     by_cases hjj:j'=j
     ·subst hjj
      rw[List.getElem?_set_self hj] at s1
      cases s1
      exact .inl ⟨rfl,rfl,rfl⟩
     ·rw[List.getElem?_set_ne (fun h=>hjj h.symm)] at s1
      exact .inr ⟨_,r1,itmF_of s1 s2,.inr (by omega)⟩
   ·refine .inr ⟨_,r1,q2,.inl fun e3=>r2 ?_⟩
    subst e3
    rw[hp] at r1
    cases r1
    exact he2
  refine {len:=hM.len,lim:=hM.lim,siz:=hM.siz,heap:=?_,root:=fun i c k e=>⟨(hM.root i c k e).1,by rw[setRow_size];exact(hM.root i c k e).2⟩,tch:=fun e' he'=>?_,inj:=fun i i' e3 e3' j1 j1' x x' c' k1 k1' q1 q2 q3 q4 q5 q6=>?_,pnd:=fun sr x gs e=>by cases e}
  ·obtain⟨ms,cl,g1,g2⟩:=hM.heap
   refine⟨ms,cl,(setRow_other w c b _ fun e=>(hM.root tt c _ hc).1 e.symm).trans g1,?_⟩
   rw[g2]
   unfold setF
   rw[List.map_map]
   refine List.map_congr_left fun e0 _=>?_
   simp only[Function.comp]
   cases Nat.beq e0.t tt <;> rfl
  ·obtain⟨i,hi⟩:=List.getElem?_of_mem he'
   obtain⟨e0,r1,r2⟩:=setF_get hi
   obtain⟨c0,cs0,s1,s2,s3,s4⟩:=hM.tch e0 (List.mem_of_getElem? r1)
   have stay:∀{j':Nat}{p':Nat×List G}{u:Value},e0.f[j']?=some p'→SlAt (bif k.fresh then Old (cx.O s.st μ) cx.base else cx.O s.st μ) w kty m p' u→SlAt (bif k.fresh then Old O' cx.base else O') (w.setRow c (cs.setIfInBounds j (a.eval y))) kty m p' u:=by
    intro j' p' u t1 t2
    rcases t2 with t2 | ⟨t0,c1,k1,t3,t4⟩
    ·exact .inl t2
    ·exact SlAt.mono (.inr ⟨t0,c1,k1,t3,t4⟩) hkp hO2 fun c k e=>by rw[t3] at e;cases e;exact hoth r1 (show itm e0 (j'+1)=some p'.1 from itmF_of t1 t0) t3 (.inr (by omega))
   rcases r2 with ⟨r2,rfl⟩ | ⟨r2,rfl⟩
   ·obtain⟨rfl,rfl⟩:=hthe r1 r2
    rw[r2,hc] at s1
    simp only[Option.some.injEq,Prod.mk.injEq] at s1
    obtain⟨s1,_⟩:=s1
    subst s1
    rw[h2] at s2
    simp only[Option.some.injEq,Obj.cells.injEq,and_true] at s2
    subst s2
    refine⟨c,cs.setIfInBounds j (a.eval y),by rw[r2,Array.size_setIfInBounds];exact hc,setRow_heap_same h2,by simpa using s3,fun j' p' hp'=>?_⟩
    dsimp only at hp'
    by_cases hjj:j'=j
    ·subst hjj
     rw[List.getElem?_set_self hj] at hp'
     cases hp'
     refine⟨a.eval y,by rw[Array.getElem?_setIfInBounds_self_of_lt hlen],.inr ⟨z0,c2,cap,z1,cap,cs2,v1,v2,Nat.mul_one _,(setRow_other w c c2 _ hc2).trans z2,z3,by omega,(Nat.mul_one _).symm,fun i g hg=>let ⟨v,hv,hrv⟩:=z6 i g hg;⟨v,hv,hrv.mono hkp hO2⟩⟩⟩
    ·rw[List.getElem?_set_ne (fun h=>hjj h.symm)] at hp'
     obtain⟨u,t1,t2⟩:=s4 j' p' hp'
     exact⟨u,by rw[Array.getElem?_setIfInBounds_ne (fun h=>hjj h.symm)];exact t1,stay hp' t2⟩
   ·have hip:i≠p:=fun e3=>r2 (by subst e3;rw[hp] at r1;cases r1;exact he2)
    refine⟨c0,cs0,s1,(hoth r1 (j':=0) rfl s1 (.inl hip)).trans s2,s3,fun j' p' hp'=>?_⟩
    obtain⟨u,t1,t2⟩:=s4 j' p' hp'
    exact⟨u,t1,stay hp' t2⟩
  ·rcases hnewi q1 q3 with ⟨r1,r2,r3⟩ | ⟨e0,r1,r2,r3⟩ <;> rcases hnewi q2 q4 with ⟨t1,t2,t3⟩ | ⟨e0',t1,t2,t3⟩
   ·exact⟨r1.trans t1.symm,r2.trans t2.symm⟩
   ·exfalso
    subst r3
    obtain⟨w1,w2⟩:=z7 e0' j1' x' c' k1 k1' (List.mem_of_getElem? t1) t2 q5 q6
    have:=(hthe t1 w1).1
    rcases t3 with t3 | t3
    ·exact t3 this
    ·exact t3 w2
   ·exfalso
    subst t3
    obtain⟨w1,w2⟩:=z7 e0 j1 x c' k1' k1 (List.mem_of_getElem? r1) r2 q6 q5
    have:=(hthe r1 w1).1
    rcases r3 with r3 | r3
    ·exact r3 this
    ·exact r3 w2
   ·exact hM.inj i i' e0 e0' j1 j1' x x' c' k1 k1' r1 t1 r2 t2 q5 q6
variable {dst:Option Tmp}
theorem YL.mapCell {t:TypeId}{x:Operand}{h z off:Nat}{k:Blk}{q:IntKind}{kty tty:TypeId}{n:Nat}{es:List ME}{pd:Option (Option (Nat×Nat)×Nat×List G)}{gs:List G}{u:Value}(hx:ev s x=some (.kp h z off)) (hk:sget s.st h=some k) (hl:k.lp=some (.deep (mapDp q kty tty n es pd)))
  (hrow:rowM z es=some gs) (hg:gs[off]?=some (.val u)) (hag:∀w,(isAgg t).run P w=.ok false w) (hW:W.contains h=false):Yield P W s ⟨dst,.load t x,ty,pos,after,guard⟩ (.val u):=fun N cx μ a w hrel=>by
 obtain⟨b,m,c,n',e1,hm,hc⟩:=hrel.kp hx
 have hM:=hrel.mapAt hk hl hm
 obtain⟨c',k',cs,ety,h1,h2,h3⟩:=(mapDp q kty tty n es pd).rowOk hM hrow
 rw[hc] at h1
 cases h1
 obtain⟨v,h5,h6⟩:=h3 off _ hg
 cases h6
 refine⟨u,.imm (.val _),fun w' hs hw'=>?_⟩
 have hb:=hrel.agreeIn hk hm hW ⟨hs,hw'⟩ (.kid hc)
 rw[h2] at hb
 have hcell:w'.cell? ⟨c,off,none⟩=some u:=by rw[cell_of hb,h5]
 simp[execOp,e1,Instr.loadAt,Instr.sureAddr,loadVar,hag,hcell]
end
end Go.AM
/-
 AM:deferred calls,panics that are caught.
-/
namespace Go.AM
section
variable {P:Program}{F:Fence}{n:Nat}
theorem goes_stepsM {fn:Func}{tmps:Array Value}{R:Ending→World→Prop}:∀(ds:List Deferred) (u:FrameMode) (w:World) (fr:Frame) (cs:List Frame),
  fr.mode=u→fr.defers=ds→fr.tmps=tmps→P.funcs[fr.fn]?=some fn→F.fn fr.fn→F.room (cs.length+1+n)→LeavesInM F n P fn tmps R ds u w→
  ∃e w' fr',R e w'∧ComesIn (Machine.fenced P F) P (lone fr cs w) (lone fr' cs w') e∧fr'.fn=fr.fn∧fr'.kind=fr.kind∧fr'.going P w' e
 | [],u,w,fr,cs,hu,hd,ht,hf,hb,hroom,h=>by
  have h:LeavesIn F n P fn tmps R [] u w:=h
  cases u with
  | run=>exact h.elim
  | returning=>
   obtain⟨v,hr,hR⟩:=h
   exact⟨.returned v,w,fr,hR,StepsIn.refl _,rfl,rfl,hu,hd,fn,hf,ht▸hr⟩
  | panicking chain=>exact⟨.panicked chain,w,fr,h,StepsIn.refl _,rfl,rfl,hu,hd,fn,hf⟩
 | d::ds,u,w,fr,cs,hu,hd,ht,hf,hb,hroom,h=>by
  obtain⟨hrun,h⟩:=h
  rcases h with ⟨r,w',htar,htake,hrest⟩ | ⟨hn,fv,cap,f,args,htar,hinv,hlead,hcall⟩
  ·have h1:=step_collected (cs:=cs) (hu▸hrun) hd htar htake
   have i1:(lone fr cs w).fenced P F:=fenced_out hb hroom (hu▸hrun) hd (fun g hg=>by rw[htar] at hg;simp[Target.leads] at hg)
   obtain⟨e',w'',fr',q1,q2,q3,q4,q5⟩:=goes_stepsM ds u w' {fr with defers:=[]++ds} cs hu rfl ht hf hb hroom hrest
   exact⟨e',w'',fr',q1,ComesIn.of_steps (.one i1 h1) q2,q3,q4,q5⟩
  ·have h1:=step_defer (cs:=cs) (hu▸hrun) hd htar hinv
   have i1:(lone fr cs w).fenced P F:=fenced_out hb hroom (hu▸hrun) hd hlead
   have hroom':F.room (({fr with defers:=ds}::cs).length+1+(n-1)):=Fence.room_enter hroom hn
   obtain⟨hFf,hcall⟩:=hcall
   obtain⟨e,u',w',frX,hR,hsteps,hkX,hfX,hgo⟩:=hcall {fr with defers:=ds} cs hu hroom'
   cases e with
   | outgrown=>exact⟨.outgrown,w',fr,hR,Outgrown.of_steps (.one h1) hsteps,rfl,rfl,trivial⟩
   | returned v=>
    have i2:(lone frX ({{fr with defers:=ds} with mode:=u'}::cs) w').fenced P F:=fenced_going (n:=n-1) (hfX▸hFf) hroom' hgo
    have h2:=step_going_returned (c:={{fr with defers:=ds} with mode:=u'}) (cs:=cs) hkX hgo
    obtain⟨e',w'',fr',q1,q2,q3,q4,q5⟩:=goes_stepsM ds (settle u') w' {{{fr with defers:=ds} with mode:=u'} with mode:=settle u'} cs rfl rfl ht hf hb hroom hR
    exact⟨e',w'',fr',q1,ComesIn.of_steps (.head i1 h1 (StepsIn.trans hsteps (.one i2 h2))) q2,q3,q4,q5⟩
   | panicked chain=>
    have i2:(lone frX ({{fr with defers:=ds} with mode:=u'}::cs) w').fenced P F:=fenced_going (n:=n-1) (hfX▸hFf) hroom' hgo
    have h2:=step_going_panicked (c:={{fr with defers:=ds} with mode:=u'}) (cs:=cs) hgo
    obtain⟨e',w'',fr',q1,q2,q3,q4,q5⟩:=goes_stepsM ds (raised u' chain) w' {{{fr with defers:=ds} with mode:=u'} with mode:=raised u' chain} cs rfl rfl ht hf hb hroom hR
    exact⟨e',w'',fr',q1,ComesIn.of_steps (.head i1 h1 (StepsIn.trans hsteps (.one i2 h2))) q2,q3,q4,q5⟩
theorem callsDIn_of_wpM {f : FuncId} {fn : Func} {c : Code} {args : Array Value} {u : FrameMode} {w : World} {R : Ending → World → Prop} (hf : P.funcs[f]? = some fn) (hb : fn.body = some c) (hF : F.fn f)
  (h : c.wpIn F n P (bodyPostM F n P fn R) { tmps := args ++ Array.replicate (fn.ntmps - args.size) undef, defers := [] } w) (hro : F.round = none := by rfl) :
  CallsDIn F n P f args u w fun e u' w' => u' = u ∧ R e w' := by
 refine ⟨hF, fun c0 cs hu hr => ?_⟩
 let b : Frame := { (default : Frame) with fn := f, kind := .deferred, roundOf := none }
 have henter : Frame.enter P f args .deferred = b.atR { tmps := args ++ Array.replicate (fn.ntmps - args.size) undef, defers := [] } [.code c] := by
  simp [Frame.enter, Frame.atR, hf, hb, b]
 have hc : ({ c0 with mode := u } : Frame) = c0 := by subst hu; rfl
 obtain ⟨e, a', w', hq, harr⟩ := h b [] (c0 :: cs) hro.symm hF hr
 rw [← henter] at harr
 cases e with
 | normal =>
  obtain ⟨e', w'', fr', q1, q2, q3, q4, q5⟩ := goes_stepsM a'.defers .returning w' { b.atR a' [] with mode := .returning } (c0 :: cs) rfl rfl rfl hf hF hr hq
  exact ⟨e', u, w'', fr', ⟨rfl, q1⟩, by rw [hc]; exact ComesIn.of_steps (StepsIn.trans harr (.one (fenced_calm (fr := b.atR a' []) hF hr rfl) (stepR_end rfl))) q2, q4, q3, q5⟩
 | ret =>
  obtain ⟨todo, hs0⟩ := harr.1 rfl
  obtain ⟨e', w'', fr', q1, q2, q3, q4, q5⟩ := goes_stepsM a'.defers .returning w' { b.atR a' todo with mode := .returning } (c0 :: cs) rfl rfl rfl hf hF hr hq
  exact ⟨e', u, w'', fr', ⟨rfl, q1⟩, by rw [hc]; exact ComesIn.of_steps hs0 q2, q4, q3, q5⟩
 | panic chain =>
  obtain ⟨todo, hs0⟩ := harr
  obtain ⟨e', w'', fr', q1, q2, q3, q4, q5⟩ := goes_stepsM a'.defers (.panicking chain) w' { b.atR a' todo with mode := .panicking chain } (c0 :: cs) rfl rfl rfl hf hF hr hq
  exact ⟨e', u, w'', fr', ⟨rfl, q1⟩, by rw [hc]; exact ComesIn.of_steps hs0 q2, q4, q3, q5⟩
 | exit id => exact hq.elim
 | goto l => exact hq.elim
 | outgrown => exact ⟨.outgrown, u, w', b, ⟨rfl, hq⟩, harr.resolve_left (by simp [b]), rfl, rfl, trivial⟩
theorem CallsDIn.mono {f:FuncId}{args:Array Value}{u:FrameMode}{w:World}{R R':Ending→FrameMode→World→Prop}(h:CallsDIn F n P f args u w R) (hr:∀e u' w',R e u' w'→R' e u' w'):CallsDIn F n P f args u w R':=
 ⟨h.1,fun c cs hu hroom=>let ⟨e,u',w',fr,q1,q2⟩:=h.2 c cs hu hroom;⟨e,u',w',fr,hr _ _ _ q1,q2⟩⟩
end
def GD (P:Program) (f:FuncId) (args:List G) (st:List (Nat×Blk)) (u:FrameMode) (Q:FrameMode→List (Nat×Blk)→Prop):Prop:=
 ∀(X:Nat→Prop) (μ:Mu) (w:World) (vs:List Value),(∀b,X b→b<w.heap.size)→RelSt (cx0 X st μ w) μ st w→vs.length=args.length→
  (∀(j:Nat) (g:G) (v:Value),args[j]?=some g→vs[j]?=some v→RepV ((cx0 X st μ w).O st μ) w.heap.size w μ g v)→
  CallsDIn (FF none) 0 P f vs.toArray u w fun e u' w'=>∃v st' μ',e=.returned v∧Q u' st'∧RelSt (cx0 X st μ w) μ' st' w'
section
variable {P:Program}{N:Nat}
theorem enter_rel {X : Nat → Prop} {st : List (Nat × Blk)} {μ : Mu} {w : World} {args : List G} {vs : List Value} {fn : Func} (hst : RelSt (cx0 X st μ w) μ st w) (hl : vs.length = args.length)
  (ha : ∀ (j : Nat) (g : G) (v : Value), args[j]? = some g → vs[j]? = some v → RepV ((cx0 X st μ w).O st μ) w.heap.size w μ g v) (hN : fn.ntmps = N) (hle : Nat.ble args.length N = true) :
  Rel N (cx0 X st μ w) μ { fr := frameOf args 0, st := st, df := [] } { tmps := vs.toArray ++ Array.replicate (fn.ntmps - vs.toArray.size) undef, defers := [] } w := by
 have hle := Nat.le_of_ble_eq_true hle
 refine { st := hst, nd := .nil, sz := by simp; omega, fr := fun t g hg => ?_ }
 obtain ⟨_, h2⟩ := get_frameOf hg
 simp only [Nat.sub_zero] at h2
 have ht : t < vs.length := by have := (List.getElem?_eq_some_iff.1 h2).1; omega
 refine ⟨vs[t], ?_, ha t g vs[t] h2 (List.getElem?_eq_getElem ht)⟩
 rw [Array.getElem?_append_left (by simpa using ht)]
 simp [ht]
def LD (P:Program) (N:Nat) (cx:Cx) (fn:Func) (R:Ending→World→Prop) (ds:List G) (u:FrameMode) (s:St):Prop:=
 ∀μ a w,Rel N cx μ {s with df:=ds} a w→LeavesInM (FF none) 0 P fn a.tmps R a.defers u w
variable {X:Nat→Prop}{st:List (Nat×Blk)}{μ:Mu}{w:World}{fn:Func}{Q:G→List (Nat×Blk)→Prop}{Qp:List PanicEntry→List (Nat×Blk)→Prop}
theorem LD.ret {s : St} {gs : List G} {r : G} {st' : List (Nat × Blk)} (h1 : Ress P { s with df := [] } fn.results.toList gs) (h2 : SubSt s.st st') (h3 : fzG s.st st' (pack gs) = some r) (h4 : Q r st') :
  LD P N (cx0 X st μ w) fn (Came X st μ w Q Qp) [] .returning s := by
 intro μ' a' w' hr'
 refine leaves_marks (fun h => by cases h) hr'.nd fun w'' hs => ?_
 have hr'' : Rel N (cx0 X st μ w) μ' { s with df := [] } { a' with defers := [] } w'' :=
  { st := hr'.st.shutEnd hs, nd := .nil, sz := hr'.sz, fr := fun t g hg => let ⟨v, hv, hrv⟩ := hr'.fr t g hg; ⟨v, hv, hrv.shut hs⟩ }
 obtain ⟨vs', hl', hvs, hrun⟩ := h1.run hr''
 have hp := pack_rep hl' hvs
 refine ⟨_, ?_, .inl ⟨_, r, st', μ', rfl, h4, hr''.st.sub h2, fzG_spec hr''.st (fun h k hk => ⟨k, h2.get hk⟩) hp h3⟩⟩
 have e1 : results fn a'.tmps = results fn ({ a' with defers := [] } : Act).tmps := rfl
 rw [e1, results_eq]
 simp only [Sem.run_bind, run_mapM_array _ _ _ _ _ hrun, Result.andThen_ok, Sem.run_pure]
theorem LD.pan {s:St}{ch:List PanicEntry}{st':List (Nat×Blk)}(h2:SubSt s.st st') (h4:Qp ch st'):LD P N (cx0 X st μ w) fn (Came X st μ w Q Qp) [] (.panicking ch) s:=by
 intro μ' a' w' hr'
 refine leaves_marks (fun h=>by cases h) hr'.nd fun w'' hs=>?_
 exact .inr ⟨_,st',μ',rfl,h4,(hr'.st.shutEnd hs).sub h2⟩
theorem leaves_to {cx:Cx}{R:Ending→World→Prop}{u:FrameMode}(hu:u≠.run){f:FuncId}{cs:List G}{gs:List G}{tmps:Array Value}{O:Nat→Prop}{base:Nat}{μ:Mu}:
  ∀{ds:List Deferred}{w:World},DfRel O base w μ ds (.clo f cs::gs)→
   (∀w' us ds',Shut (fun b=>¬O b∧base≤b) w w'→RepV O base w' μ (.clo f cs) (.func (.func f) #[] us)→DfRel O base w' μ ds' gs→LeavesInM (FF none) 0 P fn tmps R ({target:=.fn (.func f) us,args:=#[]}::ds') u w')→
   LeavesInM (FF none) 0 P fn tmps R ds u w
 | [],w,h,K=>by cases h
 | d::ds,w,h,K=>by
  cases h with
  | mark h1 h2 h3 h4 h5 h6=>
   rename_i D
   refine⟨hu,.inl ⟨D,_,rfl,run_takeDeferred h4,?_⟩⟩
   have hs:Shut (fun b=>¬O b∧base≤b) w (w.putObj D (.deferred none)):=Shut.put _ ⟨h1,h2⟩ h4 rfl
   have hs1:Shut (fun b=>b=D) w (w.putObj D (.deferred none)):=Shut.put _ rfl h4 rfl
   refine leaves_to (cx:=cx) hu (O:=O) (base:=base) (μ:=μ) (w:=w.putObj D (.deferred none)) (h6.shut hs1 fun d hd D' e e'=>h5 d hd (by rw[e,e'])) fun w' us ds' hw'=>K w' us ds' ⟨hw'.size.trans hs.size,fun b=>?_,hw'.os.trans hs.os,hw'.tape.trans hs.tape,hw'.output.trans hs.output⟩
   by_cases e:b=D
   ·subst e;exact .inr ⟨⟨h1,h2⟩,_,h4,rfl⟩
   ·rcases hw'.block b with h7 | ⟨h7,o,h8,h9⟩
    ·exact .inl (h7.trans (World.putObj_heap_other e))
    ·exact .inr ⟨h7,o,by rw[←World.putObj_heap_other (o:=.deferred none) e];exact h8,h9⟩
  | clo h1 h2=>exact K w _ _ (Shut.refl _ _) h1 h2
theorem backS_df {vw:Bool}{s s2:St}{H:List Nat}{st':List (Nat×Blk)}{bk:List Nat}(h:backS vw s H st' bk=some s2):s2.df=s.df:=by
 unfold backS at h
 cases hb:bkOk s H st' bk&&s.df.all (fun g=>!(anyH (deads st' H 0) g)) with
 | false=>rw[hb] at h;cases h
 | true=>
  rw[hb,cond_true] at h
  split at h
  ·cases h;rfl
  ·cases h
theorem LD.clo {cx : Cx} {R : Ending → World → Prop} {s : St} {f : FuncId} {caps gs' : List G} {ds : List G} {u : FrameMode} {stC : List (Nat × Blk)} {Qd : FrameMode → List (Nat × Blk) → Prop} (H : List Nat) (vw : Bool) (hu : u ≠ .run) (hc : ∀ args w, (callFunc f args).run P w = .ok (.enter f args) w)
    (hv : lendG.go H (lendV s.st H vw) caps = some gs') (hl : lendSt H (lendV s.st H vw) s.st H 0 = some stC) (hnd : ndB H = true) (hcon : GD P f gs' stC u Qd)
    (hres : ∀ u' st', Qd u' st' → ∃ bk s2, backS vw { s with df := ds } H st' bk = some s2 ∧ LD P N cx fn R ds (settle u') s2) : LD P N cx fn R (.clo f caps :: ds) u s := by
  intro μ a w hr
  refine leaves_to (cx := cx) hu hr.nd fun w' us ds' hs hrc hnd' => ?_
  have hr' : Rel N cx μ { s with df := ds } { a with defers := ds' } w' := by
    refine { st := ?_, nd := hnd', sz := hr.sz, fr := fun t g hg => let ⟨v, hv, hrv⟩ := hr.fr t g hg; ⟨v, hv, hrv.shut hs⟩ }
    exact hr.st.shutEnd hs
  cases hrc with
  | imm h => cases h
  | clo _ _ us' hlu hrc =>
    refine ⟨hu, .inr ⟨fun _ => (by rename_i h; cases h), .func f, us'.toArray, f, us'.toArray, rfl, ?_, fun _ _ => trivial, ?_⟩⟩
    · have : (callFunc f (#[] ++ us'.toArray)).run P w' = .ok (.enter f us'.toArray) w' := by rw [hc]; simp
      exact this
    · obtain ⟨h1, h2⟩ := lendG_go hv
      have hrel := lend_rel hr'.st (H := H) (vw := vw) hl (ndB_spec hnd)
      have hcall := hcon (lendX cx s.st μ H vw) (muC H μ) w' us' hrel.xlt hrel (by omega) fun j g v hg hv => by
        obtain ⟨g0, h3, h4⟩ := h2 j g hg
        exact lendG_spec hr'.st hl (hrc j g0 v h3 hv) h4
      refine CallsDIn.mono hcall ?_
      rintro e u' w'' ⟨v, st', μ', rfl, hq, hC⟩
      obtain ⟨bk, s2, hb, hld⟩ := hres u' st' hq
      obtain ⟨q1, _, _, _⟩ := back_rel hr' hl (ndB_spec hnd) hC hb
      have hdf : s2.df = ds := backS_df hb
      exact hld _ _ _ (by rw [← hdf]; exact q1)
theorem GD.of {f : FuncId} {c : Code} {args : List G} {st : List (Nat × Blk)} {Q : List (Nat × Blk) → Prop} (hf : P.funcs[f]? = some fn) (hb : fn.body = some c) (hN : fn.ntmps = N) (hle : Nat.ble args.length N = true)
    (h : ∀ cx, cx.ro = none → GW P N cx c (RetQ P fn fun _ st => Q st) { fr := frameOf args 0, st := st, df := [] }) (u : FrameMode) : GD P f args st u fun u' st' => u' = u ∧ Q st' := by
  intro X μ w vs hX hst hl ha
  have hrel := enter_rel hst hl ha hN hle
  refine CallsDIn.mono (callsDIn_of_wpM (F := FF none) (n := 0) (R := fun e w' => ∃ v st' μ', e = .returned v ∧ Q st' ∧ RelSt (cx0 X st μ w) μ' st' w') hf hb trivial (wpIn_mono (h (cx0 X st μ w) rfl μ _ w hrel) fun e a' w' hl => ?_)) fun e u' w' h => ?_
  · have fin : ∀ (μ' : Mu) (s' : St), Rel N (cx0 X st μ w) μ' s' a' w' → RetQ P fn (fun _ st => Q st) e s' → LeavesInM (FF none) 0 P fn a'.tmps (fun e w' => ∃ v st' μ', e = .returned v ∧ Q st' ∧ RelSt (cx0 X st μ w) μ' st' w') a'.defers .returning w' := by
      rintro μ' s' hr' ⟨_, hdf, gs, r, st', h1, h2, h3, h4⟩
      have hnd := hr'.nd
      rw [hdf] at hnd
      refine leaves_marks (fun h => by cases h) hnd fun w'' hs => ?_
      have hr'' : Rel N (cx0 X st μ w) μ' { s' with df := [] } { a' with defers := [] } w'' :=
        { st := hr'.st.shutEnd hs, nd := .nil, sz := hr'.sz, fr := fun t g hg => let ⟨v, hv, hrv⟩ := hr'.fr t g hg; ⟨v, hv, hrv.shut hs⟩ }
      have h1' : Ress P { s' with df := [] } fn.results.toList gs := by
        have : ({ s' with df := [] } : St) = s' := by cases s'; simp only at hdf; subst hdf; rfl
        rw [this]; exact h1
      obtain ⟨vs', hl', hvs, hrun⟩ := h1'.run hr''
      refine ⟨if h : vs'.toArray.size = 1 then vs'.toArray[0] else .tuple vs'.toArray, ?_, _, st', μ', rfl, h4, hr''.st.sub h2⟩
      have e1 : results fn a'.tmps = results fn ({ a' with defers := [] } : Act).tmps := rfl
      rw [e1, results_eq]
      simp only [Sem.run_bind, run_mapM_array _ _ _ _ _ hrun, Result.andThen_ok, Sem.run_pure]
    cases e with
    | normal => obtain ⟨μ', s', hr', hq⟩ := hl; exact fin μ' s' hr' hq
    | ret => obtain ⟨μ', s', hr', hq⟩ := hl; exact fin μ' s' hr' hq
    | outgrown => exact hl.elim
    | _ => obtain ⟨_, _, _, hq, _⟩ := hl; rcases hq with hq | hq <;> cases hq
  · obtain ⟨rfl, v, st', μ', h1, h2, h3⟩ := h
    exact ⟨v, st', μ', h1, ⟨rfl, h2⟩, h3⟩
theorem GP.ofD {f : FuncId} {c : Code} {args : List G} {st : List (Nat × Blk)} (hf : P.funcs[f]? = some fn) (hb : fn.body = some c) (hN : fn.ntmps = N) (hle : Nat.ble args.length N = true)
  (h : ∀ X μ w, GW P N (cx0 X st μ w) c (fun e s => match e with
   | .normal => LD P N (cx0 X st μ w) fn (Came X st μ w Q Qp) s.df .returning s
   | .ret => LD P N (cx0 X st μ w) fn (Came X st μ w Q Qp) s.df .returning s
   | .panic ch => LD P N (cx0 X st μ w) fn (Came X st μ w Q Qp) s.df (.panicking ch) s
   | _ => False) { fr := frameOf args 0, st := st, df := [] }) : GP P f args st Q Qp := by
 intro X μ w vs hX hst hl ha
 have hrel := enter_rel hst hl ha hN hle
 refine callsIn_FF.1 (callsIn_of_wp_marks (F := FF none) (n := 0) hf hb trivial ?_)
 refine wpIn_mono (h X μ w μ _ w hrel) fun e a' w' hl => ?_
 cases e with
 | normal => obtain ⟨μ', s', hr', hq⟩ := hl; exact hq μ' a' w' hr'
 | ret => obtain ⟨μ', s', hr', hq⟩ := hl; exact hq μ' a' w' hr'
 | panic ch => obtain ⟨μ', s', hr', hq⟩ := hl; exact hq μ' a' w' hr'
 | outgrown => exact hl.elim
 | exit id => obtain ⟨_, _, _, hq⟩ := hl; exact hq
 | goto l => obtain ⟨_, _, _, hq⟩ := hl; exact hq
theorem GL.defer {cx:Cx}{Q:Exit→St→Prop}{ops:Array Oper}{rest:List Oper}{s:St}{x:Operand}{ts:Array TypeId}{ty:TypeId}{pos:String}{after:Array Edge}{f:FuncId}{caps:List G}(hro:cx.ro=none) (hf:ev s x=some (.clo f caps))
  (h:GL P N cx ops Q rest {s with df:=.clo f caps::s.df}):GL P N cx ops Q (⟨none,.defer ⟨.value x,#[],ts⟩,ty,pos,after,none⟩::rest) s:=by
 intro μ a w hr
 have hcl:=hr.ev hf
 generalize hav:a.eval x=vf at hcl
 cases hcl with
 | imm h=>cases h
 | clo _ _ us hlu hrc=>
  unfold wpListIn
  rw[if_pos (wants_spec hr rfl)]
  refine⟨fun _ _=>trivial,?_⟩
  have e:(Oper.semAt (FF cx.ro).round a.eval ⟨none,.defer ⟨.value x,#[],ts⟩,ty,pos,after,none⟩).run P w=.ok (.defer {target:=.fn (.func f) us.toArray,args:=#[]}) w:=by
   rw[show(FF cx.ro).round=none from hro]
   simp[Oper.semAt,execOp,resolve,Deferred.ofValue,hav]
  rw[e]
  show wpListIn _ _ _ _ _ rest _ w
  refine h μ _ w ?_
  refine {st:=hr.st,nd:=.clo (.clo _ _ _ hlu hrc) hr.nd,sz:=by simp[Act.put,hr.sz],fr:=fun t g hg=>?_}
  exact hr.fr t g hg
theorem EfP.c1 {W:List Nat}{s:St}{d:Nat}{ty:TypeId}{pos:String}{after:Array Edge}{guard:Option (Nat×Bool)}{f:FuncId}{xs:Array Operand}{ts:Array TypeId}{gs gs':List G}{stC:List (Nat×Blk)}{T:St→Prop}{Tp:List PanicEntry→St→Prop}(H:List Nat) (vw:Bool) (hc:∀args w,(callFunc f args).run P w=.ok (.enter f args) w)
  (hx:evA s xs.toList=some gs) (hv:lendG.go H (lendV s.st H vw) gs=some gs') (hl:lendSt H (lendV s.st H vw) s.st H 0=some stC) (hnd:ndB H=true) (hcon:GP P f gs' stC Q Qp)
  (hres:∀r st',Q r st'→∃bk s2 r',backS vw s H st' bk=some s2∧renG vw (bkH st' bk) r=some r'∧T (s2.put d r')) (hresP:∀ch st',Qp ch st'→∃bk s2,backS vw s H st' bk=some s2∧Tp ch s2) (hW:allIn H W=true):
  EffectP P W s ⟨some d,.call ⟨.value (.func f),xs,ts⟩,ty,pos,after,guard⟩ T Tp:=by
 refine⟨(fun _ h=>by cases h),?_⟩
 intro N cx μ a w hr hN K Q' hK hKp
 obtain⟨h1,h2⟩:=evA_get hx
 have hcall:=lend_core (vs:=xs.toList.map a.eval) hr hv hl hnd (by simp[h1]) (fun j g v hg hv=>by
  obtain⟨x,hxj,he⟩:=h2 j g hg
  rw[List.getElem?_map,hxj] at hv
  cases hv
  exact hr.ev he) hcon
 unfold Oper.wp
 have:(execOp a.eval ⟨some d,.call ⟨.value (.func f),xs,ts⟩,ty,pos,after,guard⟩).run P w=.ok (.enter f (xs.toList.map a.eval).toArray) w:=by
  have e:xs.map a.eval=(xs.toList.map a.eval).toArray:=by rw[←Array.toList_map]
  simp[execOp,resolve,invoke,Deferred.ofValue,Act.eval,hc,e]
 rw[this]
 refine hcall.mono ?_
 rintro e w' (⟨v,r,st',μ',rfl,hq,hC,hrv⟩ | ⟨ch,st',μ',rfl,hq,hC⟩)
 ·obtain⟨bk,s2,r',hb,hren,hT⟩:=hres r st' hq
  obtain⟨q1,q2,q3,_⟩:=back_rel hr hl (ndB_spec hnd) hC hb
  exact hK _ _ _ w' (q1.put (hN d rfl) (q2 r r' v hrv hren)) hT (q3 W (allIn_spec hW))
 ·obtain⟨bk,s2,hb,hT⟩:=hresP ch st' hq
  obtain⟨q1,_,_,_⟩:=back_rel hr hl (ndB_spec hnd) hC hb
  exact hKp ch _ _ w' q1 hT
theorem EfP.c2 {W:List Nat}{s:St}{d:Nat}{ty:TypeId}{pos:String}{after:Array Edge}{guard:Option (Nat×Bool)}{f:FuncId}{x:Operand}{xs:Array Operand}{ts:Array TypeId}{gs caps gs':List G}{stC:List (Nat×Blk)}{T:St→Prop}{Tp:List PanicEntry→St→Prop}(H:List Nat) (vw:Bool) (hc:∀args w,(callFunc f args).run P w=.ok (.enter f args) w)
  (hf:ev s x=some (.clo f caps)) (hx:evA s xs.toList=some gs) (hv:lendG.go H (lendV s.st H vw) (gs++caps)=some gs') (hl:lendSt H (lendV s.st H vw) s.st H 0=some stC) (hnd:ndB H=true) (hcon:GP P f gs' stC Q Qp)
  (hres:∀r st',Q r st'→∃bk s2 r',backS vw s H st' bk=some s2∧renG vw (bkH st' bk) r=some r'∧T (s2.put d r')) (hresP:∀ch st',Qp ch st'→∃bk s2,backS vw s H st' bk=some s2∧Tp ch s2) (hW:allIn H W=true):
  EffectP P W s ⟨some d,.call ⟨.value x,xs,ts⟩,ty,pos,after,guard⟩ T Tp:=by
 refine⟨(fun _ h=>by cases h),?_⟩
 intro N cx μ a w hr hN K Q' hK hKp
 obtain⟨h1,h2⟩:=evA_get hx
 have hcl:=hr.ev hf
 generalize hav:a.eval x=vf at hcl
 cases hcl with
 | imm h=>cases h
 | clo _ _ us hlu hrc=>
  have hcall:=lend_core (vs:=xs.toList.map a.eval++us) hr hv hl hnd (by simp[h1,hlu]) (fun j g v hg hv=>by
   rw[List.getElem?_append] at hg hv
   rw[List.length_map,←h1] at hv
   split at hg
   ·rename_i hj
    rw[if_pos hj] at hv
    obtain⟨x,hxj,he⟩:=h2 j g hg
    rw[List.getElem?_map,hxj] at hv
    cases hv
    exact hr.ev he
   ·rename_i hj
    rw[if_neg hj] at hv
    exact hrc _ g v hg hv) hcon
  unfold Oper.wp
  have:(execOp a.eval ⟨some d,.call ⟨.value x,xs,ts⟩,ty,pos,after,guard⟩).run P w=.ok (.enter f (xs.toList.map a.eval++us).toArray) w:=by
   have e:xs.map a.eval++us.toArray=(xs.toList.map a.eval++us).toArray:=by rw[←List.append_toArray,←Array.toList_map]
   simp[execOp,resolve,invoke,Deferred.ofValue,hav,hc,e]
  rw[this]
  refine hcall.mono ?_
  rintro e w' (⟨v,r,st',μ',rfl,hq,hC,hrv⟩ | ⟨ch,st',μ',rfl,hq,hC⟩)
  ·obtain⟨bk,s2,r',hb,hren,hT⟩:=hres r st' hq
   obtain⟨q1,q2,q3,_⟩:=back_rel hr hl (ndB_spec hnd) hC hb
   exact hK _ _ _ w' (q1.put (hN d rfl) (q2 r r' v hrv hren)) hT (q3 W (allIn_spec hW))
  ·obtain⟨bk,s2,hb,hT⟩:=hresP ch st' hq
   obtain⟨q1,_,_,_⟩:=back_rel hr hl (ndB_spec hnd) hC hb
   exact hKp ch _ _ w' q1 hT
end
end Go.AM
