/-
  AM, fourth part: maps.
-/
import Derived.Test.YtmhbeopldeccmaaDoorMgF
import Derived.Lib.AppendStr
import Derived.Lib.Builder
import Derived.MapKept
set_option linter.unusedSectionVars false
set_option linter.unusedSimpArgs false
set_option linter.unusedVariables false
/-
 AM:maps:keys that are structs of two numbers.
-/
namespace Go.AM
section
variable {P:Program}
def M4 (q:IntKind) (k:Int×Int):Value:=.agg #[.int q k.1,.int q k.2]
end
end Go.AM
/-
 AM:maps from two numbers to pointers:the structs that they lead to are of slices;all of it belongs to the map.
-/
namespace Go.AM
structure ME where
 key:Int×Int
 t:Nat
 f:List (Nat×List G)
def Ai (O:Nat→Prop) (w:World) (kty:TypeId) (m:Mm) (p:Nat×List G) (u:Value):Prop:=
 (p.2=[]∧p.1=CN∧u=.slice none 0 0)∨(p.2≠[]∧∃c k,m.2[p.1]?=some (some (c,k))∧sS O w kty 1 p.2.length p.2 u (some (c,k)))
def Qr:List (Nat×List G)→Nat→Option Nat
 | [],_=>none
 | (x,gs)::_,0=>match gs with | []=>none | _::_=>some x
 | _::r,j+1=>Qr r j
def Qs (e:ME):Nat→Option Nat
 | 0=>some e.t
 | j+1=>Qr e.f j
def Q4 (m:Mm) (t:Nat):Value:=match m.2[t]? with
 | some (some (c,_))=>.pointer (some ⟨c,0,none⟩)
 | _=>.pointer none
structure Ey (q:IntKind) (kty tty:TypeId) (n:Nat) (es:List ME) (pd:Option (Option (Nat×Nat)×Nat×List G)) (O:Nat→Prop) (w:World) (b:Nat) (m:Mm):Prop where
 len:m.2.length=n
 Hz:n≤maxLen
 sq:m.1=0
 heap:∃ms clock,w.heap[b]?=some (.map ms clock)∧ms.toList.map (fun e=>(e.key,e.val))=es.map fun e=>(M4 q e.key,Q4 m e.t)
 root:∀(i c k:Nat),m.2[i]?=some (some (c,k))→c≠b∧c<w.heap.size
 C0:∀e∈es,∃c cs,m.2[e.t]?=some (some (c,cs.size))∧w.heap[c]?=some (.cells cs tty (0,0))∧e.f.length≤cs.size∧∀(j:Nat) (p:Nat×List G),e.f[j]?=some p→∃u,cs[j]?=some u∧Ai O w kty m p u
 inj:∀(i i':Nat) (e e':ME) (j j' x x' c k k':Nat),es[i]?=some e→es[i']?=some e'→Qs e j=some x→Qs e' j'=some x'→m.2[x]?=some (some (c,k))→m.2[x']?=some (some (c,k'))→i=i'∧j=j'
 Hq:∀(sr:Option (Nat×Nat)) (x:Nat) (gs:List G),pd=some (sr,x,gs)→gs≠[]∧(∃c k cs,m.2[x]?=some (some (c,k))∧w.heap[c]?=some (.cells cs kty (0,0))∧cs.size=k∧k≤maxLen∧gs.length≤k∧∀(i:Nat) (g:G),gs[i]?=some g→∃v,cs[i]?=some v∧bp O w g v)∧
  ∀(e:ME) (j' x' c k k':Nat),e∈es→Qs e j'=some x'→m.2[x]?=some (some (c,k))→m.2[x']?=some (some (c,k'))→∃j,sr=some (e.t,j)∧j'=j+1
theorem Ai.mono {O O':Nat→Prop}{w w':World}{kty:TypeId}{m:Mm}{p:Nat×List G}{u:Value}(h:Ai O w kty m p u) (hk:Kept O w w') (hO:∀x,x<w.heap.size→¬O x→¬O' x)
  (hc:∀c k,m.2[p.1]?=some (some (c,k))→w'.heap[c]?=w.heap[c]?):Ai O' w' kty m p u:=
 h.imp id fun ⟨h0,c,k,h1,h2⟩=>⟨h0,c,k,h1,h2.mono hk hO fun c' k' e=>by cases e;exact hc c k h1⟩
theorem Ai.shut {O Z:Nat→Prop}{w w':World}{kty:TypeId}{m:Mm}{p:Nat×List G}{u:Value}(h:Ai O w kty m p u) (hs:iX Z w w'):Ai O w' kty m p u:=
 h.imp id fun ⟨h0,c,k,h1,h2⟩=>⟨h0,c,k,h1,h2.shut hs⟩
def xx (i:Nat):List (Nat×List G)→Option (List G)
 | []=>none
 | (x,gs)::r=>match gs with
  | []=>xx i r
  | g::gs'=>bif Nat.beq x i then some (g::gs') else xx i r
def zy (i:Nat):List ME→Option (List G)
 | []=>none
 | e::r=>match xx i e.f with
  | some gs=>some gs
  | none=>zy i r
theorem xw {i:Nat}{gs:List G}:∀{f:List (Nat×List G)},xx i f=some gs→gs≠[]∧∃j:Nat,f[j]?=some (i,gs)
 | [],h=>by cases h
 | (x,gs0)::r,h=>by
  simp only[xx] at h
  cases gs0 with
  | nil=>obtain⟨h1,j,h2⟩:=xw (f:=r) h;exact⟨h1,j+1,h2⟩
  | cons g gs'=>
   dsimp only at h
   cases hb:Nat.beq x i with
   | true=>
    rw[hb] at h
    cases h
    rw[ab hb]
    exact⟨by simp,0,rfl⟩
   | false=>rw[hb] at h;obtain⟨h1,j,h2⟩:=xw (f:=r) h;exact⟨h1,j+1,h2⟩
theorem xv {i:Nat}{gs:List G}:∀{es:List ME},zy i es=some gs→gs≠[]∧∃e∈es,∃j:Nat,e.f[j]?=some (i,gs)
 | [],h=>by cases h
 | e::r,h=>by
  simp only[zy] at h
  cases hf:xx i e.f with
  | some gs'=>rw[hf] at h;cases h;obtain⟨h1,j,h2⟩:=xw hf;exact⟨h1,e,aC,j,h2⟩
  | none=>rw[hf] at h;obtain⟨h1,e',h2,h3⟩:=xv (es:=r) h;exact⟨h1,e',aw _ h2,h3⟩
def AS (q:IntKind) (kty tty:TypeId) (n:Nat) (es:List ME) (pd:Option (Option (Nat×Nat)×Nat×List G)):Dp where
 φ:=Ey q kty tty n es pd
 iw:=False
 row:=fun i=>zy i es
 E7:=fun h=>(xv h).1
 IC:=by
  intro O w b m i gs h hrow
  obtain⟨h0,e,he,j,hj⟩:=xv hrow
  obtain⟨c,cs,h1,h2,h3,h4⟩:=h.C0 e he
  obtain⟨u,h5,h6⟩:=h4 j _ hj
  rcases h6 with ⟨h6,_⟩ | ⟨_,c',k',h7,cap,cs',_,_,_,h8,_,_,_,h9⟩
  ·exact absurd h6 h0
  ·exact⟨c',k',cs',kty,h7,h8,h9⟩
 mono:=by
  intro O O' w w' b m h hk hO hb
  refine {len:=h.len,Hz:=h.Hz,sq:=h.sq,heap:=?_,root:=fun i c k e=>⟨(h.root i c k e).1,cm (h.root i c k e).2 hk.size⟩,C0:=fun e he=>?_,inj:=h.inj,Hq:=fun sr x gs e=>?_}
  ·obtain⟨ms,cl,h1,h2⟩:=h.heap
   exact⟨ms,cl,(hb b (.self _ _)).trans h1,h2⟩
  ·obtain⟨c,cs,h1,h2,h3,h4⟩:=h.C0 e he
   refine⟨c,cs,h1,(hb c (.tE h1)).trans h2,h3,fun j p hp=>?_⟩
   obtain⟨u,h5,h6⟩:=h4 j p hp
   exact⟨u,h5,h6.mono hk hO fun c k e=>hb c (.tE e)⟩
  ·obtain⟨h0,⟨c,k,cs,h1,h2,h3,h4,h5,h6⟩,h7⟩:=h.Hq sr x gs e
   exact⟨h0,⟨c,k,cs,h1,(hb c (.tE h1)).trans h2,h3,h4,h5,fun i g hg=>let ⟨v,hv,hr⟩:=h6 i g hg;⟨v,hv,hr.mono hk hO⟩⟩,h7⟩
 shut:=by
  intro O Z w w' b m h hs hz
  have hb:∀x,In x b m→w'.heap[x]?=w.heap[x]?:=fun x hx=>by
   rcases hs.block x with h | ⟨h,_⟩
   ·exact h
   ·exact absurd h (hz x hx)
  refine {len:=h.len,Hz:=h.Hz,sq:=h.sq,heap:=?_,root:=fun i c k e=>⟨(h.root i c k e).1,by rw[hs.size];exact(h.root i c k e).2⟩,C0:=fun e he=>?_,inj:=h.inj,Hq:=fun sr x gs e=>?_}
  ·obtain⟨ms,cl,h1,h2⟩:=h.heap
   exact⟨ms,cl,(hb b (.self _ _)).trans h1,h2⟩
  ·obtain⟨c,cs,h1,h2,h3,h4⟩:=h.C0 e he
   refine⟨c,cs,h1,(hb c (.tE h1)).trans h2,h3,fun j p hp=>?_⟩
   obtain⟨u,h5,h6⟩:=h4 j p hp
   exact⟨u,h5,h6.shut hs⟩
  ·obtain⟨h0,⟨c,k,cs,h1,h2,h3,h4,h5,h6⟩,h7⟩:=h.Hq sr x gs e
   exact⟨h0,⟨c,k,cs,h1,(hb c (.tE h1)).trans h2,h3,h4,h5,fun i g hg=>let ⟨v,hv,hr⟩:=h6 i g hg;⟨v,hv,hr.shut hs⟩⟩,h7⟩
 live:=by
  intro O w b m h x hx
  rcases hx with rfl | ⟨n,hn⟩
  ·obtain⟨ms,cl,h1,_⟩:=h.heap
   exact dU h1
  ·obtain⟨i,hi⟩:=eZ hn
   exact(h.root i x n hi).2
section
variable {P:Program}{N:Nat}{cx:Cx}{s:St}{W:List Nat}
variable {dst:Option Tmp}{ty:TypeId}{pos:String}{after:Array Edge}{guard:Option (Nat×Bool)}
theorem Rel.N9 {μ:Mu}{a:Act}{w:World}(hr:Rel N cx μ s a w){h:Nat}{k:aq}{q:IntKind}{kty tty:TypeId}{n:Nat}{es:List ME}{pd:Option (Option (Nat×Nat)×Nat×List G)}(hk:ay s.st h=some k) (hl:k.lp=some (.deep (AS q kty tty n es pd))){b:Nat}{m:Mm}(hm:μ h=some (b,m)):
  Ey q kty tty n es pd (bif k.fresh then gm (cx.O s.st μ) cx.base else cx.O s.st μ) w b m:=by
 have:=hr.st.ey h k hk
 rw[hm] at this
 exact((aS.deep hl).1 this).1
theorem Rel.eY {μ:Mu}{a:Act}{w:World}(hrel:Rel N cx μ s a w){x:Operand}{h:Nat}(hx:AM.ev s x=some (.eY h)):∃b m,a.eval x=.map (some b)∧μ h=some (b,m):=by
 have hr:=hrel.ev hx
 generalize a.eval x=v at hr
 cases hr with
 | aD h=>cases h
 | eY _ b m hm=>exact⟨b,m,rfl,hm⟩
def Hg (es:List ME) (t:Nat):Option ME:=es.find? fun e=>Nat.beq e.t t
theorem Mi {es:List ME}{t:Nat}{e:ME}(h:Hg es t=some e):e∈es∧e.t=t:=⟨List.mem_of_find?_eq_some h,ab (by simpa using List.find?_some h)⟩
theorem YL.Qq {t:TypeId}{x:Operand}{h tt off z:Nat}{k:aq}{q:IntKind}{kty tty:TypeId}{n:Nat}{es:List ME}{pd:Option (Option (Nat×Nat)×Nat×List G)}{e:ME}{gs:List G}(hx:ev s x=some (.kp h tt off)) (hk:ay s.st h=some k) (hl:k.lp=some (.deep (AS q kty tty n es pd)))
  (he:Hg es tt=some e) (hf:e.f[off]?=some (z,gs)) (hag:∀w,(isAgg t).run P w=.ok false w) (hW:W.contains h=false):fO P W s ⟨dst,.load t x,ty,pos,after,guard⟩ (.ks h z 1 gs.length):=fun N cx μ a w hrel=>by
 obtain⟨b,m,c,n',e1,hm,hc⟩:=hrel.kp hx
 have hM:=hrel.N9 hk hl hm
 obtain⟨he1,he2⟩:=Mi he
 obtain⟨c',cs,h1,h2,h3,h4⟩:=hM.C0 e he1
 rw[he2,hc] at h1
 cases h1
 obtain⟨u,h5,h6⟩:=h4 off _ hf
 refine⟨u,?_,fun w' hs hw'=>?_⟩
 ·rcases h6 with ⟨q1,_,rfl⟩ | ⟨q1,c2,k2,q2,q3⟩
  ·have q1:gs=[]:=q1
   subst q1
   exact .k7 h z 1 none 0 fun _=>⟨rfl,rfl⟩
  ·obtain⟨cap,cs',rfl,r1,r2,_⟩:=q3
   exact .ks h z 1 _ b m c2 k2 cap hm q2 r1 r2
 ·have hb:=hrel.vE hk hm hW ⟨hs,hw'⟩ (.tE hc)
  rw[h2] at hb
  have hcell:w'.cell? ⟨c,off,none⟩=some u:=by rw[cell_of hb,h5]
  simp[execOp,e1,Instr.loadAt,Instr.sureAddr,loadVar,hag,hcell]
end
end Go.AM
/-
 AM:maps:what belongs to a block gets more behind.
-/
namespace Go.AM
section
variable {P:Program}{N:Nat}{cx:Cx}{s:St}{W:List Nat}
end
end Go.AM
/-
 AM:maps:one is made;an entry more,with a struct that was the call's own.
-/
namespace Go.AM
section
variable {P:Program}{N:Nat}{cx:Cx}{s:St}{W:List Nat}
variable {ty:TypeId}{pos:String}{after:Array Edge}{guard:Option (Nat×Bool)}
end
end Go.AM
/-
 AM:maps:an entry more;a slice's append;its store.
-/
namespace Go.AM
section
variable {P:Program}{N:Nat}{cx:Cx}{s:St}{W:List Nat}
variable {ty:TypeId}{pos:String}{after:Array Edge}{guard:Option (Nat×Bool)}
end
end Go.AM
/-
 AM:maps:a slice's append;its store.
-/
namespace Go.AM
section
variable {P:Program}{N:Nat}{cx:Cx}{s:St}{W:List Nat}
variable {ty:TypeId}{pos:String}{after:Array Edge}{guard:Option (Nat×Bool)}{d:Nat}
variable {dst:Option Tmp}
theorem YL.O6 {t:TypeId}{x:Operand}{h z off:Nat}{k:aq}{q:IntKind}{kty tty:TypeId}{n:Nat}{es:List ME}{pd:Option (Option (Nat×Nat)×Nat×List G)}{gs:List G}{u:Value}(hx:ev s x=some (.kp h z off)) (hk:ay s.st h=some k) (hl:k.lp=some (.deep (AS q kty tty n es pd)))
  (hrow:zy z es=some gs) (hg:gs[off]?=some (.val u)) (hag:∀w,(isAgg t).run P w=.ok false w) (hW:W.contains h=false):fO P W s ⟨dst,.load t x,ty,pos,after,guard⟩ (.val u):=fun N cx μ a w hrel=>by
 obtain⟨b,m,c,n',e1,hm,hc⟩:=hrel.kp hx
 have hM:=hrel.N9 hk hl hm
 obtain⟨c',k',cs,bs,h1,h2,h3⟩:=(AS q kty tty n es pd).IC hM hrow
 rw[hc] at h1
 cases h1
 obtain⟨v,h5,h6⟩:=h3 off _ hg
 cases h6
 refine⟨u,.aD (.val _),fun w' hs hw'=>?_⟩
 have hb:=hrel.vE hk hm hW ⟨hs,hw'⟩ (.tE hc)
 rw[h2] at hb
 have hcell:w'.cell? ⟨c,off,none⟩=some u:=by rw[cell_of hb,h5]
 simp[execOp,e1,Instr.loadAt,Instr.sureAddr,loadVar,hag,hcell]
end
end Go.AM
/-
 AM:deferred calls,panics that are Bv.
-/
namespace Go.AM
section
variable {P:Program}{F:Fence}{n:Nat}
theorem mW {fn:Func}{tmps:Array Value}{R:Ending→World→Prop}:∀(ds:List Deferred) (u:FrameMode) (w:World) (fr:Frame) (cs:List Frame),
  fr.mode=u→fr.defers=ds→fr.tmps=tmps→P.funcs[fr.fn]?=some fn→F.fn fr.fn→F.room (cs.length+1+n)→LeavesInM F n P fn tmps R ds u w→
  ∃e w' fr',R e w'∧ComesIn (Machine.fenced P F) P (lone fr cs w) (lone fr' cs w') e∧fr'.fn=fr.fn∧fr'.kind=fr.kind∧fr'.going P w' e
 | [],u,w,fr,cs,hu,hd,ht,hf,hb,hroom,h=>by
  have h:LeavesIn F n P fn tmps R [] u w:=h
  cases u with
  | run=>exact h.elim
  | returning=>
   obtain⟨v,hr,hR⟩:=h
   exact⟨.returned v,w,fr,hR,StepsIn.refl _,rfl,rfl,hu,hd,fn,hf,ht▸hr⟩
  | panicking chain=>exact⟨.panicked chain,w,fr,h,StepsIn.refl _,rfl,rfl,hu,hd,fn,hf⟩
 | d::ds,u,w,fr,cs,hu,hd,ht,hf,hb,hroom,h=>by
  obtain⟨hrun,h⟩:=h
  rcases h with ⟨r,w',htar,htake,hrest⟩ | ⟨hn,fv,cap,f,args,htar,hinv,hlead,hcall⟩
  ·have h1:=step_collected (cs:=cs) (hu▸hrun) hd htar htake
   have i1:(lone fr cs w).fenced P F:=fenced_out hb hroom (hu▸hrun) hd (fun g hg=>by rw[htar] at hg;simp[Target.leads] at hg)
   obtain⟨e',w'',fr',q1,q2,q3,q4,q5⟩:=mW ds u w' {fr with defers:=[]++ds} cs hu rfl ht hf hb hroom hrest
   exact⟨e',w'',fr',q1,ComesIn.of_steps (.one i1 h1) q2,q3,q4,q5⟩
  ·have h1:=step_defer (cs:=cs) (hu▸hrun) hd htar hinv
   have i1:(lone fr cs w).fenced P F:=fenced_out hb hroom (hu▸hrun) hd hlead
   have hroom':F.room (({fr with defers:=ds}::cs).length+1+(n-1)):=Fence.room_enter hroom hn
   obtain⟨hFf,hcall⟩:=hcall
   obtain⟨e,u',w',frX,hR,hsteps,hkX,hfX,hgo⟩:=hcall {fr with defers:=ds} cs hu hroom'
   cases e with
   | outgrown=>exact⟨.outgrown,w',fr,hR,Outgrown.of_steps (.one h1) hsteps,rfl,rfl,trivial⟩
   | returned v=>
    have i2:(lone frX ({{fr with defers:=ds} with mode:=u'}::cs) w').fenced P F:=fenced_going (n:=n-1) (hfX▸hFf) hroom' hgo
    have h2:=step_going_returned (c:={{fr with defers:=ds} with mode:=u'}) (cs:=cs) hkX hgo
    obtain⟨e',w'',fr',q1,q2,q3,q4,q5⟩:=mW ds (settle u') w' {{{fr with defers:=ds} with mode:=u'} with mode:=settle u'} cs rfl rfl ht hf hb hroom hR
    exact⟨e',w'',fr',q1,ComesIn.of_steps (.head i1 h1 (StepsIn.trans hsteps (.one i2 h2))) q2,q3,q4,q5⟩
   | panicked chain=>
    have i2:(lone frX ({{fr with defers:=ds} with mode:=u'}::cs) w').fenced P F:=fenced_going (n:=n-1) (hfX▸hFf) hroom' hgo
    have h2:=step_going_panicked (c:={{fr with defers:=ds} with mode:=u'}) (cs:=cs) hgo
    obtain⟨e',w'',fr',q1,q2,q3,q4,q5⟩:=mW ds (raised u' chain) w' {{{fr with defers:=ds} with mode:=u'} with mode:=raised u' chain} cs rfl rfl ht hf hb hroom hR
    exact⟨e',w'',fr',q1,ComesIn.of_steps (.head i1 h1 (StepsIn.trans hsteps (.one i2 h2))) q2,q3,q4,q5⟩
theorem Bw {f : FuncId} {fn : Func} {c : Code} {args : Array Value} {u : FrameMode} {w : World} {R : Ending → World → Prop} (hf : P.funcs[f]? = some fn) (hb : fn.body = some c) (hF : F.fn f)
  (h : c.wpIn F n P (bodyPostM F n P fn R) { tmps := args ++ Array.replicate (fn.ntmps - args.size) undef, defers := [] } w) (hro : F.round = none := by rfl) :
  CallsDIn F n P f args u w fun e u' w' => u' = u ∧ R e w' := by
 refine ⟨hF, fun c0 cs hu hr => ?_⟩
 let b : Frame := { (default : Frame) with fn := f, kind := .deferred, roundOf := none }
 have henter : Frame.enter P f args .deferred = b.atR { tmps := args ++ Array.replicate (fn.ntmps - args.size) undef, defers := [] } [.code c] := by
  simp [Frame.enter, Frame.atR, hf, hb, b]
 have hc : ({ c0 with mode := u } : Frame) = c0 := by subst hu; rfl
 obtain ⟨e, a', w', hq, harr⟩ := h b [] (c0 :: cs) hro.symm hF hr
 rw [← henter] at harr
 cases e with
 | normal =>
  obtain ⟨e', w'', fr', q1, q2, q3, q4, q5⟩ := mW a'.defers .returning w' { b.atR a' [] with mode := .returning } (c0 :: cs) rfl rfl rfl hf hF hr hq
  exact ⟨e', u, w'', fr', ⟨rfl, q1⟩, by rw [hc]; exact ComesIn.of_steps (StepsIn.trans harr (.one (fenced_calm (fr := b.atR a' []) hF hr rfl) (stepR_end rfl))) q2, q4, q3, q5⟩
 | ret =>
  obtain ⟨todo, hs0⟩ := harr.1 rfl
  obtain ⟨e', w'', fr', q1, q2, q3, q4, q5⟩ := mW a'.defers .returning w' { b.atR a' todo with mode := .returning } (c0 :: cs) rfl rfl rfl hf hF hr hq
  exact ⟨e', u, w'', fr', ⟨rfl, q1⟩, by rw [hc]; exact ComesIn.of_steps hs0 q2, q4, q3, q5⟩
 | panic chain =>
  obtain ⟨todo, hs0⟩ := harr
  obtain ⟨e', w'', fr', q1, q2, q3, q4, q5⟩ := mW a'.defers (.panicking chain) w' { b.atR a' todo with mode := .panicking chain } (c0 :: cs) rfl rfl rfl hf hF hr hq
  exact ⟨e', u, w'', fr', ⟨rfl, q1⟩, by rw [hc]; exact ComesIn.of_steps hs0 q2, q4, q3, q5⟩
 | exit id => exact hq.elim
 | goto l => exact hq.elim
 | outgrown => exact ⟨.outgrown, u, w', b, ⟨rfl, hq⟩, harr.resolve_left (by simp [b]), rfl, rfl, trivial⟩
theorem CallsDIn.mono {f:FuncId}{args:Array Value}{u:FrameMode}{w:World}{R R':Ending→FrameMode→World→Prop}(h:CallsDIn F n P f args u w R) (hr:∀e u' w',R e u' w'→R' e u' w'):CallsDIn F n P f args u w R':=
 ⟨h.1,fun c cs hu hroom=>let ⟨e,u',w',fr,q1,q2⟩:=h.2 c cs hu hroom;⟨e,u',w',fr,hr _ _ _ q1,q2⟩⟩
end
def GD (P:Program) (f:FuncId) (args:List G) (st:List (Nat×aq)) (u:FrameMode) (Q:FrameMode→List (Nat×aq)→Prop):Prop:=
 ∀(X:Nat→Prop) (μ:Mu) (w:World) (vs:List Value),(∀b,X b→b<w.heap.size)→cd (eg X st μ w) μ st w→vs.length=args.length→
  (∀(j:Nat) (g:G) (v:Value),args[j]?=some g→vs[j]?=some v→aN ((eg X st μ w).O st μ) w.heap.size w μ g v)→
  CallsDIn (FF none) 0 P f vs.toArray u w fun e u' w'=>∃v st' μ',e=.returned v∧Q u' st'∧cd (eg X st μ w) μ' st' w'
section
variable {P:Program}{N:Nat}
theorem DD {X : Nat → Prop} {st : List (Nat × aq)} {μ : Mu} {w : World} {args : List G} {vs : List Value} {fn : Func} (hst : cd (eg X st μ w) μ st w) (hl : vs.length = args.length)
  (ha : ∀ (j : Nat) (g : G) (v : Value), args[j]? = some g → vs[j]? = some v → aN ((eg X st μ w).O st μ) w.heap.size w μ g v) (hN : fn.ntmps = N) (hle : Nat.ble args.length N = true) :
  Rel N (eg X st μ w) μ { fr := jZ args 0, st := st, df := [] } { tmps := vs.toArray ++ Array.replicate (fn.ntmps - vs.toArray.size) undef, defers := [] } w := by
 have hle := eN hle
 refine { st := hst, nd := .nil, sz := by simp; omega, fr := fun t g hg => ?_ }
 obtain ⟨_, h2⟩ := uZ hg
 simp only [Nat.sub_zero] at h2
 have ht : t < vs.length := by have := (av.1 h2).1; omega
 refine ⟨vs[t], ?_, ha t g vs[t] h2 (ao ht)⟩
 rw [Array.getElem?_append_left (by simpa using ht)]
 simp [ht]
def LD (P:Program) (N:Nat) (cx:Cx) (fn:Func) (R:Ending→World→Prop) (ds:List G) (u:FrameMode) (s:St):Prop:=
 ∀μ a w,Rel N cx μ {s with df:=ds} a w→LeavesInM (FF none) 0 P fn a.tmps R a.defers u w
variable {X:Nat→Prop}{st:List (Nat×aq)}{μ:Mu}{w:World}{fn:Func}{Q:G→List (Nat×aq)→Prop}{Qp:List PanicEntry→List (Nat×aq)→Prop}
theorem LD.ret {s : St} {gs : List G} {r : G} {st' : List (Nat × aq)} (h1 : ua P { s with df := [] } fn.results.toList gs) (h2 : pc s.st st') (h3 : hZ s.st st' (pack gs) = some r) (h4 : Q r st') :
  LD P N (eg X st μ w) fn (qO X st μ w Q Qp) [] .returning s := by
 intro μ' a' w' hr'
 refine lT (fun h => by cases h) hr'.nd fun w'' hs => ?_
 have hr'' : Rel N (eg X st μ w) μ' { s with df := [] } { a' with defers := [] } w'' :=
  { st := hr'.st.sU hs, nd := .nil, sz := hr'.sz, fr := fun t g hg => let ⟨v, hv, hrv⟩ := hr'.fr t g hg; ⟨v, hv, hrv.shut hs⟩ }
 obtain ⟨vs', hl', hvs, hrun⟩ := h1.run hr''
 have hp := Fp hl' hvs
 refine ⟨_, ?_, .inl ⟨_, r, st', μ', rfl, h4, hr''.st.sub h2, zT hr''.st (fun h k hk => ⟨k, h2.get hk⟩) hp h3⟩⟩
 have e1 : results fn a'.tmps = results fn ({ a' with defers := [] } : Act).tmps := rfl
 rw [e1, vQ]
 simp only [Sem.run_bind, qX _ _ _ _ _ hrun, Result.andThen_ok, Sem.run_pure]
theorem LD.R5 {s:St}{ch:List PanicEntry}{st':List (Nat×aq)}(h2:pc s.st st') (h4:Qp ch st'):LD P N (eg X st μ w) fn (qO X st μ w Q Qp) [] (.panicking ch) s:=by
 intro μ' a' w' hr'
 refine lT (fun h=>by cases h) hr'.nd fun w'' hs=>?_
 exact .inr ⟨_,st',μ',rfl,h4,(hr'.st.sU hs).sub h2⟩
theorem Dt {cx:Cx}{R:Ending→World→Prop}{u:FrameMode}(hu:u≠.run){f:FuncId}{cs:List G}{gs:List G}{tmps:Array Value}{O:Nat→Prop}{base:Nat}{μ:Mu}:
  ∀{ds:List Deferred}{w:World},jK O base w μ ds (.aR f cs::gs)→
   (∀w' us ds',iX (fun b=>¬O b∧base≤b) w w'→aN O base w' μ (.aR f cs) (.func (.func f) #[] us)→jK O base w' μ ds' gs→LeavesInM (FF none) 0 P fn tmps R ({target:=.fn (.func f) us,args:=#[]}::ds') u w')→
   LeavesInM (FF none) 0 P fn tmps R ds u w
 | [],w,h,K=>by cases h
 | d::ds,w,h,K=>by
  cases h with
  | mark h1 h2 h3 h4 h5 h6=>
   rename_i D
   refine⟨hu,.inl ⟨D,_,rfl,run_takeDeferred h4,?_⟩⟩
   have hs:iX (fun b=>¬O b∧base≤b) w (w.putObj D (.deferred none)):=iX.put _ ⟨h1,h2⟩ h4 rfl
   have hs1:iX (fun b=>b=D) w (w.putObj D (.deferred none)):=iX.put _ rfl h4 rfl
   refine Dt (cx:=cx) hu (O:=O) (base:=base) (μ:=μ) (w:=w.putObj D (.deferred none)) (h6.shut hs1 fun d hd D' e e'=>h5 d hd (by rw[e,e'])) fun w' us ds' hw'=>K w' us ds' ⟨hw'.size.trans hs.size,fun b=>?_,hw'.os.trans hs.os,hw'.tape.trans hs.tape,hw'.output.trans hs.output⟩
   by_cases e:b=D
   ·subst e;exact .inr ⟨⟨h1,h2⟩,_,h4,rfl⟩
   ·rcases hw'.block b with h7 | ⟨h7,o,h8,h9⟩
    ·exact .inl (h7.trans (World.putObj_heap_other e))
    ·exact .inr ⟨h7,o,by rw[←World.putObj_heap_other (o:=.deferred none) e];exact h8,h9⟩
  | aR h1 h2=>exact K w _ _ (iX.refl _ _) h1 h2
theorem GH {vw:Bool}{s s2:St}{H:List Nat}{st':List (Nat×aq)}{bk:List Nat}(h:kY vw s H st' bk=some s2):s2.df=s.df:=by
 unfold kY at h
 cases hb:oI s H st' bk&&s.df.all (fun g=>!(pB (ee st' H 0) g)) with
 | false=>rw[hb] at h;cases h
 | true=>
  rw[hb,cond_true] at h
  split at h
  ·cases h;rfl
  ·cases h
theorem LD.aR {cx : Cx} {R : Ending → World → Prop} {s : St} {f : FuncId} {caps gs' : List G} {ds : List G} {u : FrameMode} {dQ : List (Nat × aq)} {Qd : FrameMode → List (Nat × aq) → Prop} (H : List Nat) (vw : Bool) (hu : u ≠ .run) (hc : ∀ args w, (callFunc f args).run P w = .ok (.enter f args) w)
    (hv : bV.go H (dO s.st H vw) caps = some gs') (hl : fM H (dO s.st H vw) s.st H 0 = some dQ) (cZ : qQ H = true) (hcon : GD P f gs' dQ u Qd)
    (hres : ∀ u' st', Qd u' st' → ∃ bk s2, kY vw { s with df := ds } H st' bk = some s2 ∧ LD P N cx fn R ds (settle u') s2) : LD P N cx fn R (.aR f caps :: ds) u s := by
  intro μ a w hr
  refine Dt (cx := cx) hu hr.nd fun w' us ds' hs hrc hnd' => ?_
  have hr' : Rel N cx μ { s with df := ds } { a with defers := ds' } w' := by
    refine { st := ?_, nd := hnd', sz := hr.sz, fr := fun t g hg => let ⟨v, hv, hrv⟩ := hr.fr t g hg; ⟨v, hv, hrv.shut hs⟩ }
    exact hr.st.sU hs
  obtain ⟨us2, hus, hlu, hrc2⟩ := hrc.QK
  have hus : us = us2.toArray := by
    obtain ⟨A, B, e1, e2, e3, e4⟩ := yQ f us2
    rw [e1] at hus
    injection hus with _ q1 q2
    rw [← e2, ← q1, ← q2]; simp
  subst us
  · refine ⟨hu, .inr ⟨fun _ => (by rename_i h; cases h), .func f, us2.toArray, f, us2.toArray, rfl, ?_, fun _ _ => trivial, ?_⟩⟩
    · have : (callFunc f (#[] ++ us2.toArray)).run P w' = .ok (.enter f us2.toArray) w' := by rw [hc]; simp
      exact this
    · obtain ⟨h1, h2⟩ := po hv
      have hrel := FH hr'.st (H := H) (vw := vw) hl (lG cZ)
      have hcall := hcon (lM cx s.st μ H vw) (lJ H μ) w' us2 hrel.fo hrel (by omega) fun j g v hg hv => by
        obtain ⟨g0, h3, h4⟩ := h2 j g hg
        exact sJ hr'.st hl (hrc2 j g0 v h3 hv) h4
      refine CallsDIn.mono hcall ?_
      rintro e u' w'' ⟨v, st', μ', rfl, hq, hC⟩
      obtain ⟨bk, s2, hb, hld⟩ := hres u' st' hq
      obtain ⟨q1, _, _, _⟩ := pz hr' hl (lG cZ) hC hb
      have hdf : s2.df = ds := GH hb
      exact hld _ _ _ (by rw [← hdf]; exact q1)
theorem GD.of {f : FuncId} {c : Code} {args : List G} {st : List (Nat × aq)} {Q : List (Nat × aq) → Prop} (hf : P.funcs[f]? = some fn) (hb : fn.body = some c) (hN : fn.ntmps = N) (hle : Nat.ble args.length N = true)
    (h : ∀ cx, cx.ro = none → GW P N cx c (pC P fn fun _ st => Q st) { fr := jZ args 0, st := st, df := [] }) (u : FrameMode) : GD P f args st u fun u' st' => u' = u ∧ Q st' := by
  intro X μ w vs hX hst hl ha
  have hrel := DD hst hl ha hN hle
  refine CallsDIn.mono (Bw (F := FF none) (n := 0) (R := fun e w' => ∃ v st' μ', e = .returned v ∧ Q st' ∧ cd (eg X st μ w) μ' st' w') hf hb trivial (wpIn_mono (h (eg X st μ w) rfl μ _ w hrel) fun e a' w' hl => ?_)) fun e u' w' h => ?_
  · have fin : ∀ (μ' : Mu) (s' : St), Rel N (eg X st μ w) μ' s' a' w' → pC P fn (fun _ st => Q st) e s' → LeavesInM (FF none) 0 P fn a'.tmps (fun e w' => ∃ v st' μ', e = .returned v ∧ Q st' ∧ cd (eg X st μ w) μ' st' w') a'.defers .returning w' := by
      rintro μ' s' hr' ⟨_, hdf, gs, r, st', h1, h2, h3, h4⟩
      have cZ := hr'.nd
      rw [hdf] at cZ
      refine lT (fun h => by cases h) cZ fun w'' hs => ?_
      have hr'' : Rel N (eg X st μ w) μ' { s' with df := [] } { a' with defers := [] } w'' :=
        { st := hr'.st.sU hs, nd := .nil, sz := hr'.sz, fr := fun t g hg => let ⟨v, hv, hrv⟩ := hr'.fr t g hg; ⟨v, hv, hrv.shut hs⟩ }
      have h1' : ua P { s' with df := [] } fn.results.toList gs := by
        have : ({ s' with df := [] } : St) = s' := by cases s'; simp only at hdf; subst hdf; rfl
        rw [this]; exact h1
      obtain ⟨vs', hl', hvs, hrun⟩ := h1'.run hr''
      refine ⟨if h : vs'.toArray.size = 1 then vs'.toArray[0] else .tuple vs'.toArray, ?_, _, st', μ', rfl, h4, hr''.st.sub h2⟩
      have e1 : results fn a'.tmps = results fn ({ a' with defers := [] } : Act).tmps := rfl
      rw [e1, vQ]
      simp only [Sem.run_bind, qX _ _ _ _ _ hrun, Result.andThen_ok, Sem.run_pure]
    cases e with
    | normal => obtain ⟨μ', s', hr', hq⟩ := hl; exact fin μ' s' hr' hq
    | ret => obtain ⟨μ', s', hr', hq⟩ := hl; exact fin μ' s' hr' hq
    | outgrown => exact hl.elim
    | _ => obtain ⟨_, _, _, hq, _⟩ := hl; rcases hq with hq | hq <;> cases hq
  · obtain ⟨rfl, v, st', μ', h1, h2, h3⟩ := h
    exact ⟨v, st', μ', h1, ⟨rfl, h2⟩, h3⟩
theorem GP.R6 {f : FuncId} {c : Code} {args : List G} {st : List (Nat × aq)} (hf : P.funcs[f]? = some fn) (hb : fn.body = some c) (hN : fn.ntmps = N) (hle : Nat.ble args.length N = true)
  (h : ∀ X μ w, GW P N (eg X st μ w) c (fun e s => match e with
   | .normal => LD P N (eg X st μ w) fn (qO X st μ w Q Qp) s.df .returning s
   | .ret => LD P N (eg X st μ w) fn (qO X st μ w Q Qp) s.df .returning s
   | .panic ch => LD P N (eg X st μ w) fn (qO X st μ w Q Qp) s.df (.panicking ch) s
   | _ => False) { fr := jZ args 0, st := st, df := [] }) : GP P f args st Q Qp := by
 intro X μ w vs hX hst hl ha
 have hrel := DD hst hl ha hN hle
 refine mw.1 (callsIn_of_wp_marks (F := FF none) (n := 0) hf hb trivial ?_)
 refine wpIn_mono (h X μ w μ _ w hrel) fun e a' w' hl => ?_
 cases e with
 | normal => obtain ⟨μ', s', hr', hq⟩ := hl; exact hq μ' a' w' hr'
 | ret => obtain ⟨μ', s', hr', hq⟩ := hl; exact hq μ' a' w' hr'
 | panic ch => obtain ⟨μ', s', hr', hq⟩ := hl; exact hq μ' a' w' hr'
 | outgrown => exact hl.elim
 | exit id => obtain ⟨_, _, _, hq⟩ := hl; exact hq
 | goto l => obtain ⟨_, _, _, hq⟩ := hl; exact hq
theorem GL.defer {cx:Cx}{Q:Exit→St→Prop}{ops:Array Oper}{rest:List Oper}{s:St}{x:Operand}{ts:Array TypeId}{ty:TypeId}{pos:String}{after:Array Edge}{f:FuncId}{caps:List G}(hb:qK.contains f=false) (hro:cx.ro=none) (hf:ev s x=some (.aR f caps))
  (h:GL P N cx ops Q rest {s with df:=.aR f caps::s.df}):GL P N cx ops Q (⟨none,.defer ⟨.value x,#[],ts⟩,ty,pos,after,none⟩::rest) s:=by
 intro μ a w hr
 have hcl:=hr.ev hf
 generalize hav:a.eval x=vf at hcl
 cases hcl with
 | aD h=>cases h
 | aR _ _ us hlu hrc=>
  have hcv:qB f us=.func (.func f) #[] us.toArray:=by unfold qB;rw[hb]
  unfold wpListIn
  rw[if_pos (eF hr rfl)]
  refine⟨fun _ _=>trivial,?_⟩
  have e:(Oper.semAt (FF cx.ro).round a.eval ⟨none,.defer ⟨.value x,#[],ts⟩,ty,pos,after,none⟩).run P w=.ok (.defer {target:=.fn (.func f) us.toArray,args:=#[]}) w:=by
   rw[show(FF cx.ro).round=none from hro]
   simp[Oper.semAt,execOp,resolve,Deferred.ofValue,hav,hcv]
  rw[e]
  show wpListIn _ _ _ _ _ rest _ w
  refine h μ _ w ?_
  refine {st:=hr.st,nd:=.aR (hcv▸.aR _ _ _ hlu hrc) hr.nd,sz:=by simp[Act.put,hr.sz],fr:=fun t g hg=>?_}
  exact hr.fr t g hg
theorem QW.c1 {W:List Nat}{s:St}{d:Nat}{ty:TypeId}{pos:String}{after:Array Edge}{guard:Option (Nat×Bool)}{f:FuncId}{xs:Array Operand}{ts:Array TypeId}{gs gs':List G}{dQ:List (Nat×aq)}{T:St→Prop}{Tp:List PanicEntry→St→Prop}(H:List Nat) (vw:Bool) (hc:∀args w,(callFunc f args).run P w=.ok (.enter f args) w)
  (hx:tI s xs.toList=some gs) (hv:bV.go H (dO s.st H vw) gs=some gs') (hl:fM H (dO s.st H vw) s.st H 0=some dQ) (cZ:qQ H=true) (hcon:GP P f gs' dQ Q Qp)
  (hres:∀r st',Q r st'→∃bk s2 r',kY vw s H st' bk=some s2∧dw vw (iP st' bk) r=some r'∧T (s2.put d r')) (hresP:∀ch st',Qp ch st'→∃bk s2,kY vw s H st' bk=some s2∧Tp ch s2) (hW:sQ H W=true):
  j6 P W s ⟨some d,.call ⟨.value (.func f),xs,ts⟩,ty,pos,after,guard⟩ T Tp:=by
 refine⟨(fun _ h=>by cases h),?_⟩
 intro N cx μ a w hr hN K Q' hK hKp
 obtain⟨h1,h2⟩:=mX hx
 have hcall:=ux (vs:=xs.toList.map a.eval) hr hv hl cZ (by simp[h1]) (fun j g v hg hv=>by
  obtain⟨x,hxj,he⟩:=h2 j g hg
  rw[ak,hxj] at hv
  cases hv
  exact hr.ev he) hcon
 unfold Oper.wp
 have:(execOp a.eval ⟨some d,.call ⟨.value (.func f),xs,ts⟩,ty,pos,after,guard⟩).run P w=.ok (.enter f (xs.toList.map a.eval).toArray) w:=by
  have e:xs.map a.eval=(xs.toList.map a.eval).toArray:=by rw[←hG]
  simp[execOp,resolve,invoke,Deferred.ofValue,Act.eval,hc,e]
 rw[this]
 refine hcall.mono ?_
 rintro e w' (⟨v,r,st',μ',rfl,hq,hC,hrv⟩ | ⟨ch,st',μ',rfl,hq,hC⟩)
 ·obtain⟨bk,s2,r',hb,hren,hT⟩:=hres r st' hq
  obtain⟨q1,q2,q3,_⟩:=pz hr hl (lG cZ) hC hb
  exact hK _ _ _ w' (q1.put (hN d rfl) (q2 r r' v hrv hren)) hT (q3 W (sP hW))
 ·obtain⟨bk,s2,hb,hT⟩:=hresP ch st' hq
  obtain⟨q1,_,_,_⟩:=pz hr hl (lG cZ) hC hb
  exact hKp ch _ _ w' q1 hT
theorem QW.c2 {W:List Nat}{s:St}{d:Nat}{ty:TypeId}{pos:String}{after:Array Edge}{guard:Option (Nat×Bool)}{f:FuncId}{x:Operand}{xs:Array Operand}{ts:Array TypeId}{gs caps gs':List G}{dQ:List (Nat×aq)}{T:St→Prop}{Tp:List PanicEntry→St→Prop}(H:List Nat) (vw:Bool) (hb:rH f xs.toList=true) (hc:∀args w,(callFunc f args).run P w=.ok (.enter f args) w)
  (hf:ev s x=some (.aR f caps)) (hx:tI s xs.toList=some gs) (hv:bV.go H (dO s.st H vw) (gs++caps)=some gs') (hl:fM H (dO s.st H vw) s.st H 0=some dQ) (cZ:qQ H=true) (hcon:GP P f gs' dQ Q Qp)
  (hres:∀r st',Q r st'→∃bk s2 r',kY vw s H st' bk=some s2∧dw vw (iP st' bk) r=some r'∧T (s2.put d r')) (hresP:∀ch st',Qp ch st'→∃bk s2,kY vw s H st' bk=some s2∧Tp ch s2) (hW:sQ H W=true):
  j6 P W s ⟨some d,.call ⟨.value x,xs,ts⟩,ty,pos,after,guard⟩ T Tp:=by
 refine⟨(fun _ h=>by cases h),?_⟩
 intro N cx μ a w hr hN K Q' hK hKp
 obtain⟨h1,h2⟩:=mX hx
 have hcl:=hr.ev hf
 generalize hav:a.eval x=vf at hcl
 cases hcl with
 | aD h=>cases h
 | aR _ _ us hlu hrc=>
  have hcall:=ux (vs:=xs.toList.map a.eval++us) hr hv hl cZ (by simp[h1,hlu]) (fun j g v hg hv=>by
   rw[bC] at hg hv
   rw[aU,←h1] at hv
   split at hg
   ·rename_i hj
    rw[if_pos hj] at hv
    obtain⟨x,hxj,he⟩:=h2 j g hg
    rw[ak,hxj] at hv
    cases hv
    exact hr.ev he
   ·rename_i hj
    rw[if_neg hj] at hv
    exact hrc _ g v hg hv) hcon
  unfold Oper.wp
  have:=um (P:=P) (w:=w) (d:=d) (ty:=ty) (pos:=pos) (after:=after) (guard:=guard) (ts:=ts) hb hc hav
  rw[this]
  refine hcall.mono ?_
  rintro e w' (⟨v,r,st',μ',rfl,hq,hC,hrv⟩ | ⟨ch,st',μ',rfl,hq,hC⟩)
  ·obtain⟨bk,s2,r',hb,hren,hT⟩:=hres r st' hq
   obtain⟨q1,q2,q3,_⟩:=pz hr hl (lG cZ) hC hb
   exact hK _ _ _ w' (q1.put (hN d rfl) (q2 r r' v hrv hren)) hT (q3 W (sP hW))
  ·obtain⟨bk,s2,hb,hT⟩:=hresP ch st' hq
   obtain⟨q1,_,_,_⟩:=pz hr hl (lG cZ) hC hb
   exact hKp ch _ _ w' q1 hT
end
end Go.AM
/-
 AM:a string's bytes appended;pointers to a block against themselves.
-/
namespace Go.AM
section
variable {P:Program}{N:Nat}{cx:Cx}{s:St}
variable {ty:TypeId}{pos:String}{after:Array Edge}{guard:Option (Nat×Bool)}{W:List Nat}{d:Nat}
def tm (b:ByteArray):List G:=b.data.toList.map fun x=>.val (.int .u8 x.toNat)
theorem yT (b:ByteArray):(tm b).length=b.size:=by rw[tm,aU,bE];rfl
theorem Mk {b:ByteArray}{j:Nat}{g:G}(h:(tm b)[j]?=some g):∃u,(Lib.strCells b)[j]?=some u∧g=.val u:=by
 unfold tm at h
 rw[ak] at h
 obtain⟨x,hx,rfl⟩:=au.1 h
 exact⟨_,by rw[Lib.strCells,ak,hx];rfl,rfl⟩
theorem EF.LK {t u e:TypeId}{x y:Operand}{h n:Nat}{k:aq}{b:ByteArray}(hx:ev s x=some (.aM h 1 0 n)) (hy:ev s y=some (.val (.string b))) (hk:ay s.st h=some k)
  (hp:k.pure=true) (hety:k.bs=e) (hksz:k.sz=1) (hfull:k.cells.length=n) (ht:P.underlying t=some (.slice e)) (hu:P.underlying u=some .string)
  (hi:(P.info? e).map (fun i=>(i.zero,i.size,i.bytes))=some (some (.int .u8 0),1,1))
  (hbound:n+b.size≤140737488355328) (hW:W.contains h=true) (hlp:k.lp=none:=by rfl) (hpn:pinned h=false:=by rfl) (hdf:oE h s.df=true:=by rfl):
  bW P W s ⟨some d,.call ⟨.builtin .append,#[x,y],#[t,u]⟩,ty,pos,after,guard⟩
   (·={fr:=(d,.aM h 1 0 (n+b.size))::lU h s.fr,st:=(h,{k with cells:=k.cells++tm b})::fp h s.st,df:=s.df}):=by
 subst hety
 refine⟨(fun _ h=>by cases h),?_⟩
 intro N cx μ a w hr hN K Q hK
 obtain⟨i,hi1,hi2⟩:=au.1 hi
 simp only[Prod.mk.injEq] at hi2
 obtain⟨hz,hs1,hb1⟩:=hi2
 have uY:n+b.size≤maxLen:=by unfold maxLen;omega
 have hv:(a.eval x=.slice none 0 0∧n=0∧μ h=none∧k.cells=[])∨
   ∃b cap m0 cs,a.eval x=.slice (some ⟨b,0,none⟩) n cap∧n≤cap∧μ h=some (b,m0)∧cap*1=m0.1∧w.heap[b]?=some (.cells cs k.bs (0,0))∧cs.size=m0.1∧m0.1≤maxLen*1∧
    ∀(j:Nat) (g:G),k.cells[j]?=some g→∃v,cs[j]?=some v∧cF (cx.O s.st μ) cx.base w μ k g v:=by
  have hv:=hr.ev hx
  generalize a.eval x=v at hv
  cases hv with
  | aD h=>cases h
  | gX _ _ hm=>
   have:=hr.st.ey h k hk
   rw[hm] at this
   exact .inl ⟨rfl,rfl,hm,this.1⟩
  | aM _ _ _ _ b m0 cap hm hn hc=>
   obtain⟨cs,h1,h2,h3,h4,h5,h6⟩:=hr.own hk hm hlp
   exact .inr ⟨b,cap,m0,cs,rfl,hn,hm,by omega,h1,h2,by rw[←hksz];exact h5 (by omega),h6⟩
  | fL _ _ off0 b _ hm hpos=>exact absurd hpos (oK _)
 have hyv:a.eval y=.string b:=hr.val hy
 have hown:∃v xs,a.eval x=v∧w.ownsRow 0 k.bs 1 v n xs∧(∀(j:Nat) (g:G),k.cells[j]?=some g→∃v,xs[j]?=some v∧cF (cx.O s.st μ) cx.base w μ k g v):=by
  rcases hv with ⟨h1,h2,h3,h4⟩ | ⟨b,cap,m0,cs,h1,h2,h3,h4,h6,h7,h8,h9⟩
  ·subst h2
   exact⟨_,[],h1,World.ownsRow_nil w 0 k.bs 1,fun j g hg=>by rw[h4] at hg;simp at hg⟩
  ·refine⟨_,cs.toList.take (n*1),h1,⟨?_,.inr ⟨b,cap,cs,rfl,cI _,h6,h2,?_,by rw[h7,h4],rfl⟩⟩,fun j g hg=>?_⟩
   ·rw[bH,bE,h7,←h4]
    exact gR (cJ _ h2)
   ·omega
   ·obtain⟨v,hv,hrv⟩:=h9 j g hg
    have hj:j<n*1:=by have:=(av.1 hg).1;omega
    exact⟨v,by rw[bg,if_pos hj,ba];exact hv,hrv⟩
 obtain⟨v,xs,h1,h2,h5⟩:=hown
 have law:=Lib.run_append_own_string (P:=P) w 0 t u ty k.bs i ht hu hi1 hz hs1 hb1 v n xs h2 b uY hbound (cI _)
 rw[←h1,←hyv] at law
 obtain⟨v',w',hrun,ho,hgrow,hnil⟩:=law
 have hexec:(execOp a.eval ⟨some d,.call ⟨.builtin .append,#[x,y],#[t,u]⟩,ty,pos,after,guard⟩).run P w=.ok (.value v') w':=by
  simp only[execOp,resolve,invoke,builtin,Sem.run_bind,Sem.run_pure,Result.andThen_ok,List.map_toArray,az,dE,hrun]
 have hoth:∀b,b<w.heap.size→(∀m,μ h≠some (b,m))→w'.heap[b]?=w.heap[b]?:=by
  intro b hb' hn
  refine hgrow.block b hb' fun e=>?_
  rcases hv with ⟨q1,q2,q3,q4⟩ | ⟨b',cap,m0,cs,q1,q2,q3,q4,q6,q7,q8,q9⟩
  ·rw[q1] at e;cases e
  ·rw[q1] at e
   cases e
   exact hn m0 q3
 unfold Oper.wp
 rw[hexec]
 by_cases hnone:v'=.slice none 0 0
 ·obtain⟨q1,q2⟩:=hnil.1 hnone
  obtain⟨r2,r3⟩:n=0∧μ h=none:=by
   rcases hv with ⟨r1,r2,r3,r4⟩ | ⟨b',cap,m0,cs,r1,_⟩
   ·exact⟨r2,r3⟩
   ·rw[q1] at r1;cases r1
  subst hnone
  subst r2
  have hbn:tm b=[]:=aX (by rw[yT];exact q2)
  have hk2:=tq (h:=h) hk hp
  have hr2:=(hr.kill h).N4 (k':={k with cells:=k.cells++tm b}) hk2 rfl rfl id (fun h=>h) rfl (by simp[hbn]) hlp hlp
  have hsame:∀b,b<w.heap.size→w'.heap[b]?=w.heap[b]?:=fun b hb=>hoth b hb fun m hm=>by rw[r3] at hm;cases hm
  have hr3:=hr2.kept hgrow.size hsame hgrow.os hgrow.tape hgrow.output
  refine hK μ _ _ w' (hr3.put (d:=d) (g:=.aM h 1 0 (0+b.size)) (hN d rfl) ?_) rfl ?_
  ·rw[q2];exact .gX _ _ r3
  ·refine⟨hgrow.size,fun b hb _=>hsame b hb,fun x k1 c1 m1 b1 hw h1 h2 hi=>?_⟩
   by_cases e:x=h
   ·subst e;exact .inl ⟨x,k,c1,m1,hw,hk,h2,hi⟩
   ·have h1':ay (fp h s.st) x=some k1:=by rw[←aG _ _ e];exact h1
    obtain⟨k0,h5,_⟩:=cX h1'
    exact .inl ⟨x,k0,c1,m1,hw,h5,h2,hi⟩
 obtain⟨ho1,ho2⟩:=ho
 rcases ho2 with ⟨ho2,_⟩ | ⟨g,cap,cur,rfl,_,hcur,hnc,hcm,hcs,htake⟩
 ·exact absurd ho2 hnone
 have hg:(∃m0,μ h=some (g,m0))∨w.heap.size≤g:=by
  by_cases hlt:g<w.heap.size
  ·refine .inl ?_
   have hnl:((n+b.size:Nat):Int)≤9223372036854775807:=by omega
   rcases hv with ⟨q1,q2,q3,q4⟩ | ⟨b',cap',m0,cs,q1,q2,q3,q4,q6,q7,q8,q9⟩
   ·subst q2
    simp only[cN] at hrun
    by_cases hb0:b.size=0
    ·have:=hnil.2 ⟨q1,hb0⟩;cases this
    ·have hr2:=run_append_nil_string (P:=P) w t u ty k.bs i (.int .u8 0) ht hu hi1 hz b (by omega) (by omega) (by rw[hb1];omega)
     rw[q1,hyv,hr2] at hrun
     injection hrun with r1 r2
     cases r1
     exact absurd hlt (oK _)
   ·by_cases hroom:n+b.size≤cap'
    ·have hr2:=Lib.run_append_room_string (P:=P) w t u ty k.bs i ht hu hi1 hs1 b' n cap' cs q6 b hroom (by omega)
     rw[q1,hyv,hr2] at hrun
     injection hrun with r1 r2
     cases r1
     exact⟨m0,q3⟩
    ·rcases h2.2 with ⟨q10,q11⟩ | ⟨g',cap2,cur2,q10,_,q12,q13,q14,q15,q16⟩
     ·rw[←h1,q1] at q10;cases q10
     have holds:=h2.cells (g:=b') (by rw[←h1,q1];rfl)
     have hr2:=Lib.run_append_grow_string (P:=P) w t u ty k.bs i (.int .u8 0) ht hu hi1 hz ⟨b',0,none⟩ n cap' xs (by rw[hs1];exact h2.1) holds b (by omega)
      hnl (by rw[hb1];exact growslice_fits (by omega) (by omega))
     rw[q1,hyv,hr2] at hrun
     injection hrun with r1 r2
     cases r1
     exact absurd hlt (oK _)
  ·exact .inr (by omega)
 have hxl:=h2.1
 have ke:∀(j:Nat) (v:Value),(xs++Lib.strCells b)[j]?=some v→cur[j]?=some v:=by
  intro j v hv
  rw[←htake,bg] at hv
  split at hv
  ·rw[ba] at hv;exact hv
  ·cases hv
 obtain⟨hr2,hst⟩:=hr.KA (k':={k with cells:=k.cells++tm b}) hk hg hcur rfl hgrow.size hoth hgrow.os hgrow.tape hgrow.output id hp (by dsimp only;rw[al,hfull,yT,hcs];omega)
  (fun _=>by dsimp only;rw[hcs,hksz];exact cJ _ hcm)
  (by
   intro j g' hg'
   dsimp only at hg'
   rw[bC] at hg'
   split at hg'
   ·obtain⟨v,hv,hrv⟩:=h5 j g' hg'
    refine⟨v,ke j v ?_,?_⟩
    ·rw[fc (by omega)];exact hv
    ·unfold cF at hrv⊢
     dsimp only
     rw[hp] at hrv⊢
     exact hrv
   ·rename_i hj
    obtain⟨v,hv,rfl⟩:=Mk hg'
    refine⟨v,ke j v ?_,?_⟩
    ·rw[iB (by omega),hxl,nI,←hfull];exact hv
    ·unfold cF
     dsimp only
     rw[hp]
     exact .val _) W hW hlp hpn hdf
 refine hK _ _ _ w' (hr2.put (d:=d) (g:=.aM h 1 0 (n+b.size)) (hN d rfl) ?_) rfl hst
 exact .aM _ _ _ _ _ _ cap (cz _ _ _) hnc (by rw[hcs];omega)
def strOf (l:List Int):ByteArray:=⟨(l.map fun n=>UInt8.ofNat n.toNat).toArray⟩
def aF (b:ByteArray):List Int:=b.data.toList.map fun x=>(x.toNat:Int)
theorem bI (b:ByteArray):(aF b).length=b.size:=by rw[aF,aU,bE];rfl
theorem Da:∀(l:List Int) (acc:ByteArray),List.foldl (fun b (a:Int)=>b.push (UInt8.ofNat a.toNat)) acc l=⟨acc.data++(l.map fun n=>UInt8.ofNat n.toNat).toArray⟩
 | [],acc=>by simp
 | x::r,acc=>by
  rw[List.foldl_cons,Da r]
  apply iz
  simp[ByteArray.push]
theorem YL.NG {dst:Option Tmp}{t t' e:TypeId}{x:Operand}{h n:Nat}{k:aq}{l:List Int}(hx:ev s x=some (.aM h 1 0 n)) (hk:ay s.st h=some k) (hlp:k.lp=none) (hc:k.cells=l.map fun a=>.val (.int .u8 a)) (hn:l.length=n)
  (ht:P.underlying t=some (.slice e)) (he:P.underlying e=some (.int .u8)) (ht':P.underlying t'=some .string) (hW:W.contains h=false):fO P W s ⟨dst,.convert t t' x,ty,pos,after,guard⟩ (.val (.string (strOf l))):=fun N cx μ a w hr=>by
 refine⟨_,.aD (.val _),fun w' hs' hw'=>?_⟩
 have hv:=hr.ev hx
 generalize e1:a.eval x=v at hv
 cases hv with
 | aD h=>cases h
 | gX _ _ hm=>
  obtain rfl:l=[]:=aX hn
  simp[execOp,e1,convert,run_underlying ht,run_underlying ht',run_underlying he,Conv.bytesToString,strOf]
  rfl
 | fL _ _ off0 b _ hm hpos=>exact absurd hpos (oK _)
 | aM _ _ _ _ b m cap hm hcap hcc=>
  obtain⟨cs,h1,h2,h3,_,_,h5⟩:=hr.own hk hm hlp
  have hb:=hr.agree hk hm hW ⟨hs',hw'⟩ (dU h1)
  rw[h1] at hb
  have hlen:n≤cs.size:=by rw[h2];omega
  have hl2:=pj (P:=P) (off:=0) hb n (by omega)
  have hcs:((cs.toList.drop 0).take n).toArray=(l.map fun a=>Value.int .u8 a).toArray:=by
   congr 1
   refine jT fun j=>?_
   rw[iC,bg]
   by_cases hj:j<n
   ·rw[if_pos hj,ba]
    have hjl:j<l.length:=by omega
    obtain⟨v,hv,hrv⟩:=h5 j (.val (.int .u8 l[j])) (by rw[hc,ak,ao hjl];rfl)
    rw[hv,ak,ao hjl]
    unfold cF at hrv
    split at hrv <;> cases hrv
    ·rfl
    ·rename_i hi;cases hi;rfl
   ·rw[if_neg hj,mZ (by rw[aU];omega)]
  rw[hcs] at hl2
  have hconv:(convert t t' (.slice (some ⟨b,0,none⟩) n cap)).run P w'=.ok (.string (strOf l)) w':=by
   simp only[convert,Sem.run_bind,run_underlying ht,run_underlying ht',run_underlying he,Result.andThen_ok,Conv.bytesToString,hl2]
   simp[strOf,Da]
  simp only[execOp,e1,Sem.run_bind,hconv,Result.andThen_ok,Sem.run_pure]
theorem ID {fits:TypeId→Bool}:∀{d:Nat}{e:TypeId}{c c' off n:Nat},rowAt P fits d e c off n=true→c≤c'→rowAt P fits d e c' off n=true
 | 0,_,_,_,_,_,h,_=>by cases h
 | d+1,e,c,c',off,n,h,hc=>by
  simp only[rowAt] at h⊢
  split at h
  ·cases h
  ·rename_i hs
   rw[if_neg hs]
   simp only[cf,ah,decide_eq_true_eq] at h⊢
   rcases h with ⟨⟨h1,h2⟩,h3⟩ | ⟨h1,h2⟩
   ·exact .inl ⟨⟨h1,by omega⟩,h3⟩
   ·exact .inr ⟨by omega,h2⟩
theorem yW:∀{d:Nat}{e u:TypeId}{c c' off n:Nat},liesAt P d e c off u n=true→c≤c'→liesAt P d e c' off u n=true
 | 0,_,_,_,_,_,_,h,_=>by cases h
 | d+1,e,u,c,c',off,n,h,hc=>by
  simp only[liesAt,cf] at h⊢
  rcases h with h | h
  ·exact .inl (ID h hc)
  ·refine .inr ?_
   split at h
   ·exact yW h hc
   ·cases h
variable {dst:Option Tmp}
theorem PY.Qk {t t' e:TypeId}{x y:Operand}{h off:Nat}{j:TypeInfo}(hx:ev s x=some (.loc h off)) (hy:ev s y=some (.loc h off)) (ht:P.underlying t=some (.pointer e)) (hte:P.info? e=some j):
  PY P s ⟨dst,.binOp .neq t x y t',ty,pos,after,guard⟩ (.val (.bool false)):=fun N cx μ a w hr=>by
 obtain⟨b,m,e1,hm⟩:=hr.loc hx
 obtain⟨b',m',e2,hm'⟩:=hr.loc hy
 rw[hm] at hm'
 cases hm'
 refine⟨_,.aD (.val _),fun w'=>?_⟩
 have h:=Lib.run_neq_ptr_same (P:=P) w' ⟨b,off,none⟩ ht hte
 have hg:(eqGuard .neq t x y (.pointer (some ⟨b,off,none⟩)) (.pointer (some ⟨b,off,none⟩))).run P w'=.ok () w':=by simp[eqGuard]
 simp only[execOp,e1,e2,Sem.run_bind,hg,Result.andThen_ok,h,Sem.run_pure]
theorem YL.Me {src dt t:TypeId}{x:Operand}{h off:Nat}{k:aq}{j:TypeInfo}(hx:ev s x=some (.loc h off)) (hk:ay s.st h=some k) (hlp:k.lp=none) (hs:P.underlying src=some (.pointer t)) (hd:P.underlying dt=some .unsafePointer)
  (ht:P.info? t=some j) (hj:j.size≠0) (hoff:off<k.cells.length) (hW:W.contains h=false):fO P W s ⟨dst,.convert src dt x,ty,pos,after,guard⟩ (.loc h off):=fun N cx μ a w hr=>by
 obtain⟨b,m,e1,hm⟩:=hr.loc hx
 obtain⟨cs,h1,h2,h3,_⟩:=hr.own hk hm hlp
 refine⟨_,.loc h off b m hm,fun w' hs' hw'=>?_⟩
 have hb:=hr.agree hk hm hW ⟨hs',hw'⟩ (dU h1)
 rw[h1] at hb
 have hsh:w'.shape? b=some (k.bs,cs.size):=by simp[World.shape?,hb]
 have:=Lib.run_to_unsafe (P:=P) w' ⟨b,off,none⟩ hs hd ht hj hsh (by show off<cs.size;omega)
 simp only[execOp,e1,Sem.run_bind,this,Result.andThen_ok,Sem.run_pure]
theorem YL.Jm {src dt u:TypeId}{x:Operand}{h off:Nat}{k:aq}{j:TypeInfo}(hx:ev s x=some (.loc h off)) (hk:ay s.st h=some k) (hlp:k.lp=none) (hs:P.underlying src=some .unsafePointer) (hd:P.underlying dt=some (.pointer u))
  (hu:P.info? u=some j) (hl:liesAt P P.depth k.bs 1 off u 1=true) (hc0:P.cellsOf k.bs≠0) (hc:P.cellsOf k.bs≤k.cells.length) (hW:W.contains h=false):fO P W s ⟨dst,.convert src dt x,ty,pos,after,guard⟩ (.loc h off):=fun N cx μ a w hr=>by
 obtain⟨b,m,e1,hm⟩:=hr.loc hx
 obtain⟨cs,h1,h2,h3,_⟩:=hr.own hk hm hlp
 refine⟨_,.loc h off b m hm,fun w' hs' hw'=>?_⟩
 have hb:=hr.agree hk hm hW ⟨hs',hw'⟩ (dU h1)
 rw[h1] at hb
 have hsh:w'.shape? b=some (k.bs,cs.size):=by simp[World.shape?,hb]
 have:=Lib.run_from_unsafe (P:=P) w' ⟨b,off,none⟩ hs hd hu hsh (yW hl (Nat.div_pos (by omega) (by omega)))
 simp only[execOp,e1,Sem.run_bind,this,Result.andThen_ok,Sem.run_pure]
theorem PY.same {f:FuncId}{x:Operand}{ts:Array TypeId}{g:G}(hx:ev s x=some g) (hc:∀v w,(callFunc f #[v]).run P w=.ok (.value v) w):PY P s ⟨dst,.call ⟨.value (.func f),#[x],ts⟩,ty,pos,after,guard⟩ g:=fun N cx μ a w hr=>by
 refine⟨_,hr.ev hx,fun w'=>?_⟩
 simp[execOp,resolve,invoke,Deferred.ofValue,Act.eval,hc]
end
end Go.AM
/-
 AM:maps of plain data:keys are strings or numbers;what is under them leads to nothing that may be written.
-/
namespace Go.AM
structure GU (P:Program) (kt:TypeId){κ:Type}(key:κ→Value):Prop where
 ex:∃d,P.underlying kt=some d∧∀k,MapKept.IsKey d (key k)
 inj:∀k k',key k=key k'→k=k'
section
variable {κ:Type}[DecidableEq κ]
def iG {α:Type}(es:List (κ×α)) (k:κ):Option α:=(es.find? fun e=>decide (e.1=k)).map (·.2)
def qe {α:Type}(es:List (κ×α)) (k:κ):Bool:=es.any fun e=>decide (e.1=k)
def kU {α:Type}(es:List (κ×α)) (k:κ) (g:α):List (κ×α):=bif qe es k then es.map (fun e=>bif decide (e.1=k) then(k,g) else e) else es++[(k,g)]
theorem Iw {α:Type}{es:List (κ×α)}{k:κ}(h:∀e∈es,e.1≠k):iG es k=none:=by
 unfold iG
 rw[List.find?_eq_none.2 fun e he=>by simpa using h e he];rfl
theorem Ar {α:Type}{k:κ}{g:α}:∀{es:List (κ×α)}{j:Nat},(es.map (·.1)).Nodup→es[j]?=some (k,g)→iG es k=some g
 | [],j,_,h=>by simp at h
 | e::r,0,_,h=>by simp at h;subst h;simp[iG]
 | e::r,j+1,hn,h=>by
  simp only[az,List.nodup_cons] at hn
  simp only[gZ] at h
  have hne:e.1≠k:=fun q=>hn.1 (by rw[q];exact gq.2 ⟨_,aQ h,rfl⟩)
  have ih:=Ar hn.2 h
  unfold iG at ih⊢
  rw[List.find?_cons_of_neg (by simpa using hne)];exact ih
theorem GZ {α:Type}{es:List (κ×α)}{k:κ}(h:∀e∈es,e.1≠k):qe es k=false:=by
 unfold qe
 rw[List.any_eq_false]
 intro e he
 simpa using h e he
theorem Iv {α:Type}{es:List (κ×α)}{k:κ}{g:α}{j:Nat}(h:es[j]?=some (k,g)):qe es k=true:=by
 unfold qe
 rw[List.any_eq_true]
 exact⟨_,aQ h,by simp⟩
theorem Iu {α:Type}{es:List (κ×α)}{k:κ}{g:α}(h:qe es k=true):(kU es k g).map (·.1)=es.map (·.1):=by
 unfold kU
 rw[h,cond_true,gS]
 refine fB fun e _=>?_
 show(bif decide (e.1=k) then(k,g) else e).1=e.1
 by_cases q:e.1=k
 ·rw[decide_eq_true q];exact q.symm
 ·rw[decide_eq_false q];rfl
structure CP (key:κ→Value) (es:List (κ×G)) (O:Nat→Prop) (w:World) (b:Nat) (m:Mm):Prop where
 sq:m.1=0
 len:m.2=[]
 nd:(es.map (·.1)).Nodup
 heap:∃ms clock,w.heap[b]?=some (.map ms clock)∧ms.toList.map (·.key)=es.map (fun e=>key e.1)∧∀(i:Nat) (e:κ×G) (x:MapEntry),es[i]?=some e→ms.toList[i]?=some x→bp O w e.2 x.val
def uV (key:κ→Value) (es:List (κ×G)):Dp where
 φ:=CP key es
 iw:=False
 mono:=by
  intro O O' w w' b m h hk hO hb
  obtain⟨ms,cl,h1,h2,h3⟩:=h.heap
  exact {sq:=h.sq,len:=h.len,nd:=h.nd,heap:=⟨ms,cl,(hb b (.self _ _)).trans h1,h2,fun i e x he hx=>(h3 i e x he hx).mono hk hO⟩}
 shut:=by
  intro O Z w w' b m h hs hz
  obtain⟨ms,cl,h1,h2,h3⟩:=h.heap
  refine {sq:=h.sq,len:=h.len,nd:=h.nd,heap:=⟨ms,cl,?_,h2,fun i e x he hx=>(h3 i e x he hx).shut hs⟩}
  rcases hs.block b with q | ⟨q,_⟩
  ·exact q.trans h1
  ·exact absurd q (hz b (.self _ _))
 live:=by
  intro O w b m h x hx
  obtain⟨ms,cl,h1,_⟩:=h.heap
  rcases hx with rfl | ⟨n,hn⟩
  ·exact dU h1
  ·rw[h.len] at hn;cases hn
end
section
variable {P:Program}{N:Nat}{cx:Cx}{s:St}{W:List Nat}
variable {dst:Option Tmp}{ty:TypeId}{pos:String}{after:Array Edge}{guard:Option (Nat×Bool)}
variable {κ:Type}[DecidableEq κ]{key:κ→Value}
theorem Rel.PX {μ:Mu}{a:Act}{w:World}(hr:Rel N cx μ s a w){h:Nat}{k:aq}{es:List (κ×G)}(hk:ay s.st h=some k) (hl:k.lp=some (.deep (uV key es))){b:Nat}{m:Mm}(hm:μ h=some (b,m)):
  CP key es (bif k.fresh then gm (cx.O s.st μ) cx.base else cx.O s.st μ) w b m:=by
 have:=hr.st.ey h k hk
 rw[hm] at this
 exact((aS.deep hl).1 this).1
theorem Rel.L8 {μ:Mu}{a:Act}{w:World}(hrel:Rel N cx μ s a w){x:Operand}{v:Value}(hx:AM.ev s x=some (.val v)):a.eval x=v:=by
 have:=hrel.ev hx
 generalize a.eval x=u at this
 cases this with
 | aD h=>cases h;rfl
theorem CP.find {es:List (κ×G)}{O:Nat→Prop}{w:World}{b:Nat}{m:Mm}(h:CP key es O w b m){kt:TypeId}(K:GU P kt key) (k:κ){ms:Array MapEntry}{cl:Nat}(hb:w.heap[b]?=some (.map ms cl)) (w':World):
  ((Instr.findKey kt (key k) ms.toList).run P w'=.ok none w'∧(∀e∈es,e.1≠k)∧iG es k=none)∨
  ∃j x g,(Instr.findKey kt (key k) ms.toList).run P w'=.ok (some (j,x.val)) w'∧ms.toList[j]?=some x∧x.key=key k∧es[j]?=some (k,g)∧iG es k=some g∧bp O w g x.val:=by
 obtain⟨d,hd,hi⟩:=K.ex
 obtain⟨ms',cl',h1,h2,h3⟩:=h.heap
 rw[hb] at h1
 cases h1
 have hks:∀x∈ms.toList,MapKept.IsKey d x.key:=fun x hx=>by
  have:x.key∈es.map (fun e=>key e.1):=by rw[←h2];exact iY hx
  obtain⟨e,_,he⟩:=gq.1 this
  rw[←he];exact hi _
 rcases MapKept.findNow_spec (hi k) ms.toList 0 hks with ⟨q1,q2⟩ | ⟨j,x,q1,q2,q3⟩
 ·have hno:∀e∈es,e.1≠k:=fun e he hek=>by
   have:key e.1∈ms.toList.map (·.key):=by rw[h2];exact gq.2 ⟨e,he,rfl⟩
   obtain⟨x,hx,hxe⟩:=gq.1 this
   exact q2 x hx (by rw[hxe,hek])
  exact .inl ⟨MapKept.run_findKey hd q1,hno,Iw hno⟩
 ·have hj:(es.map fun e=>key e.1)[j]?=some x.key:=by rw[←h2,ak,q2];rfl
  rw[ak] at hj
  cases he:es[j]? with
  | none=>rw[he] at hj;cases hj
  | some e=>
   rw[he] at hj
   have hj:key e.1=x.key:=dx hj
   have hek:e.1=k:=K.inj _ _ (hj.trans q3)
   obtain⟨k',g⟩:=e
   simp only at hek
   subst hek
   rw[cN] at q1
   exact .inr ⟨j,x,g,MapKept.run_findKey hd q1,q2,q3,he,Ar h.nd he,h3 j _ x he q2⟩
theorem YL.iG {t kt et:TypeId}{x y:Operand}{h:Nat}{k:aq}{es:List (κ×G)}{ky:κ}{zv:Value}{c:Bool}(hx:ev s x=some (.eY h)) (hy:ev s y=some (.val (key ky)))
  (hk:ay s.st h=some k) (hl:k.lp=some (.deep (uV key es))) (hfr:k.fresh=true→∀e∈es,∃v,e.2=.val v) (ht:P.underlying t=some (.map kt et)) (K:GU P kt key) (hz:∀w,(zeroValue et).run P w=.ok zv w) (hW:W.contains h=false):
  fO P W s ⟨dst,.lookup t x y c,ty,pos,after,guard⟩ (bif c then .aT [(AM.iG es ky).getD (.val zv),.val (.bool (AM.iG es ky).isSome)] else(AM.iG es ky).getD (.val zv)):=fun N cx μ a w hrel=>by
 obtain⟨b,m,e1,hm⟩:=hrel.eY hx
 have hM:=hrel.PX hk hl hm
 have e2:=hrel.L8 hy
 obtain⟨d,hd,hi⟩:=K.ex
 obtain⟨ms,cl,h1,_,_⟩:=hM.heap
 have hv:∃v:Value,(∃f:Option (Nat×Value),(∀w',(Instr.findKey kt (key ky) ms.toList).run P w'=.ok f w')∧((f=none∧v=zv∧(AM.iG es ky).isSome=false)∨∃j,f=some (j,v)∧(AM.iG es ky).isSome=true))∧bp (bif k.fresh then gm (cx.O s.st μ) cx.base else cx.O s.st μ) w ((AM.iG es ky).getD (.val zv)) v:=by
  rcases hM.find K ky h1 w with ⟨q1,q2,q3⟩ | ⟨j,x,g,q1,q2,q3,q4,q5,q6⟩
  ·refine⟨zv,⟨none,fun w'=>?_,.inl ⟨rfl,rfl,by rw[q3];rfl⟩⟩,by rw[q3];exact .val _⟩
   rcases hM.find K ky h1 w' with ⟨r1,_⟩ | ⟨j,x,g,_,_,_,_,r5,_⟩
   ·exact r1
   ·rw[q3] at r5;cases r5
  ·refine⟨x.val,⟨some (j,x.val),fun w'=>?_,.inr ⟨j,rfl,by rw[q5];rfl⟩⟩,by rw[q5];exact q6⟩
   have hN:=MapKept.findNow_spec (hi ky) ms.toList 0 (fun z hz=>by
    obtain⟨ms',cl',g1,g2,g3⟩:=hM.heap
    rw[h1] at g1
    cases g1
    have:z.key∈es.map (fun e=>key e.1):=by rw[←g2];exact iY hz
    obtain⟨e,_,he⟩:=gq.1 this
    rw[←he];exact hi _)
   rcases hN with ⟨r1,_⟩ | ⟨j',x',r1,_,_⟩
   ·have r2:=MapKept.run_findKey (P:=P) (w:=w) hd r1
    rw[q1] at r2;cases r2
   ·have r2:=MapKept.run_findKey (P:=P) (w:=w) hd r1
    rw[q1] at r2
    have r3:=MapKept.run_findKey (P:=P) (w:=w') hd r1
    rw[r3]
    have:=Result.ok.inj r2
    rw[this.1]
 obtain⟨v,⟨f,hf,hcase⟩,hrep⟩:=hv
 have hrun:∀w',w'.heap[b]?=w.heap[b]?→(Instr.lookup t (.map (some b)) (key ky) c).run P w'=.ok (bif c then .tuple #[v,.bool (AM.iG es ky).isSome] else v) w':=fun w' hb=>by
  rw[h1] at hb
  have hg:=MapKept.run_getObj_map (P:=P) hb
  have hck:=fun e=>MapKept.run_checkKey (P:=P) (w:=w') hd (hi ky) e 9999
  rcases hcase with ⟨rfl,rfl,q3⟩ | ⟨j,rfl,q3⟩
  ·cases c <;> simp[Instr.lookup,run_underlying ht,hg,hck,hf w',hz,q3]
  ·cases c <;> simp[Instr.lookup,run_underlying ht,hg,hck,hf w',q3]
 have hrv:aN (cx.O s.st μ) cx.base w μ ((AM.iG es ky).getD (.val zv)) v:=by
  cases hkf:k.fresh with
  | false=>rw[hkf] at hrep;exact .aD hrep
  | true=>
   have hval:∃u,(AM.iG es ky).getD (.val zv)=.val u:=by
    unfold AM.iG
    cases hq:es.find? (fun e=>decide (e.1=ky)) with
    | none=>exact⟨zv,rfl⟩
    | some e=>
     obtain⟨u,hu⟩:=hfr hkf e (List.mem_of_find?_eq_some hq)
     exact⟨u,hu⟩
   obtain⟨u,hu⟩:=hval
   rw[hu] at hrep⊢
   cases hrep
   exact .aD (.val _)
 refine⟨bif c then .tuple #[v,.bool (AM.iG es ky).isSome] else v,?_,fun w' hs hw'=>?_⟩
 ·cases c with
  | false=>exact hrv
  | true=>
   refine .aT _ [v,.bool (AM.iG es ky).isSome] rfl fun j g u hg hu=>?_
   match j,hg,hu with
   | 0,hg,hu=>cases hg;cases hu;exact hrv
   | 1,hg,hu=>cases hg;cases hu;exact .aD (.val _)
   | j+2,hg,hu=>simp at hg
 ·have hb:=hrel.vE hk hm hW ⟨hs,hw'⟩ (.self b m)
  simp[execOp,e1,e2,hrun w' hb]
end
end Go.AM
/-
 AM:maps of plain data:one is made;a key gets another value.
-/
namespace Go.AM
section
variable {P:Program}{N:Nat}{cx:Cx}{s:St}{W:List Nat}
variable {ty:TypeId}{pos:String}{after:Array Edge}{guard:Option (Nat×Bool)}
variable {κ:Type}[DecidableEq κ]{key:κ→Value}
theorem Mp {α:Type}{es:List (κ×α)}{k:κ}{g:α}(h:(es.map (·.1)).Nodup):((kU es k g).map (·.1)).Nodup:=by
 cases hh:qe es k with
 | true=>rw[Iu hh];exact h
 | false=>
  unfold kU
  rw[hh,cond_false,gk,List.nodup_append]
  refine⟨h,by simp,fun a ha b hb=>?_⟩
  simp at hb
  subst hb
  intro e
  subst e
  obtain⟨x,hx,rfl⟩:=gq.1 ha
  unfold qe at hh
  rw[List.any_eq_false] at hh
  exact hh x hx (by simp)
theorem EF.kU {t kt et : TypeId} {x y z : Operand} {h : Nat} {k : aq} {es : List (κ × G)} {ky : κ} {v : Value} (hx : ev s x = some (.eY h)) (hy : ev s y = some (.val (key ky))) (hz : ev s z = some (.val v))
    (hk : ay s.st h = some k) (hl : k.lp = some (.deep (uV key es))) (ht : P.underlying t = some (.map kt et)) (K : GU P kt key) (hW : W.contains h = true) :
    bW P W s ⟨none, .mapUpdate t x y z, ty, pos, after, guard⟩ (· = { fr := s.fr, st := eb s.st h { k with lp := some (.deep (uV key (AM.kU es ky (.val v)))) }, df := s.df }) := by
  refine bW.skip rfl (fun _ h => by cases h) ?_
  intro N cx μ a w hr
  obtain ⟨b, m, e1, hm⟩ := hr.eY hx
  have hM := hr.PX hk hl hm
  have e2 := hr.L8 hy
  have e3 := hr.L8 hz
  obtain ⟨d, hd, hi⟩ := K.ex
  obtain ⟨ms, cl, h1, h2, h3⟩ := hM.heap
  have hg := MapKept.run_getObj_map (P := P) h1
  have hck := fun e => MapKept.run_checkKey (P := P) (w := w) hd (hi ky) e 9999
  have hb0 := hr.st.ey h k hk
  rw [hm] at hb0
  obtain ⟨_, p2, p3, p4⟩ := (aS.deep hl).1 hb0
  have M4 : ∃ ms' cl', (Instr.mapUpdate t (.map (some b)) (key ky) v).run P w = .ok () { w with heap := w.heap.setIfInBounds b (.map ms' cl') } ∧
      ms'.toList.map (·.key) = (AM.kU es ky (.val v)).map (fun e => key e.1) ∧ ∀ O' w', (∀ (i : Nat) (e : κ × G) (x : MapEntry), es[i]? = some e → ms.toList[i]? = some x → bp O' w' e.2 x.val) →
      ∀ (i : Nat) (e : κ × G) (x : MapEntry), (AM.kU es ky (.val v))[i]? = some e → ms'.toList[i]? = some x → bp O' w' e.2 x.val := by
    have hlen : ms.toList.length = es.length := by have := congrArg List.length h2; simpa using this
    rcases hM.find K ky h1 w with ⟨q1, q2, q3⟩ | ⟨j, x0, g, q1, q2, q3, q4, q5, q6⟩
    · have hp : AM.kU es ky (.val v) = es ++ [(ky, .val v)] := by unfold AM.kU; rw [GZ q2]; rfl
      refine ⟨ms.push ⟨key ky, v, cl⟩, cl + 1, ?_, ?_, fun O' w' hold i e x he hx => ?_⟩
      · have hso := MapKept.run_setObj_map (P := P) (.map (ms.push ⟨key ky, v, cl⟩) (cl + 1)) h1
        simp [Instr.mapUpdate, run_underlying ht, hg, hck, q1, hso]
      · rw [hp, Array.toList_push, gk, gk, h2]; rfl
      · rw [hp] at he
        rw [Array.toList_push] at hx
        rw [bC] at he hx
        split at he
        · rename_i hlt
          rw [if_pos (by omega)] at hx
          exact hold i e x he hx
        · rename_i hlt
          rw [if_neg (by omega)] at hx
          have hi0 : i - es.length = 0 := by
            cases hq : i - es.length with
            | zero => rfl
            | succ n => rw [hq] at he; simp at he
          rw [hi0] at he
          rw [show i - ms.toList.length = 0 by omega] at hx
          cases he; cases hx
          exact .val _
    · have hp : AM.kU es ky (.val v) = es.map (fun e => bif decide (e.1 = ky) then (ky, .val v) else e) := by unfold AM.kU; rw [Iv q4]; rfl
      have hj : ms[j]? = some x0 := by simpa using q2
      refine ⟨ms.modify j fun e => { e with key := key ky, val := v }, cl, ?_, ?_, fun O' w' hold i e x he hx => ?_⟩
      · have hso := MapKept.run_setObj_map (P := P) (.map (ms.modify j fun e => { e with key := key ky, val := v }) cl) h1
        simp [Instr.mapUpdate, run_underlying ht, hg, hck, q1, hj, q3, MapKept.run_keyThatStays (hi ky), hso]
      · rw [hp, gS]
        apply jT
        intro i
        rw [ak, ak, ba, Array.getElem?_modify]
        have hi2 : (ms.toList.map (·.key))[i]? = (es.map fun e => key e.1)[i]? := by rw [h2]
        rw [ak, ak, ba] at hi2
        by_cases hji : j = i
        · subst hji
          rw [if_pos rfl, hj, q4]
          simp
        · rw [if_neg hji, hi2]
          cases hq : es[i]? with
          | none => rfl
          | some e =>
            show some (key e.1) = some (key (bif decide (e.1 = ky) then (ky, G.val v) else e).1)
            by_cases hek : e.1 = ky
            · rw [decide_eq_true hek, hek]; rfl
            · rw [decide_eq_false hek]; rfl
      · rw [hp, ak] at he
        cases hq : es[i]? with
        | none => rw [hq] at he; cases he
        | some e0 =>
          rw [hq] at he
          have he : (bif decide (e0.1 = ky) then (ky, G.val v) else e0) = e := dx he
          rw [ba, Array.getElem?_modify] at hx
          by_cases hji : j = i
          · subst hji
            rw [q4] at hq
            cases hq
            rw [if_pos rfl, hj] at hx
            simp at hx he
            subst hx he
            exact .val _
          · rw [if_neg hji] at hx
            have hne : e0.1 ≠ ky := fun hek => by
              have cZ := hM.nd
              have a1 : (es.map (·.1))[i]? = some ky := by rw [ak, hq, ← hek]; rfl
              have a2 : (es.map (·.1))[j]? = some ky := by rw [ak, q4]; rfl
              exact hji ((List.getElem?_inj (av.1 a2).1 cZ).1 (a2.trans a1.symm))
            rw [decide_eq_false hne] at he
            have he : e0 = e := he
            subst he
            exact hold i e0 x hq (by rw [ba]; exact hx)
  obtain ⟨ms', cl', r1, r2, r3⟩ := M4
  have hset := MapKept.heap_set (o' := .map ms' cl') h1
  refine ⟨μ, { w with heap := w.heap.setIfInBounds b (.map ms' cl') }, ?_, ?_⟩
  · simp [execOp, e1, e2, e3, r1]
  · refine hr.rewrite (k' := { k with lp := some (.deep (uV key (AM.kU es ky (.val v)))) }) hk hm (.self b m) (by simp) (fun b' hb' => hset.2 b' hb') rfl rfl rfl id (fun O' hO => ?_) hW
    refine (aS.deep (d := uV key (AM.kU es ky (.val v))) rfl).2 ⟨?_, p2, p3, p4⟩
    have hO2 : ∀ x, x < w.heap.size → ¬ (bif k.fresh then gm (cx.O s.st μ) cx.base else cx.O s.st μ) x → ¬ (bif k.fresh then gm O' cx.base else O') x := by
      intro x hx hn ho
      cases hkf : k.fresh with
      | false => rw [hkf] at hn ho; exact hn ((hO x).2 ho)
      | true => rw [hkf] at hn ho; exact hn (ho.imp id (hO x).2)
    have hkp : Kept (bif k.fresh then gm (cx.O s.st μ) cx.base else cx.O s.st μ) w { w with heap := w.heap.setIfInBounds b (.map ms' cl') } := by
      refine ⟨by simp, fun b' _ hn => hset.2 b' fun e => hn ?_⟩
      subst e
      have : cx.O s.st μ b' := .inr (.root hk hm)
      cases k.fresh with
      | false => exact this
      | true => exact .inr this
    exact { sq := hM.sq, len := hM.len, nd := Mp hM.nd, heap := ⟨ms', cl', hset.1, r2, r3 _ _ fun i e x he hx => (h3 i e x he hx).mono hkp hO2⟩ }
def Hm (key:κ→Value):aq:=⟨0,true,true,true,1,[],some (.deep (uV key []))⟩
theorem Rel.PO {μ : Mu} {a : Act} {w : World} (hr : Rel N cx μ s a w) {hd : Nat} (key : κ → Value) (hfr : fresh s hd = true) :
    Rel N cx (mJ μ hd (some (w.heap.size, 0, []))) { fr := s.fr, st := (hd, Hm key) :: s.st, df := s.df } a (w.alloc (.map #[] 0)) ∧ Step W s.st μ ((hd, Hm key) :: s.st) (mJ μ hd (some (w.heap.size, 0, []))) w (w.alloc (.map #[] 0)) := by
  unfold fresh at hfr
  simp only [ah, Option.isNone_iff_eq_none] at hfr
  obtain ⟨f1, f2, f3, f5, f6⟩ := hfr
  have h := hr.st
  have hO : ∀ b, b < w.heap.size → ¬ cx.O s.st μ b → ¬ cx.O ((hd, Hm key) :: s.st) (mJ μ hd (some (w.heap.size, 0, []))) b := by
    intro b hb hn ho
    rcases ho with ho | ⟨x, k', c, m, h1, h2, h3⟩
    · exact hn (.inl ho)
    · by_cases e : x = hd
      · subst e; rw [cz] at h2; cases h2; rw [In.plain.1 h3] at hb; omega
      · rw [aG _ s.st e] at h1; rw [bh e] at h2; exact hn (.inr ⟨x, k', c, m, h1, h2, h3⟩)
  have hlt : ∀ x k' b m y, ay s.st x = some k' → μ x = some (b, m) → In y b m → y < w.heap.size := fun x k' b m y h1 h2 h3 => (h.cv x k' b m y h1 h2 h3).2.2.1
  have hkept := sK (cx.O s.st μ) w (.map #[] 0)
  refine ⟨{ st := { ey := ?_, dA := ?_, cv := ?_, fK := ?_, fo := h.fo, hb := ?_, os := h.os, tape := h.tape, output := h.output, gl := h.gl, ec := ?_ }, nd := (hr.nd.mono hkept hO).jg (fun g hg y hy => bh fun e => by subst e; rw [rq f5 hg] at hy; cases hy), sz := hr.sz, fr := fun t g hg => ?_ }, ?_⟩
  · intro x k' h1
    by_cases e : x = hd
    · subst e
      rw [dv] at h1; cases h1
      rw [cz]
      refine (aS.deep rfl).2 ⟨?_, rfl, rfl, fun _ => h.hb⟩
      exact { sq := rfl, len := rfl, nd := by simp, heap := ⟨#[], 0, heap_alloc_new w _, rfl, fun i e x h => by simp at h⟩ }
    · rw [aG _ s.st e] at h1
      rw [bh e]
      refine ((h.ey x k' h1).mono (fun b m hm y hy => eR w _ y (hlt x k' b m y h1 hm hy)) hkept hO).jg fun hp g hg y hy => bh ?_
      intro e
      subst e
      rw [tp f3 h1 hp hg] at hy
      cases hy
  · intro x x' k1 k2 y b m b' m' h1 h2 h3 h4 h5 h6
    by_cases e : x = hd
    · by_cases e' : x' = hd
      · rw [e, e']
      · subst e
        rw [cz] at h3; rw [bh e'] at h4; rw [aG _ s.st e'] at h2
        cases h3
        have := hlt x' k2 _ m' y h2 h4 h6
        rw [In.plain.1 h5] at this
        omega
    · by_cases e' : x' = hd
      · subst e'
        rw [cz] at h4; rw [bh e] at h3; rw [aG _ s.st e] at h1
        cases h4
        have := hlt x k1 _ m y h1 h3 h5
        rw [In.plain.1 h6] at this
        omega
      · rw [aG _ s.st e] at h1; rw [aG _ s.st e'] at h2; rw [bh e] at h3; rw [bh e'] at h4
        exact h.dA x x' k1 k2 y b m b' m' h1 h2 h3 h4 h5 h6
  · intro x k' b m y h1 h2 h3
    by_cases e : x = hd
    · subst e
      rw [cz] at h2
      cases h2
      rw [In.plain.1 h3]
      refine ⟨fun hx => ?_, .inl h.hb, by simp, fun _ => h.hb⟩
      have := h.fo _ hx
      have := h.hb
      omega
    · rw [aG _ s.st e] at h1; rw [bh e] at h2
      obtain ⟨a1, a2, a3, a4⟩ := h.cv x k' b m y h1 h2 h3
      exact ⟨a1, a2, by simp only [World.size_alloc]; omega, a4⟩
  · intro x k1 h1 h2
    by_cases e : x = hd
    · subst e; rw [lr f6] at h2; cases h2
    · rw [aG _ s.st e] at h1; rw [bh e]; exact h.fK x k1 h1 h2
  · simp only [World.size_alloc]; have := h.hb; omega
  · intro b hb hA
    rw [eR w _ b (by have := h.hb; omega)]
    exact h.ec b hb hA
  · obtain ⟨v, hv, hrv⟩ := hr.fr t g hg
    refine ⟨v, hv, (hrv.mono hkept hO (ar _)).jg fun y hy => bh ?_⟩
    intro e
    subst e
    rw [pq f2 hg] at hy
    cases hy
  · refine ⟨by simp, fun b hb _ => eR w _ b hb, fun h k' c m b hw h1 hm hi => ?_⟩
    by_cases e : h = hd
    · subst e
      rw [cz] at hm
      cases hm
      exact .inr (by rw [In.plain.1 hi]; exact ar _)
    · rw [aG _ s.st e] at h1
      rw [bh e] at hm
      exact .inl ⟨h, k', c, m, hw, h1, hm, hi⟩
theorem EF.RK {d : Nat} {t : TypeId} (hd : Nat) (key : κ → Value) (hfr : fresh s hd = true) :
  bW P W s ⟨some d, .makeMap t none, ty, pos, after, guard⟩ (· = { fr := (d, .eY hd) :: s.fr, st := (hd, Hm key) :: s.st, df := s.df }) := by
 refine bW.of (s1 := { fr := s.fr, st := (hd, Hm key) :: s.st, df := s.df }) (g := .eY hd) rfl (fun _ h => by cases h) ?_
 intro N cx μ a w hr
 obtain ⟨h1, h2⟩ := hr.PO (W := W) key hfr
 refine ⟨.map (some w.heap.size), _, _, ?_, h1, .eY hd _ _ (cz _ _ _), h2⟩
 simp [execOp, Instr.makeMap, newObj, Sem.run]
end
end Go.AM
