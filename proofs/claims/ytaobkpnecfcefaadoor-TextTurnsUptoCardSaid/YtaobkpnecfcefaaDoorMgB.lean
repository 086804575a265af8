/-
  AM, second part.
-/
import Derived.Test.YtaobkpnecfcefaaDoorMgA
import Derived.Laws.Tables
import Derived.WalkSpells
import Derived.Laws.Slices
import Derived.Laws.Strings2
import Derived.IntWalk
set_option linter.unusedSectionVars false
set_option linter.unusedSimpArgs false
set_option linter.unusedVariables false
/-
 AM,part L:a dM from a walk;calls by dM.
-/
namespace Go.AM
def sJ (P:Program) (fn:Func) (Q:G→List (Nat×ao)→Prop):Exit→St→Prop:=fun e s=>
 (e=.ret∨e=.normal)∧s.df=[]∧∃gs r st',vb P s fn.results.toList gs∧j9 s.st st'∧iI s.st st' (pack gs)=some r∧Q r st'
def UB (P:Program) (fn:Func) (Q:G→List (Nat×ao)→Prop) (Qp:List PanicEntry→List (Nat×ao)→Prop):Exit→St→Prop:=fun e s=>
 sJ P fn Q e s∨∃c,e=.panic c∧s.df=[]∧∃st',j9 s.st st'∧Qp c st'
theorem fB.refl (Z:Nat→Prop) (w:World):fB Z w w:=⟨rfl,fun _=>.inl rfl,rfl,rfl,rfl⟩
theorem fB.put {Z:Nat→Prop}{w:World}{D:Nat}{o:Obj}(o':Obj) (hz:Z D) (ho:w.heap[D]?=some o) (hc:LG o=false):fB Z w (w.putObj D o'):=by
 refine⟨by simp[World.putObj],fun b=>?_,rfl,rfl,rfl⟩
 by_cases e:b=D
 ·subst e;exact .inr ⟨hz,o,ho,hc⟩
 ·exact .inl (World.putObj_heap_other e)
theorem fB.cells {Z:Nat→Prop}{w w':World}(h:fB Z w w'){b:Nat}{cs:Array Value}{e:TypeId}{f:Nat×Nat}(hb:w.heap[b]?=some (.cells cs e f)):w'.heap[b]?=some (.cells cs e f):=by
 rcases h.block b with h1 | ⟨_,x,h1,h2⟩
 ·exact h1.trans hb
 ·rw[hb] at h1;cases h1;cases h2
theorem fB.cell {Z:Nat→Prop}{w w':World}(h:fB Z w w'){b j:Nat}{v:Value}(hb:w.cell? ⟨b,j,none⟩=some v):w'.cell? ⟨b,j,none⟩=some v:=by
 rcases h.block b with h1 | ⟨_,x,h1,h2⟩
 ·rw[World.cell?_of_block (w:=w) h1];exact hb
 ·cases x with
  | cells cs e f=>cases h2
  | _=>simp[World.cell?,h1] at hb
theorem bB.shut {O Z:Nat→Prop}{w w':World}{g:G}{v:Value}(hr:bB O w g v) (h:fB Z w w'):bB O w' g v:=by
 induction hr with
 | any v=>exact .any v
 | val v=>exact .val v
 | cH b v h=>exact .cH b v h
 | nil=>exact .nil
 | ib a cap=>exact .ib a cap
 | sl n cells b off cap us hn hO1 hb1 hc hr ih=>exact .sl n cells b off cap us hn hO1 (by rw[h.size];exact hb1) (fun j hj=>h.cell (hc j hj)) ih
 | ptr cells b off us hO1 hb1 hc hr ih=>exact .ptr cells b off us hO1 (by rw[h.size];exact hb1) (fun j hj=>h.cell (hc j hj)) ih
 | agg cells us hl hr ih=>exact .agg cells us hl ih
theorem aM.shut {O Z:Nat→Prop}{base:Nat}{w w':World}{μ:Mu}{g:G}{v:Value}(hr:aM O base w μ g v) (h:fB Z w w'):aM O base w' μ g v:=by
 induction hr with
 | aC hr=>exact .aC (hr.shut h)
 | fr hr=>exact .fr (hr.shut h)
 | loc h off b m hm=>exact .loc h off b m hm
 | eD h sz hm=>exact .eD h sz hm
 | aK h sz off n b m cap hm hn hc=>exact .aK h sz off n b m cap hm hn hc
 | dO h sz off0 b m hm hpos=>exact .dO h sz off0 b m hm hpos
 | agg cells us hl hr ih=>exact .agg cells us hl ih
 | aU cells us hl hr ih=>exact .aU cells us hl ih
 | aP f caps us hl hr ih=>exact .aP f caps us hl ih
 | cA h b m hm=>exact .cA h b m hm
 | kp h i off b m c n hm hk=>exact .kp h i off b m c n hm hk
 | ko h i sz x cap hi=>exact .ko h i sz x cap hi
 | ks h i sz n b m c k cap hm hk hn hc=>exact .ks h i sz n b m c k cap hm hk hn hc
 | eV h b m hm=>exact .eV h b m hm
theorem aS.shut {O Z:Nat→Prop}{base:Nat}{w w':World}{μ:Mu}{k:ao}{x:Option (Nat×Mm)}(hr:aS O base w μ k x) (h:fB Z w w') (hz:∀b m,x=some (b,m)→k.lp≠none→∀y,In y b m→¬Z y):aS O base w' μ k x:=by
 cases x with
 | none=>exact hr
 | some bm=>
  obtain⟨b,m⟩:=bm
  cases hl:k.lp with
  | none=>
   obtain⟨cs,h2,h3,h4,h6,h8,h5⟩:=hr.cells hl
   refine .mk hl (hr.l9 hl) ⟨cs,h.cells h2,h3,h4,h6,h8,fun j g hg=>?_⟩
   obtain⟨v,hv,hrv⟩:=h5 j g hg
   refine⟨v,hv,?_⟩
   unfold bZ at hrv⊢
   cases hp:k.pure with
   | true=>rw[hp] at hrv;exact hrv.shut h
   | false=>rw[hp] at hrv;exact hrv.shut h
  | some kd=>
   have hz:=hz b m rfl (by rw[hl];exact fun h=>by cases h)
   cases kd with
   | loop lp=>
    obtain⟨D,vs,h2,h3,h4,h5,h6⟩:=(aS.loop hl).1 hr
    refine(aS.loop hl).2 ⟨D,vs,?_,h3,h4,h5,fun j t g ht hg=>let ⟨v,hv,hrv⟩:=h6 j t g ht hg;⟨v,hv,hrv.shut h⟩⟩
    rcases h.block b with h7 | ⟨h7,_⟩
    ·exact h7.trans h2
    ·exact absurd h7 (hz b (.self _ _))
   | deep d=>
    obtain⟨h1,h2,h3,h4⟩:=(aS.deep hl).1 hr
    exact(aS.deep hl).2 ⟨d.shut h1 h hz,h2,h3,h4⟩
theorem bP.shut {cx:Cx}{μ:Mu}{st:List (Nat×ao)}{w w' w0:World}{Z:Nat→Prop}(hr:bP cx μ st w) (h:fB Z w w') (hz:∀x k b m,az st x=some k→μ x=some (b,m)→k.lp≠none→∀y,In y b m→¬Z y)
  (h0:w0.os=cx.w0.os∧w0.tape=cx.w0.tape∧w0.output=cx.w0.output) (hk:∀b,b<cx.base→¬cx.A b→w'.heap[b]?=w0.heap[b]?):bP {cx with w0:=w0} μ st w':=
 {dB:=fun x k hx=>(hr.dB x k hx).shut h fun b m hm hl=>hz x k b m hx hm hl,cR:=hr.cR,bY:=fun x k b m y h1 h2 h3=>by rw[h.size];exact hr.bY x k b m y h1 h2 h3,ew:=hr.ew,ed:=hr.ed,hb:=by rw[h.size];exact hr.hb,
  os:=(h.os.trans hr.os).trans h0.1.symm,tape:=(h.tape.trans hr.tape).trans h0.2.1.symm,output:=(h.output.trans hr.output).trans h0.2.2.symm,cW:=hk,
  gl:=fun p hp=>by
   obtain⟨h1,h2,cs,e,f,h3,h4⟩:=hr.gl p hp
   refine⟨h1,h2,cs,e,f,?_,h4⟩
   rw[←hk p.1 h1 h2]
   rcases h.block p.1 with h5 | ⟨_,o,h5,h6⟩
   ·exact h5.trans ((hr.cW p.1 h1 h2).trans h3)
   ·rw[hr.cW p.1 h1 h2,h3] at h5;cases h5;cases h6}
theorem fZ.shut {O Z:Nat→Prop}{base:Nat}{w w':World}{μ:Mu}{ds:List Deferred}{gs:List G}(hr:fZ O base w μ ds gs) (h:fB Z w w') (hz:∀d∈ds,∀D,d.target=.collected D→¬Z D):fZ O base w' μ ds gs:=by
 induction hr with
 | nil=>exact .nil
 | mark h1 h2 h3 h4 h5 h6 ih=>
  refine .mark h1 h2 (by rw[h.size];exact h3) ?_ h5 (ih fun d hd=>hz d (ap _ hd))
  rcases h.block _ with h7 | ⟨h7,_⟩
  ·exact h7.trans h4
  ·exact absurd h7 (hz _ au _ rfl)
 | aP h1 h2 ih=>exact .aP (h1.shut h) (ih fun d hd=>hz d (ap _ hd))
theorem mK {F:Fence}{n:Nat}{P:Program}{fn:Func}{tmps:Array Value}{R:Ending→World→Prop}{u:FrameMode}(hu:u≠.run){O:Nat→Prop}{base:Nat}{μ:Mu}:
  ∀{ds:List Deferred}{w:World},fZ O base w μ ds []→(∀w',fB (fun b=>¬O b∧base≤b) w w'→LeavesIn F n P fn tmps R [] u w')→LeavesInM F n P fn tmps R ds u w
 | [],w,_,K=>K w (fB.refl _ _)
 | d::ds,w,h,K=>by
  cases h with
  | mark h1 h2 h3 h4 h5 h6=>
   rename_i D
   refine⟨hu,.inl ⟨D,_,rfl,run_takeDeferred h4,?_⟩⟩
   have hs:fB (fun b=>¬O b∧base≤b) w (w.putObj D (.deferred none)):=fB.put _ ⟨h1,h2⟩ h4 rfl
   have hs1:fB (fun b=>b=D) w (w.putObj D (.deferred none)):=fB.put _ rfl h4 rfl
   refine mK hu (O:=O) (base:=base) (μ:=μ) (w:=w.putObj D (.deferred none)) (h6.shut hs1 fun d hd D' e e'=>h5 d hd (by rw[e,e'])) fun w' hw'=>K w' ⟨hw'.size.trans hs.size,fun b=>?_,hw'.os.trans hs.os,hw'.tape.trans hs.tape,hw'.output.trans hs.output⟩
   by_cases e:b=D
   ·subst e;exact .inr ⟨⟨h1,h2⟩,_,h4,rfl⟩
   ·rcases hw'.block b with h7 | ⟨h7,o,h8,h9⟩
    ·exact .inl (h7.trans (World.putObj_heap_other e))
    ·exact .inr ⟨h7,o,by rw[←World.putObj_heap_other (o:=.deferred none) e];exact h8,h9⟩
theorem bP.uf {cx:Cx}{μ:Mu}{st:List (Nat×ao)}{w w':World}(hr:bP cx μ st w) (h:fB (fun b=>¬cx.O st μ b∧cx.base≤b) w w'):bP cx μ st w':=
 hr.shut (w0:=cx.w0) h (fun x k b m h1 h2 _ y hy hz=>hz.1 (.inr ⟨x,k,b,m,h1,h2,hy⟩)) ⟨rfl,rfl,rfl⟩ fun b hb hA=>by
  rcases h.block b with h1 | ⟨⟨_,h1⟩,_⟩
  ·exact h1.trans (hr.cW b hb hA)
  ·omega
section
variable {P:Program}{N:Nat}{cx:Cx}{s:St}
theorem HC {O:Nat→Prop}{base:Nat}{w:World}{μ:Mu}{gs:List G}{vs:List Value}(hl:vs.length=gs.length) (hr:∀(j:Nat) (g:G) (v:Value),gs[j]?=some g→vs[j]?=some v→aM O base w μ g v):
  aM O base w μ (pack gs) (if h:vs.toArray.size=1 then vs.toArray[0] else .tuple vs.toArray):=by
 match gs,vs,hl,hr with
 | [],[],_,hr=>exact .aU [] [] rfl hr
 | [g],[v],_,hr=>exact hr 0 g v rfl rfl
 | g::g'::gs,v::v'::vs,hl,hr=>
  rw[dif_neg (by simp)]
  exact .aU _ _ hl hr
theorem xz (fn:Func) (a:Act):results fn a.tmps=(do let vs ←fn.results.mapM (wK a);pure (if h:vs.size=1 then vs[0] else .tuple vs)):=rfl
theorem sd {α:Type}(f:α→Sem Value) (xs:Array α) (w w':World) (vs:List Value) (h:(xs.toList.mapM f).run P w=.ok vs w'):(xs.mapM f).run P w=.ok vs.toArray w':=by
 rw[Array.mapM_eq_mapM_toList]
 simp[Sem.run_map,h]
theorem GP.of {f : FuncId} {fn : Func} {c : Code} {args : List G} {st : List (Nat × ao)} {Q : G → List (Nat × ao) → Prop} {Qp : List PanicEntry → List (Nat × ao) → Prop} (hf : P.funcs[f]? = some fn) (hb : fn.body = some c) (hN : fn.ntmps = N) (hle : Nat.ble args.length N = true)
    (h : ∀ cx, cx.ro = none → GW P N cx c (UB P fn Q Qp) { fr := kF args 0, st := st, df := [] }) : GP P f args st Q Qp := by
  intro X μ w vs hX hst hl ha
  have hle := eH hle
  have hrel : Rel N (dw X st μ w) μ { fr := kF args 0, st := st, df := [] } { tmps := vs.toArray ++ Array.replicate (fn.ntmps - vs.toArray.size) undef, defers := [] } w := by
    refine { st := hst, nd := .nil, sz := by simp; omega, fr := fun t g hg => ?_ }
    obtain ⟨_, h2⟩ := wq hg
    simp only [Nat.sub_zero] at h2
    have ht : t < vs.length := by have := (aw.1 h2).1; omega
    refine ⟨vs[t], ?_, ha t g vs[t] h2 (av ht)⟩
    rw [Array.getElem?_append_left (by simpa using ht)]
    simp [ht]
  refine j0.1 (callsIn_of_wp_marks (F := FF none) (n := 0) hf hb trivial ?_)
  refine wpIn_mono (h (dw X st μ w) rfl μ _ w hrel) fun e a' w' hl => ?_
  have fin : ∀ (μ' : Mu) (s' : St), Rel N (dw X st μ w) μ' s' a' w' → UB P fn Q Qp e s' → (e = .ret ∨ e = .normal) → LeavesInM (FF none) 0 P fn a'.tmps (qg X st μ w Q Qp) a'.defers .returning w' := by
    rintro μ' s' hr' hq he
    have hq : sJ P fn Q e s' := by
      rcases hq with hq | ⟨c, h1, _⟩
      · exact hq
      · subst h1; rcases he with he | he <;> cases he
    obtain ⟨_, hdf, gs, r, st', h1, h2, h3, h4⟩ := hq
    have cV := hr'.nd
    rw [hdf] at cV
    refine mK (fun h => by cases h) cV fun w'' hs => ?_
    have hr'' : Rel N (dw X st μ w) μ' { s' with df := [] } { a' with defers := [] } w'' :=
      { st := hr'.st.uf hs, nd := .nil, sz := hr'.sz, fr := fun t g hg => let ⟨v, hv, hrv⟩ := hr'.fr t g hg; ⟨v, hv, hrv.shut hs⟩ }
    have h1' : vb P { s' with df := [] } fn.results.toList gs := by
      have : ({ s' with df := [] } : St) = s' := by cases s'; simp only at hdf; subst hdf; rfl
      rw [this]; exact h1
    obtain ⟨vs', hl', hvs, hrun⟩ := h1'.run hr''
    have hp := HC hl' hvs
    refine ⟨_, ?_, .inl ⟨_, r, st', μ', rfl, h4, hr''.st.sub h2, yh hr''.st (fun h k hk => ⟨k, h2.get hk⟩) hp h3⟩⟩
    have e1 : results fn a'.tmps = results fn ({ a' with defers := [] } : Act).tmps := rfl
    rw [e1, xz]
    simp only [Sem.run_bind, sd _ _ _ _ _ hrun, Result.andThen_ok, Sem.run_pure]
  cases e with
  | normal => obtain ⟨μ', s', hr', hq⟩ := hl; exact fin μ' s' hr' hq (.inr rfl)
  | ret => obtain ⟨μ', s', hr', hq⟩ := hl; exact fin μ' s' hr' hq (.inl rfl)
  | panic ch =>
    obtain ⟨μ', s', hr', hq⟩ := hl
    have h1 := hr'.st
    have h2 := hr'.nd
    rcases hq with ⟨hq, _⟩ | ⟨c', h4, hdf, st', h5, h6⟩
    · rcases hq with hq | hq <;> cases hq
    · cases h4
      rw [hdf] at h2
      refine mK (fun h => by cases h) h2 fun w'' hs => ?_
      exact .inr ⟨_, st', μ', rfl, h6, (h1.uf hs).sub h5⟩
  | outgrown => exact hl.elim
  | exit id =>
    obtain ⟨μ', s', hr', hq⟩ := hl
    rcases hq with ⟨hq, _⟩ | ⟨c, hq, _⟩
    · rcases hq with hq | hq <;> cases hq
    · cases hq
  | goto l =>
    obtain ⟨μ', s', hr', hq⟩ := hl
    rcases hq with ⟨hq, _⟩ | ⟨c, hq, _⟩
    · rcases hq with hq | hq <;> cases hq
    · cases hq
theorem GM.of {f : FuncId} {fn : Func} {c : Code} {args : List G} {st : List (Nat × ao)} {Q : G → List (Nat × ao) → Prop} (hf : P.funcs[f]? = some fn) (hb : fn.body = some c) (hN : fn.ntmps = N) (hle : Nat.ble args.length N = true)
  (h : ∀ cx, cx.ro = none → GW P N cx c (sJ P fn Q) { fr := kF args 0, st := st, df := [] }) : GM P f args st Q :=
 GP.of hf hb hN hle fun cx hro => (h cx hro).mono fun _ _ hq => .inl hq
def dS (f:G→Option G):List G→Option (List G)
 | []=>some []
 | g::r=>match f g,dS f r with
  | some g',some r'=>some (g'::r')
  | _,_=>none
theorem pY {f:G→Option G}:∀{gs gs':List G},dS f gs=some gs'→gs'.length=gs.length∧∀(j:Nat) (g':G),gs'[j]?=some g'→∃g,gs[j]?=some g∧f g=some g'
 | [],_,h=>by cases h;exact⟨rfl,fun j g h=>by simp at h⟩
 | g::r,gs',h=>by
  simp only[dS] at h
  cases h1:f g with
  | none=>rw[h1] at h;cases h
  | some g1=>
   rw[h1] at h
   cases h2:dS f r with
   | none=>rw[h2] at h;cases h
   | some r1=>
    rw[h2] at h
    cases h
    obtain⟨h3,h4⟩:=pY h2
    refine⟨by simp[h3],fun j g' hg'=>?_⟩
    cases j with
    | zero=>cases hg';exact⟨g,rfl,h1⟩
    | succ j=>exact h4 j g' hg'
def mB:Value→G
 | .slice none 0 0=>.sl 0 []
 | v=>.val v
theorem sT {O:Nat→Prop}{w:World}(v:Value):bB O w (mB v) v:=by
 unfold mB
 split
 ·exact .nil
 ·exact .val _
def view:Nat→List (Nat×ao)→G→Option G
 | 0,_,_=>none
 | n+1,st,g=>match g with
  | .val v=>some (mB v)
  | .cH b=>some (.cH b)
  | .sl n cs=>some (.sl n cs)
  | .ptr cs=>some (.ptr cs)
  | .fr g=>some g
  | .aK h sz off m=>match az st h with
   | some k=>match k.lp with
    | some _=>none
    | none=>match k.pure with
     | true=>some (.sl m ((k.cells.drop off).take (m*sz)))
     | false=>match dS (view n st) ((k.cells.drop off).take (m*sz)) with
      | some cs=>some (.sl m cs)
      | none=>none
   | none=>none
  | .loc h off=>match az st h with
   | some k=>match k.lp with
    | some _=>none
    | none=>match k.pure with
     | true=>some (.ptr (k.cells.drop off))
     | false=>match dS (view n st) (k.cells.drop off) with
      | some cs=>some (.ptr cs)
      | none=>none
   | none=>none
  | .agg gs=>match dS (view n st) gs with
   | some gs'=>some (.agg gs')
   | none=>none
  | .ks h i sz m=>bif Nat.beq m 0&&Nat.beq i ER then some (.sl 0 []) else match az st h with
   | some k=>match k.lp with
    | some (.deep d)=>match d.row i with
     | some gs=>bif Nat.beq gs.length (m*sz) then some (.sl m gs) else none
     | none=>none
    | _=>none
   | none=>none
  | _=>none
theorem xn {st:List (Nat×ao)}{O X:Nat→Prop}{base:Nat}{μ:Mu}{w:World}(hblk:∀h k,az st h=some k→aS O base w μ k (μ h)) (hout:∀h k b m x,az st h=some k→μ h=some (b,m)→In x b m→¬X x) (hXO:∀b,X b→O b):
  ∀(n:Nat){g g':G}{v:Value},aM O base w μ g v→view n st g=some g'→bB X w g' v
 | 0,_,_,_,_,h=>by cases h
 | n+1,g,g',v,hv,h=>by
  have hX:∀{g v},bB O w g v→bB X w g v:=fun h=>h.mono (Kept.refl _ _) fun b _ hn hx=>hn (hXO b hx)
  have cells:∀(hh off cnt:Nat) (k:ao) (b:Nat) (m:Mm) (cs:List G),az st hh=some k→k.lp=none→μ hh=some (b,m)→(match k.pure with | true=>some ((k.cells.drop off).take cnt) | false=>dS (view n st) ((k.cells.drop off).take cnt))=some cs→
    ∃us:Nat→Value,¬X b∧b<w.heap.size∧(∀j,j<cs.length→w.cell? ⟨b,off+j,none⟩=some (us j))∧(∀(j:Nat) (g:G),cs[j]?=some g→bB X w g (us j))∧cs.length≤m.1-off:=by
   intro hh off cnt k b m cs hk hlp hm hcs
   have hb:=hblk hh k hk
   rw[hm] at hb
   obtain⟨vs,h1,h2,h3,h4,h5,h6⟩:=hb.cells hlp
   have rd:cs.length≤m.1-off∧∀(j:Nat) (g:G),cs[j]?=some g→∃v,vs[off+j]?=some v∧bB X w g v:=by
    cases hp:k.pure with
    | true=>
     rw[hp] at hcs
     cases hcs
     refine⟨by rw[bo,cK];omega,fun j g hg=>?_⟩
     rw[aV] at hg
     split at hg
     ·rw[a8] at hg
      obtain⟨v,hv,hrv⟩:=h6 _ g hg
      refine⟨v,hv,?_⟩
      unfold bZ at hrv
      rw[hp] at hrv
      exact hX (hrv.flag (f':=false) (fun h=>by cases h))
     ·cases hg
    | false=>
     rw[hp] at hcs
     obtain⟨h7,h8⟩:=pY hcs
     refine⟨by rw[h7,bo,cK];omega,fun j g hg=>?_⟩
     obtain⟨g0,h9,h10⟩:=h8 j g hg
     rw[aV] at h9
     split at h9
     ·rw[a8] at h9
      obtain⟨v,hv,hrv⟩:=h6 _ g0 h9
      refine⟨v,hv,?_⟩
      unfold bZ at hrv
      rw[hp] at hrv
      exact xn hblk hout hXO n hrv h10
     ·cases h9
   refine⟨fun j=>vs.getD (off+j) undef,hout hh k b m b hk hm (.self _ _),lt_of_heap h1,fun j hj=>?_,fun j g hg=>?_,rd.1⟩
   ·obtain⟨v,hv,_⟩:=rd.2 j _ (av hj)
    rw[cell_of h1,hv]
    simp[hv]
   ·obtain⟨v,hv,hrv⟩:=rd.2 j g hg
    simpa[hv] using hrv
  cases g with
  | val u=>cases h;cases hv with | aC hv=>cases hv;exact sT _
  | sl m cs=>cases h;cases hv with | aC hv=>exact hX hv
  | ptr cs=>cases h;cases hv with | aC hv=>exact hX hv
  | fr g=>cases h;cases hv with
   | aC hv=>cases hv
   | fr hv=>exact hX hv.wO
  | cH b=>cases h;cases hv with
   | aC hv=>exact hX hv
  | aK hh sz off m=>
   simp only[view] at h
   cases hk:az st hh with
   | none=>rw[hk] at h;cases h
   | some k=>
    rw[hk] at h
    dsimp only at h
    cases hlp:k.lp with
    | some lp=>rw[hlp] at h;cases h
    | none=>
    rw[hlp] at h
    dsimp only at h
    have key:∃cs,g'=.sl m cs∧(match k.pure with | true=>some ((k.cells.drop off).take (m*sz)) | false=>dS (view n st) ((k.cells.drop off).take (m*sz)))=some cs:=by
     cases hp:k.pure with
     | true=>rw[hp] at h;cases h;exact⟨_,rfl,rfl⟩
     | false=>
      rw[hp] at h
      dsimp only at h⊢
      cases hq:dS (view n st) ((k.cells.drop off).take (m*sz)) with
      | none=>rw[hq] at h;cases h
      | some cs=>rw[hq] at h;cases h;exact⟨_,rfl,rfl⟩
    obtain⟨cs,rfl,hcs⟩:=key
    have len0:∀{cs},m*sz=0→(match k.pure with | true=>some ((k.cells.drop off).take (m*sz)) | false=>dS (view n st) ((k.cells.drop off).take (m*sz)))=some cs→cs=[]:=by
     intro cs h0 h
     rw[h0,List.take_zero] at h
     cases hp:k.pure with
     | true=>rw[hp] at h;cases h;rfl
     | false=>rw[hp] at h;cases h;rfl
    cases hv with
    | aC hv=>cases hv
    | eD _ _ hm=>
     rw[len0 (fg _) hcs]
     exact .nil
    | aK _ _ _ _ b m0 cap hm hn hc=>
     obtain⟨us,h1,h2,h3,h4,_⟩:=cells hh off (m*sz) k b m0 cs hk hlp hm hcs
     exact .sl m cs b off cap us hn h1 h2 h3 h4
    | dO _ _ off0 b _ hm hpos=>
     rw[len0 (fg _) hcs]
     obtain⟨us,h1,h2,_⟩:=cells hh off (0*sz) k b _ cs hk hlp hm hcs
     exact .sl 0 [] b off0 0 us (aq _) h1 h2 (fun j hj=>by simp at hj) (fun j g hg=>by simp at hg)
  | loc hh off=>
   simp only[view] at h
   cases hk:az st hh with
   | none=>rw[hk] at h;cases h
   | some k=>
    rw[hk] at h
    dsimp only at h
    cases hlp:k.lp with
    | some lp=>rw[hlp] at h;cases h
    | none=>
    rw[hlp] at h
    dsimp only at h
    have tk:(k.cells.drop off).take (k.cells.length)=k.cells.drop off:=di (by rw[cK];omega)
    have key:∃cs,g'=.ptr cs∧(match k.pure with | true=>some ((k.cells.drop off).take k.cells.length) | false=>dS (view n st) ((k.cells.drop off).take k.cells.length))=some cs:=by
     rw[tk]
     cases hp:k.pure with
     | true=>rw[hp] at h;cases h;exact⟨_,rfl,rfl⟩
     | false=>
      rw[hp] at h
      dsimp only at h⊢
      cases hq:dS (view n st) (k.cells.drop off) with
      | none=>rw[hq] at h;cases h
      | some cs=>rw[hq] at h;cases h;exact⟨_,rfl,rfl⟩
    obtain⟨cs,rfl,hcs⟩:=key
    cases hv with
    | aC hv=>cases hv
    | loc _ _ b m0 hm=>
     obtain⟨us,h1,h2,h3,h4,_⟩:=cells hh off _ k b m0 cs hk hlp hm hcs
     exact .ptr cs b off us h1 h2 h3 h4
  | agg gs=>
   simp only[view] at h
   cases hq:dS (view n st) gs with
   | none=>rw[hq] at h;cases h
   | some gs'=>
    rw[hq] at h
    cases h
    obtain⟨h1,h2⟩:=pY hq
    have key:∃us:List Value,v=.agg us.toArray∧us.length=gs.length∧∀(j:Nat) (g:G) (v:Value),gs[j]?=some g→us[j]?=some v→aM O base w μ g v:=by
     cases hv with
     | aC hv=>cases hv with
      | agg _ us hl hr=>exact⟨us,rfl,hl,fun j g v h1 h2=>.aC (hr j g v h1 h2)⟩
     | agg _ us hl hr=>exact⟨us,rfl,hl,hr⟩
    obtain⟨us,rfl,hl,hr⟩:=key
    refine .agg gs' us (by omega) fun j g v hg hv=>?_
    obtain⟨g0,h3,h4⟩:=h2 j g hg
    exact xn hblk hout hXO n (hr j g0 v h3 hv) h4
  | ks hh i sz m=>
   simp only[view] at h
   cases hb0:Nat.beq m 0&&Nat.beq i ER with
   | true=>
    rw[hb0] at h
    cases h
    simp only[ag] at hb0
    have hm0:=af hb0.1
    have hi0:=af hb0.2
    subst hm0
    cases hv with
    | aC hv=>cases hv
    | ko _ _ _ x cap hi=>obtain⟨rfl,rfl⟩:=hi hi0;exact .nil
    | ks _ _ _ _ b m' c k cap hm hk hn hc=>exact .ib _ _
   | false=>
   rw[hb0,cond_false] at h
   cases hk:az st hh with
   | none=>rw[hk] at h;cases h
   | some k=>
    rw[hk] at h
    dsimp only at h
    split at h
    ·rename_i d hl
     split at h
     ·rename_i gs hrow
      cases hlen:Nat.beq gs.length (m*sz) with
      | false=>rw[hlen] at h;cases h
      | true=>
       rw[hlen] at h
       cases h
       have hl0:=af hlen
       cases hmu:μ hh with
       | none=>
        cases hv with
        | aC hv=>cases hv
        | ko _ _ _ x cap hi=>exact absurd (aT (by rw[hl0,fg])) (d.Hn hrow)
        | ks _ _ _ _ b m' c kk cap hm=>rw[hmu] at hm;cases hm
       | some bm=>
        obtain⟨b,mm⟩:=bm
        have hb:=hblk hh k hk
        rw[hmu] at hb
        have hφ:=((aS.deep hl).1 hb).1
        obtain⟨c,kk,cs,bw,h1,h2,h3⟩:=d.K6 hφ hrow
        have hXi:∀{g v},bB (bif k.fresh then hJ O base else O) w g v→bB X w g v:=fun {g v} h=>by
         cases hkf:k.fresh with
         | false=>rw[hkf] at h;exact hX h
         | true=>rw[hkf] at h;exact hX h.wO
        have hsl:∀cap,m≤cap→bB X w (.sl m gs) (.slice (some ⟨c,0,none⟩) m cap):=fun cap hcap=>
         .sl m gs c 0 cap (fun j=>cs.getD j undef) hcap (hout hh k b mm c hk hmu (.inr ⟨kk,aL h1⟩)) (lt_of_heap h2) (fun j hj=>by
          obtain⟨v,hv,_⟩:=h3 j _ (av hj)
          rw[cell_of h2,cr,hv]
          simp[hv]) fun j g hg=>by
          obtain⟨v,hv,hrv⟩:=h3 j g hg
          have:=hXi hrv
          simpa[hv] using this
        cases hv with
        | aC hv=>cases hv
        | ko _ _ _ x cap hi=>exact absurd (aT (by rw[hl0,fg])) (d.Hn hrow)
        | ks _ _ _ _ b' m' c' kk' cap hm hk' hn hc=>
         rw[hmu] at hm
         cases hm
         rw[h1] at hk'
         cases hk'
         exact hsl cap hn
     ·cases h
    ·cases h
  | _=>cases h
theorem EZ {st:List (Nat×ao)}{μ:Mu}{w:World}(hst:bP cx μ st w) (n:Nat){g g':G}{v:Value}(hv:aM (cx.O st μ) cx.base w μ g v) (h:view n st g=some g'):bB cx.X w g' v:=
 xn hst.dB (fun h k b m x h1 h2 h3=>(hst.bY h k b m x h1 h2 h3).1) (fun _ h=>.inl h) n hv h
def kT:G→Bool
 | .val _=>true
 | .cH _=>true
 | .fr _=>true
 | .agg gs=>go gs
 | .aU gs=>go gs
 | _=>false
where go:List G→Bool
 | []=>true
 | g::r=>kT g&&go r
theorem zE {gs:List G}(h:kT.go gs=true):∀(j:Nat) (g:G),gs[j]?=some g→kT g=true:=by
 induction gs with
 | nil=>intro j g hg;simp at hg
 | cons x r ih=>
  simp only[kT.go,ag] at h
  intro j g hg
  cases j with
  | zero=>cases hg;exact h.1
  | succ j=>exact ih h.2 j g hg
end
end Go.AM
/-
 AM,part M:calls of functions by their contracts.
-/
namespace Go.AM
def sK (n:Nat) (st:List (Nat×ao)):G→Option G
 | .aP f caps=>match dS (view n st) caps with
  | some c=>some (.aP f c)
  | none=>none
 | g=>view n st g
def tc (s:St):List Operand→Option (List G)
 | []=>some []
 | x::r=>match ev s x,tc s r with
  | some g,some gs=>some (g::gs)
  | _,_=>none
section
variable {P:Program}{N:Nat}{cx:Cx}{s:St}
theorem lL:∀{xs:List Operand}{gs:List G},tc s xs=some gs→gs.length=xs.length∧∀(j:Nat) (g:G),gs[j]?=some g→∃x,xs[j]?=some x∧ev s x=some g
 | [],_,h=>by cases h;exact⟨rfl,fun j g h=>by simp at h⟩
 | x::r,gs,h=>by
  simp only[tc] at h
  cases h1:ev s x with
  | none=>rw[h1] at h;cases h
  | some g1=>
   rw[h1] at h
   cases h2:tc s r with
   | none=>rw[h2] at h;cases h
   | some r1=>
    rw[h2] at h
    cases h
    obtain⟨h3,h4⟩:=lL h2
    refine⟨by simp[h3],fun j g' hg'=>?_⟩
    cases j with
    | zero=>cases hg';exact⟨x,rfl,h1⟩
    | succ j=>exact h4 j g' hg'
theorem KQ {O:Nat→Prop}{base:Nat}{st:List (Nat×ao)}{μ μ':Mu}{w:World}(hst:bP cx μ st w) (n:Nat){g g':G}{v:Value}(hv:aM (cx.O st μ) cx.base w μ g v) (h:sK n st g=some g')
  (hO:∀b,b<w.heap.size→¬cx.X b→¬O b):aM O base w μ' g' v:=by
 have up:∀{g v},bB cx.X w g v→aM O base w μ' g v:=fun h=>.aC (h.mono (Kept.refl _ _) hO)
 cases g with
 | aP f caps=>
  simp only[sK] at h
  cases hq:dS (view n st) caps with
  | none=>rw[hq] at h;cases h
  | some c=>
   rw[hq] at h
   cases h
   obtain⟨h1,h2⟩:=pY hq
   cases hv with
   | aC hv=>cases hv
   | aP _ _ us hl hr=>
    refine .aP f c us (by omega) fun j g v hg hv=>?_
    obtain⟨g0,h3,h4⟩:=h2 j g hg
    exact up (EZ hst n (hr j g0 v h3 hv) h4)
 | _=>exact up (EZ hst n hv h)
theorem bP.kept {μ:Mu}{st:List (Nat×ao)}{w w':World}(h:bP cx μ st w) (hsz:w.heap.size≤w'.heap.size) (hb:∀b,b<w.heap.size→w'.heap[b]?=w.heap[b]?) (hos:w'.os=w.os) (htape:w'.tape=w.tape) (hout:w'.output=w.output):bP cx μ st w':=by
 have hk:∀O,Kept O w w':=fun O=>⟨hsz,fun b h _=>hb b h⟩
 refine {dB:=?_,cR:=h.cR,bY:=fun x k b m y h1 h2 h3=>let ⟨a1,a2,a3,a4⟩:=h.bY x k b m y h1 h2 h3;⟨a1,a2,bW a3 hsz,a4⟩,ew:=h.ew,ed:=h.ed,hb:=cm h.hb hsz,os:=hos.trans h.os,tape:=htape.trans h.tape,output:=hout.trans h.output,gl:=h.gl,cW:=fun b h1 h2=>?_}
 ·intro x k hx
  exact(h.dB x k hx).mono (fun b m hm y hy=>hb y (h.bY x k b m y hx hm hy).2.2.1) (hk _) (fun _ _ h=>h)
 ·rw[hb b (by have:=h.hb;omega)];exact h.cW b h1 h2
theorem Rel.kept {μ:Mu}{a:Act}{w w':World}(h:Rel N cx μ s a w) (hsz:w.heap.size≤w'.heap.size) (hb:∀b,b<w.heap.size→w'.heap[b]?=w.heap[b]?) (hos:w'.os=w.os) (htape:w'.tape=w.tape) (hout:w'.output=w.output):Rel N cx μ s a w':=
 {st:=h.st.kept hsz hb hos htape hout,nd:=h.nd.mono ⟨hsz,fun b h _=>hb b h⟩ (fun _ _ h=>h),sz:=h.sz,fr:=fun t g hg=>let ⟨v,hv,hr⟩:=h.fr t g hg;⟨v,hv,hr.mono ⟨hsz,fun b h _=>hb b h⟩ (fun _ _ h=>h) (aq _)⟩}
theorem pC {μ:Mu}{st:List (Nat×ao)}{w:World}(h:bP cx μ st w){b:Nat}(ho:Own st μ b):b<w.heap.size:=by
 obtain⟨x,k,c,m,h1,h2,h3⟩:=ho
 exact(h.bY x k c m b h1 h2 h3).2.2.1
theorem nU {μ:Mu}{b:Nat}:¬Own [] μ b:=fun ⟨_,_,_,_,h,_⟩=>by cases h
theorem zk {X:Nat→Prop}{μ:Mu}{w:World}(hX:∀b,X b→b<w.heap.size) (hgl:EY (Own [] μ) w.heap.size w):bP (dw X [] μ w) μ [] w:=
 {dB:=fun _ _ h=>(by cases h),cR:=fun _ _ _ _ _ _ _ _ _ h=>(by cases h),bY:=fun _ _ _ _ _ h=>(by cases h),ew:=fun _ _ h=>(by cases h),ed:=hX,hb:=aq _,os:=rfl,tape:=rfl,output:=rfl,gl:=hgl,cW:=fun _ _ _=>rfl}
variable {ty:TypeId}{pos:String}{after:Array Edge}{guard:Option (Nat×Bool)}{W:List Nat}{d:Nat}
theorem FJ {f:FuncId}{vs:List Value}{gs gs':List G}{Q:G→List (Nat×ao)→Prop}(n:Nat){μ:Mu}{a:Act}{w:World}(hr:Rel N cx μ s a w) (hv:dS (sK n s.st) gs=some gs')
  (hvs:vs.length=gs.length) (hrep:∀(j:Nat) (g:G) (v:Value),gs[j]?=some g→vs[j]?=some v→aM (cx.O s.st μ) cx.base w μ g v)
  (hcon:GM P f gs' [] Q) (hres:∀r st',Q r st'→kT r=true):
  Calls P f vs.toArray w fun e w'=>∃v r st',e=.returned v∧Q r st'∧Rel N cx μ s a w'∧aM (cx.O s.st μ) cx.base w' μ r v∧Step W s.st μ s.st μ w w':=by
 obtain⟨h1,h2⟩:=pY hv
 have hX:∀b,cx.X b→b<w.heap.size:=fun b hb=>by have:=hr.st.ed b hb;have:=hr.st.hb;omega
 refine(hcon.returned cx.X (fun _=>none) w vs hX (zk hX (hr.st.Rs fun _ h=>(nU h).elim)) (by omega) fun j g v hg hv=>?_).mono ?_
 ·obtain⟨g0,h3,h4⟩:=h2 j g hg
  exact KQ hr.st n (hrep j g0 v h3 hv) h4 fun b _ hn ho=>ho.elim hn nU
 ·rintro e w' ⟨v,r,st',μ',rfl,hq,hst,hrv⟩
  have hkeep:∀b,b<w.heap.size→w'.heap[b]?=w.heap[b]?:=fun b hb=>hst.cW b hb nU
  refine⟨v,r,st',rfl,hq,hr.kept hst.hb hkeep hst.os hst.tape hst.output,?_,⟨hst.hb,fun b hb _=>hkeep b hb,fun h k c m b hw h1 h2 hi=>.inl ⟨h,k,c,m,hw,h1,h2,hi⟩⟩⟩
  have hf:=hres r st' hq
  have hb:=hr.st.hb
  have hxl:=hr.st.ed
  have hol:∀b,Own s.st μ b→b<w.heap.size:=fun b ho=>pC hr.st ho
  generalize hO:(dw cx.X [] (fun _=>none) w).O st' μ'=O at hrv
  have aC:∀{g:G}{v:Value},bB O w' g v→kT g=true→aM (cx.O s.st μ) cx.base w' μ g v:=by
   intro g v h
   induction h with
   | any v=>intro hf;cases hf
   | val v=>intro _;exact .aC (.val v)
   | cH b v h=>intro _;exact .aC (.cH b v h)
   | nil=>intro hf;cases hf
   | ib _ _=>intro hf;cases hf
   | sl _ _ _ _ _ _ _ _ _ _ _=>intro hf;cases hf
   | ptr _ _ _ _ _ _ _ _=>intro hf;cases hf
   | agg cells us hl hr ih=>intro hf;exact .agg cells us hl fun j g v hg hv=>ih j g v hg hv (zE hf j g hg)
  clear hq
  induction hrv with
  | aC h=>exact aC h hf
  | fr h=>
   refine .fr (h.mono (Kept.refl _ _) ?_)
   rintro b hb1 hn (ho | ho | ho)
   ·exact hn (.inl (by show b<w.heap.size;omega))
   ·exact hn (.inl (by have:=hxl b ho;show b<w.heap.size;omega))
   ·exact hn (.inl (hol b ho))
  | agg cells us hl hr ih=>exact .agg cells us hl fun j g v hg hv=>ih j g v hg hv (zE hf j g hg)
  | aU cells us hl hr ih=>exact .aU cells us hl fun j g v hg hv=>ih j g v hg hv (zE hf j g hg)
  | _=>cases hf
theorem EF.call {f:FuncId}{xs:Array Operand}{ts:Array TypeId}{gs gs':List G}{Q:G→List (Nat×ao)→Prop}(n:Nat) (hc:∀args w,(callFunc f args).run P w=.ok (.enter f args) w)
  (hx:tc s xs.toList=some gs) (hv:dS (sK n s.st) gs=some gs') (hcon:GM P f gs' [] Q) (hres:∀r st',Q r st'→kT r=true):
  bJ P W s ⟨some d,.call ⟨.value (.func f),xs,ts⟩,ty,pos,after,guard⟩ (fun s'=>∃r st',Q r st'∧s'=s.put d r):=by
 refine⟨(fun _ h=>by cases h),?_⟩
 intro N cx μ a w hr hN K Q' hK
 obtain⟨h1,h2⟩:=lL hx
 have hcall:=FJ (vs:=xs.toList.map a.eval) (W:=W) n hr hv (by simp[h1]) (fun j g v hg hv=>by
  obtain⟨x,hxj,he⟩:=h2 j g hg
  rw[ar,hxj] at hv
  cases hv
  exact hr.ev he) hcon hres
 unfold Oper.wp
 have:(execOp a.eval ⟨some d,.call ⟨.value (.func f),xs,ts⟩,ty,pos,after,guard⟩).run P w=.ok (.enter f (xs.toList.map a.eval).toArray) w:=by
  have e:xs.map a.eval=(xs.toList.map a.eval).toArray:=by rw[←fD]
  simp[execOp,resolve,invoke,Deferred.ofValue,Act.eval,hc,e]
 rw[this]
 refine hcall.mono ?_
 rintro e w' ⟨v,r,st',rfl,hq,hr',hrv,hst⟩
 exact hK μ _ _ w' (hr'.put (hN d rfl) hrv) ⟨r,st',hq,rfl⟩ hst
theorem sX {P:Program}{a:Act}{w:World}{d:Nat}{ty:TypeId}{pos:String}{after:Array Edge}{guard:Option (Nat×Bool)}{f:FuncId}{x:Operand}{xs:Array Operand}{ts:Array TypeId}{us:List Value}(hb:ry f xs.toList=true) (hc:∀args w,(callFunc f args).run P w=.ok (.enter f args) w)
  (hav:a.eval x=pp f us):(execOp a.eval ⟨some d,.call ⟨.value x,xs,ts⟩,ty,pos,after,guard⟩).run P w=.ok (.enter f (xs.toList.map a.eval++us).toArray) w:=by
 obtain⟨A,B,e1,e2,e3,e4⟩:=AI f us
 rw[e1] at hav
 have e:A++xs.map a.eval++B=(xs.toList.map a.eval++us).toArray:=by
  cases hb':qd.contains f with
  | false=>
   rw[e3 hb',Array.empty_append] at e2⊢
   rw[e2,←List.append_toArray,←fD]
  | true=>
   have hx:xs=#[]:=by
    cases xs with
    | mk l=>cases l with
     | nil=>rfl
     | cons y r=>simp[ry] at hb;exact absurd hb' (by simp[hb])
   subst hx
   rw[e4 hb'] at e2⊢
   simpa using e2
 simp[execOp,resolve,invoke,Deferred.ofValue,hav,hc,e]
theorem EF.U6 {f:FuncId}{x:Operand}{xs:Array Operand}{ts:Array TypeId}{gs caps gs':List G}{Q:G→List (Nat×ao)→Prop}(n:Nat) (hb:ry f xs.toList=true) (hc:∀args w,(callFunc f args).run P w=.ok (.enter f args) w)
  (hf:ev s x=some (.aP f caps)) (hx:tc s xs.toList=some gs) (hv:dS (sK n s.st) (gs++caps)=some gs') (hcon:GM P f gs' [] Q) (hres:∀r st',Q r st'→kT r=true):
  bJ P W s ⟨some d,.call ⟨.value x,xs,ts⟩,ty,pos,after,guard⟩ (fun s'=>∃r st',Q r st'∧s'=s.put d r):=by
 refine⟨(fun _ h=>by cases h),?_⟩
 intro N cx μ a w hr hN K Q' hK
 obtain⟨h1,h2⟩:=lL hx
 have hcl:=hr.ev hf
 generalize hav:a.eval x=vf at hcl
 cases hcl with
 | aC h=>cases h
 | aP _ _ us hl hrc=>
  have hcall:=FJ (vs:=xs.toList.map a.eval++us) (W:=W) n hr hv (by simp[h1,hl]) (fun j g v hg hv=>by
   rw[ba] at hg hv
   rw[aN,←h1] at hv
   split at hg
   ·rename_i hj
    rw[if_pos hj] at hv
    obtain⟨x,hxj,he⟩:=h2 j g hg
    rw[ar,hxj] at hv
    cases hv
    exact hr.ev he
   ·rename_i hj
    rw[if_neg hj] at hv
    exact hrc _ g v hg hv) hcon hres
  unfold Oper.wp
  have:=sX (P:=P) (w:=w) (d:=d) (ty:=ty) (pos:=pos) (after:=after) (guard:=guard) (ts:=ts) hb hc hav
  rw[this]
  refine hcall.mono ?_
  rintro e w' ⟨v,r,st',rfl,hq,hr',hrv,hst⟩
  exact hK μ _ _ w' (hr'.put (hN d rfl) hrv) ⟨r,st',hq,rfl⟩ hst
end
end Go.AM
/-
 AM,part N:the steps in the form in which a walk takes them;encodings.
-/
namespace Go.AM
section
variable {P:Program}{N:Nat}{cx:Cx}{Q:Exit→St→Prop}{s:St}{ops:Array Oper}{rest:List Oper}
variable {d:Nat}{op:Op}{ty:TypeId}{pos:String}{after:Array Edge}{guard:Option (Nat×Bool)}
theorem GL.py {g:G}(hy:PY P s ⟨some d,op,ty,pos,after,guard⟩ g) (hw:cT ops s guard=some true) (hN:Nat.blt d N=true) (h:GL P N cx ops Q rest (s.put d g)):
  GL P N cx ops Q (⟨some d,op,ty,pos,after,guard⟩::rest) s:=GL.yield hw rfl (by simpa[fh] using hN) (hy.yield []) h
theorem GL.y {g:G}(hy:eQ P [] s ⟨some d,op,ty,pos,after,guard⟩ g) (hw:cT ops s guard=some true) (hN:Nat.blt d N=true) (h:GL P N cx ops Q rest (s.put d g)):
  GL P N cx ops Q (⟨some d,op,ty,pos,after,guard⟩::rest) s:=GL.yield hw rfl (by simpa[fh] using hN) hy h
theorem GL.e {W:List Nat}{T:St→Prop}(he:bJ P W s ⟨some d,op,ty,pos,after,guard⟩ T) (hw:cT ops s guard=some true) (hN:Nat.blt d N=true) (h:∀s',T s'→GL P N cx ops Q rest s'):
  GL P N cx ops Q (⟨some d,op,ty,pos,after,guard⟩::rest) s:=GL.effect hw (fun d' e=>by cases e;simpa[fh] using hN) he h
theorem GL.e1 {W:List Nat}{s1:St}(he:bJ P W s ⟨some d,op,ty,pos,after,guard⟩ (·=s1)) (hw:cT ops s guard=some true) (hN:Nat.blt d N=true) (h:GL P N cx ops Q rest s1):
  GL P N cx ops Q (⟨some d,op,ty,pos,after,guard⟩::rest) s:=GL.e he hw hN fun _ e=>e▸h
theorem GL.e0 {W:List Nat}{s1:St}(he:bJ P W s ⟨none,op,ty,pos,after,guard⟩ (·=s1)) (hw:cT ops s guard=some true) (h:GL P N cx ops Q rest s1):
  GL P N cx ops Q (⟨none,op,ty,pos,after,guard⟩::rest) s:=GL.effect hw (fun d' e=>by cases e) he fun _ e=>e▸h
theorem GL.no (hw:cT ops s guard=some false) (h:GL P N cx ops Q rest {s with fr:=del s.fr d}):
  GL P N cx ops Q (⟨some d,op,ty,pos,after,guard⟩::rest) s:=GL.pass hw h
end
def ints (l:List Int):List G:=l.map fun n=>.val (.int .i64 n)
@[simp] theorem UF (l:List Int):(ints l).length=l.length:=by simp[ints]
end Go.AM
/-
 AM,part O:data as Lean data:encodings;loops and joins as partial functions.
-/
namespace Go.AM
inductive Ex (β γ:Type) where
 | cD (b:β)
 | ret (r:γ)
def bx {β γ ο:Type}(inj:γ→ο) (m:Option (Ex β γ)) (k:β→Option ο):Option ο:=
 match m with
 | some (.cD b)=>k b
 | some (.ret r)=>some (inj r)
 | none=>none
def aX {σ ρ:Type}(body:σ→Option (σ⊕ρ)):Nat→σ→Option ρ
 | 0,_=>none
 | n+1,x=>match body x with
  | some (.inl x')=>aX body n x'
  | some (.inr r)=>some r
  | none=>none
def idx {α:Type}(l:List α) (i:Int):Option α:=if 0≤i then l[i.toNat]? else none
def lF (l:ByteArray) (i:Int):Option UInt8:=if 0≤i then l[i.toNat]? else none
theorem OJ {l:ByteArray}{i:Int}{x:UInt8}(h:lF l i=some x):0≤i∧l[i.toNat]?=some x:=by
 unfold lF at h
 split at h
 ·rename_i h0;exact⟨h0,h⟩
 ·cases h
def dA (p:Prop) [Decidable p]:Option Unit:=if p then some () else none
theorem uP {α:Type}{l:List α}{i:Int}{x:α}(h:idx l i=some x):0≤i∧i<(l.length:Int)∧l[i.toNat]?=some x:=by
 unfold idx at h
 split at h
 ·rename_i h0
  have:=(aw.1 h).1
  exact⟨h0,by omega,h⟩
 ·cases h
theorem cS {p:Prop}[Decidable p]{u:Unit}(h:dA p=some u):p:=by
 unfold dA at h
 split at h
 ·assumption
 ·cases h
theorem bind_some {α β:Type}{m:Option α}{k:α→Option β}{r:β}(h:m.bind k=some r):∃x,m=some x∧k x=some r:=Option.bind_eq_some_iff.1 h
theorem DS {β γ ο:Type}{inj:γ→ο}{m:Option (Ex β γ)}{k:β→Option ο}{r:ο}(h:bx inj m k=some r):∃e,m=some e∧(∀b,e=.cD b→k b=some r)∧(∀r',e=.ret r'→inj r'=r):=by
 unfold bx at h
 split at h
 ·exact⟨_,rfl,fun b e=>(by cases e;exact h),fun r' e=>(by cases e)⟩
 ·exact⟨_,rfl,fun b e=>(by cases e),fun r' e=>(by cases e;cases h;rfl)⟩
 ·cases h
section
variable {P:Program}{N:Nat}{cx:Cx}{Q:Exit→St→Prop}
def QB {β:Type}(ke:Exit) (E:β→St) (b:β) (ex:Exit) (s:St):Prop:=ex=ke∧Sub s (E b)
def QL {σ ρ:Type}(E:σ→St) (R:ρ→Exit→St→Prop):σ⊕ρ→Exit→St→Prop
 | .inl x,ex,s=>ex=.normal∧Sub s (E x)
 | .inr r,ex,s=>ex≠.normal∧R r ex s
theorem GW.aX {σ ρ:Type}{c:Code}(E:σ→St) (R:ρ→Exit→St→Prop){body:σ→Option (σ⊕ρ)}{n:Nat}{x0:σ}{e:ρ}(hl:AM.aX body n x0=some e)
  (hr:∀x o,body x=some o→GW P N cx c (QL E R o) (E x)) (hq:∀ex s,ex≠.normal→R e ex s→Q ex s):GW P N cx (.loop c) Q (E x0):=by
 let Step:Nat→σ→Prop:=fun k x=>AM.aX body k x=some e
 refine(GW.loop (P:=P) (N:=N) (cx:=cx) (Q:=Q) (σ:=Nat×σ) (fun x=>E x.2) (fun x=>Step x.1 x.2) (fun x=>x.1) (n,x0) hl ?_)
 rintro⟨k,x⟩ hI
 cases k with
 | zero=>exact absurd hI (by simp[Step,AM.aX])
 | succ k=>
  simp only[Step,AM.aX] at hI
  cases hb:body x with
  | none=>rw[hb] at hI;cases hI
  | some o=>
   rw[hb] at hI
   refine(hr x o hb).mono fun ex s hx=>?_
   cases o with
   | inl x'=>
    obtain⟨rfl,hs⟩:=hx
    exact⟨(k,x'),hI,Nat.lt_succ_self k,hs⟩
   | inr r=>
    cases hI
    obtain⟨h1,h2⟩:=hx
    have:=hq ex s h1 h2
    cases ex <;> first | exact absurd rfl h1 | exact this
theorem QB.mk {β:Type}{ke:Exit}{E:β→St}{b:β}{s:St}(h:Sub s (E b)):QB ke E b ke s:=⟨rfl,h⟩
theorem QL.NG {σ ρ:Type}{E:σ→St}{R:ρ→Exit→St→Prop}{x:σ}{s:St}(h:Sub s (E x)):QL E R (.inl x) .normal s:=⟨rfl,h⟩
theorem sJ.mk {fn:Func}{Qf:G→List (Nat×ao)→Prop}{s:St}{e:Exit}(he:e=.ret∨e=.normal) (gs:List G) (r:G) (st':List (Nat×ao)) (h1:vb P s fn.results.toList gs) (h2:j9 s.st st') (h3:iI s.st st' (pack gs)=some r) (h4:Qf r st') (hdf:s.df=[]:=by rfl):sJ P fn Qf e s:=
 ⟨he,hdf,gs,r,st',h1,h2,h3,h4⟩
theorem GW.join {x y:Code}{s:St}{o:Exit→St→Prop}(h1:GW P N cx x o s) (h2:∀ex s',o ex s'→MC (GW P N cx y Q) Q ex s'):GW P N cx (.seq x y) Q s:=
 GW.seq (h1.mono h2)
end
def pF (n:Int):Prop:=-9223372036854775808≤n∧n≤9223372036854775807
def Vn (s:ByteArray):Prop:=s.size≤9223372036854775807
class aR (α:Type) where
 sz:Nat
 cells:α→List G
 len:∀a,(cells a).length=sz
 pos:0<sz
 one:∀a g,g∈cells a→g.one=true
def db {α:Type}[aR α] (l:List α):List G:=l.flatMap aR.cells
instance:aR Int:=⟨1,fun n=>[.val (.int .i64 n)],fun _=>rfl,by decide,fun a g h=>by simp at h;subst h;rfl⟩
instance:aR Bool:=⟨1,fun n=>[.val (.bool n)],fun _=>rfl,by decide,fun a g h=>by simp at h;subst h;rfl⟩
instance:aR ByteArray:=⟨1,fun n=>[.val (.string n)],fun _=>rfl,by decide,fun a g h=>by simp at h;subst h;rfl⟩
instance {α:Type}[aR α]:aR (List α):=⟨1,fun l=>[.sl l.length (db l)],fun _=>rfl,by decide,fun a g h=>by simp at h;subst h;rfl⟩
section
variable {α:Type}[aR α]
theorem gv (l:List α):(db l).length=l.length*aR.sz α:=by
 unfold db
 induction l with
 | nil=>simp
 | cons x r ih=>rw[cj,ak,ih,aR.len,aZ,eI];omega
theorem Qo (l:List α):∀g,g∈db l→g.one=true:=by
 intro g hg
 obtain⟨a,_,h⟩:=oU.1 hg
 exact aR.one a g h
theorem sC {l:List α}{i:Nat}{x:α}(h:l[i]?=some x){j:Nat}(hj:j<aR.sz α):(db l)[i*aR.sz α+j]?=(aR.cells x)[j]?:=by
 unfold db
 rw[sO aR.cells (aR.sz α) aR.pos l (fun a _=>aR.len a)]
 have h1:(i*aR.sz α+j)/aR.sz α=i:=by
  rw[qG,Nat.mul_add_div aR.pos,Nat.div_eq_of_lt hj];rfl
 have h2:(i*aR.sz α+j)%aR.sz α=j:=by
  rw[qG,Nat.mul_add_mod,Nat.mod_eq_of_lt hj]
 rw[h1,h2,h]
 rfl
theorem F4 {l:List α}{i:Nat}{x:α}(h:l[i]?=some x){j:Nat}(hj:j<aR.sz α):((db l).drop (i*aR.sz α))[j]?=(aR.cells x)[j]?:=by
 rw[a8];exact sC h hj
theorem A5 (l m:List α):db (l++m)=db l++db m:=by simp[db]
theorem Om (x:α) (l:List α):db (x::l)=aR.cells x++db l:=rfl
theorem zJ (l:List α) (n:Nat):(db l).take (n*aR.sz α)=db (l.take n):=by
 unfold db
 induction l generalizing n with
 | nil=>simp
 | cons x r ih=>
  cases n with
  | zero=>simp
  | succ n=>
   rw[List.take_succ_cons,cj,cj,List.take_append,aR.len,←ih n]
   have h1:(n+1)*aR.sz α-aR.sz α=n*aR.sz α:=by rw[eI];omega
   rw[h1,di (by rw[aR.len,eI];omega)]
theorem zK (l:List α) (n:Nat):(db l).drop (n*aR.sz α)=db (l.drop n):=by
 unfold db
 induction l generalizing n with
 | nil=>simp
 | cons x r ih=>
  cases n with
  | zero=>simp
  | succ n=>
   rw[List.drop_succ_cons,cj,List.drop_append,aR.len,←ih n]
   have h1:(n+1)*aR.sz α-aR.sz α=n*aR.sz α:=by rw[eI];omega
   rw[h1,List.drop_of_length_le (by rw[aR.len,eI];omega),cX]
theorem Qn {l:List α}{i:Nat}{x:α}{g:G}(hx:aR.cells x=[g]) (h1:aR.sz α=1):(db l).set (0+i*1) g=db (l.set i x):=by
 rw[cr,kc]
 unfold db
 induction l generalizing i with
 | nil=>rfl
 | cons y r ih=>
  obtain⟨z,hz⟩:=List.length_eq_one_iff.1 ((aR.len y).trans h1)
  cases i with
  | zero=>simp[hz,hx]
  | succ i=>simp only[List.set_cons_succ,cj,hz,bd,cX,ih]
end
end Go.AM
/-
 AM,part P:the steps over encoded data.
-/
namespace Go.AM
section
variable {α:Type}[aR α]
variable {P:Program}{N:Nat}{cx:Cx}{s:St}{W:List Nat}
variable {dst:Option Tmp}{ty:TypeId}{pos:String}{after:Array Edge}{guard:Option (Nat×Bool)}
theorem KG {l:List α}{i:Int}{x:α}(h:idx l i=some x){j:Nat}{g:G}(hg:(aR.cells x)[j]?=some g):(db l)[i.toNat*aR.sz α+j]?=some g:=by
 have hj:j<aR.sz α:=by have:=(aw.1 hg).1;rw[aR.len] at this;exact this
 rw[sC (uP h).2.2 hj];exact hg
theorem YT.gY {l:List α}{i:Int}{x:α}{t:TypeId}{xo:Operand}{g:G}(hx:ev s xo=some (.ptr ((db l).drop (i.toNat*aR.sz α)))) (h:idx l i=some x) (hg:(aR.cells x)[0]?=some g) (hag:∀w,(isAgg t).run P w=.ok false w):
  eQ P W s ⟨dst,.load t xo,ty,pos,after,guard⟩ g:=YL.ptr hx (by rw[a8];exact KG h hg) hag
theorem BW {l:List α}{i:Int}{x:α}(h:idx l i=some x):((db l).drop (i.toNat*aR.sz α)).take (aR.sz α)=aR.cells x:=by
 apply lQ
 intro j
 rw[aV]
 split
 ·rename_i hj
  exact F4 (uP h).2.2 hj
 ·rename_i hj
  rw[ly]
  rw[aR.len];omega
theorem YT.agg {l:List α}{i:Int}{x:α}{t:TypeId}{xo:Operand}(hx:ev s xo=some (.ptr ((db l).drop (i.toNat*aR.sz α)))) (h:idx l i=some x) (hag:∀w,(isAgg t).run P w=.ok true w)
  (hsz:∀w,(sizeOf t).run P w=.ok (aR.sz α) w):eQ P W s ⟨dst,.load t xo,ty,pos,after,guard⟩ (.agg (aR.cells x)):=by
 have:=YL.Nn (P:=P) (W:=W) (dst:=dst) (ty:=ty) (pos:=pos) (after:=after) (guard:=guard) hx (sz:=aR.sz α) (by
  rw[cK,gv]
  have h1:=(aw.1 (uP h).2.2).1
  have:(i.toNat+1)*aR.sz α≤l.length*aR.sz α:=ca _ h1
  rw[eI] at this
  omega) hag hsz
 rw[BW h] at this
 exact this
theorem YT.own {l:List α}{i:Int}{x:α}{t h:Nat}{k:ao}{xo:Operand}{g g':G}(hx:ev s xo=some (.loc h (0+i.toNat*aR.sz α))) (hk:az s.st h=some k) (hc:k.cells=db l) (hi:idx l i=some x) (hg:(aR.cells x)[0]?=some g)
  (hag:∀w,(isAgg t).run P w=.ok false w) (hW:W.contains h=false) (hout:k.out g=g') (hlp:k.lp=none:=by rfl):eQ P W s ⟨dst,.load t xo,ty,pos,after,guard⟩ g':=
 YL.load hx hk (by rw[hc,cr];exact KG hi hg) hag hW hout hlp
variable {d:Nat}
theorem ET.set {l:List α}{i:Int}{x:α}{t h:Nat}{k:ao}{xo yo:Operand}{g g':G}{f:Bool}(hx:ev s xo=some (.loc h (0+i.toNat*1))) (hy:ev s yo=some g) (hk:az s.st h=some k) (hc:k.cells=db l) (hp:k.pure=true)
  (hi:BQ g=some (g',f)) (hone:g.one=true) (he:aR.cells x=[g']) (h1:aR.sz α=1) (h0:0≤i) (hn:i<(l.length:Int)) (hsz:∀w,(sizeOf t).run P w=.ok 1 w) (hW:W.contains h=true) (hlp:k.lp=none:=by rfl):
  bJ P W s ⟨none,.store t xo yo,ty,pos,after,guard⟩ (·={fr:=s.fr,st:=cC s.st h {k with fresh:=k.fresh&&f,cells:=db (l.set i.toNat x)},df:=s.df}):=by
 have:=EF.Tq (P:=P) (W:=W) (ty:=ty) (pos:=pos) (after:=after) (guard:=guard) hx hy hk hp hi hone hsz (by rw[hc,gv,h1];omega) hW hlp
 rw[hc,Qn he h1] at this
 exact this
theorem ET.append {l m:List α}{t e:TypeId}{xo yo:Operand}{h bt:Nat}{k:ao}{gy:G}{f:Bool}{z:Value}(hx:ev s xo=some (.aK h (aR.sz α) 0 l.length)) (hy:ev s yo=some gy) (hk:az s.st h=some k) (hc:k.cells=db l)
  (hp:k.pure=true) (hety:k.bw=e) (hksz:k.sz=aR.sz α) (hsrc:wo s.st (aR.sz α) gy=some (db m,m.length,f)) (hap:gy.bO h=false) (ht:P.underlying t=some (.slice e))
  (hi:(P.info? e).map (fun i=>(i.zero,i.size,i.bytes))=some (some z,aR.sz α,bt)) (hzs:z.cells.size=aR.sz α) (tF:l.length+m.length≤maxLen) (hbound:(l.length+m.length)*bt≤140737488355328) (hW:W.contains h=true) (hlp:k.lp=none:=by rfl) (hpn:pinned h=false:=by rfl) (hdf:po h s.df=true:=by rfl):
  bJ P W s ⟨some d,.call ⟨.builtin .append,#[xo,yo],#[t,t]⟩,ty,pos,after,guard⟩
   (·={fr:=(d,.aK h (aR.sz α) 0 (l++m).length)::mM h s.fr,st:=(h,{k with fresh:=k.fresh&&f,cells:=db (l++m)})::ft h s.st,df:=s.df}):=by
 have:=EF.append (P:=P) (d:=d) (W:=W) (ty:=ty) (pos:=pos) (after:=after) (guard:=guard) hx hy hk hp hety hksz (by rw[hc,gv]) hsrc (by rw[gv]) (fun g hg=>Qo m g hg) hap ht hi hzs aR.pos tF hbound hW hlp hpn hdf
 rw[A5,ak,←hc]
 exact this
end
end Go.AM
/-
 AM,part Q:a slot whose value is known;two loads of which either may come up first.
-/
namespace Go.AM
section
variable {P:Program}{N:Nat}{cx:Cx}{Q:Exit→St→Prop}{s:St}{ops:Array Oper}{rest:List Oper}
theorem Rel.dup {μ:Mu}{a:Act}{w:World}{t:Nat}{g:G}(hr:Rel N cx μ s a w) (hg:get s.fr t=some g):Rel N cx μ {fr:=(t,g)::s.fr,st:=s.st,df:=s.df} a w:=
 {st:=hr.st,nd:=hr.nd,sz:=hr.sz,fr:=fun t' g' h=>by
   simp only[get] at h
   cases e:t.beq t' with
   | true=>
    rw[e,cond_true] at h
    cases h
    have e:=af e
    subst e
    exact hr.fr _ _ hg
   | false=>
    rw[e,cond_false] at h
    exact hr.fr _ _ h}
theorem GL.lit (t:Nat){b v:Bool}(hg:get s.fr t=some (.val (.bool b))) (hb:b=v) (h:GL P N cx ops Q rest {fr:=(t,.val (.bool v))::s.fr,st:=s.st,df:=s.df}):GL P N cx ops Q rest s:=fun μ a w hr=>by
 subst hb
 exact h μ a w (hr.dup hg)
theorem GW.lit {c:Code}(t:Nat){b v:Bool}(hg:get s.fr t=some (.val (.bool b))) (hb:b=v) (h:GW P N cx c Q {fr:=(t,.val (.bool v))::s.fr,st:=s.st,df:=s.df}):GW P N cx c Q s:=fun μ a w hr=>by
 subst hb
 exact h μ a w (hr.dup hg)
theorem nP.lit {W:List Nat}{aY:Nat}{listed:Array Bool}(t:Nat){b v:Bool}(hg:get s.fr t=some (.val (.bool b))) (hb:b=v) (h:nP P N cx ops Q W aY listed {fr:=(t,.val (.bool v))::s.fr,st:=s.st,df:=s.df}):nP P N cx ops Q W aY listed s:=fun μ a w hr=>by
 subst hb
 exact h μ a w (hr.dup hg)
theorem dI.lit {W:List Nat}{aY:Nat}{listed:Array Bool}(t:Nat){b v:Bool}(hg:get s.fr t=some (.val (.bool b))) (hb:b=v) (h:dI P N cx ops Q W aY listed {fr:=(t,.val (.bool v))::s.fr,st:=s.st,df:=s.df}):dI P N cx ops Q W aY listed s:=fun ws Wb μ a w hr=>by
 subst hb
 exact h ws Wb μ a w (hr.dup hg)
end
section
variable {α:Type}[aR α]
variable {P:Program}{N:Nat}{cx:Cx}{s:St}{W:List Nat}
variable {dst:Option Tmp}{ty:TypeId}{pos:String}{after:Array Edge}{guard:Option (Nat×Bool)}
end
end Go.AM
/-
 AM,part R:struct values put together;an empty slice written out;operations that were skipped.
-/
namespace Go.AM
section
variable {P:Program}{N:Nat}{cx:Cx}{Q:Exit→St→Prop}{s:St}{ops:Array Oper}{rest:List Oper}
theorem Rel.undef {μ:Mu}{a:Act}{w:World}{d:Nat}(h:Rel N cx μ s a w) (hN:d<N):Rel N cx μ (s.put d (.aU [])) (a.put (some d) Go.undef) w:=
 h.put hN (.aU [] [] rfl fun j g v hg=>by cases hg)
theorem GL.V0 {d:Nat}{op:Op}{ty:TypeId}{pos:String}{after:Array Edge}{guard:Option (Nat×Bool)}(hw:cT ops s guard=some false) (hN:Nat.blt d N=true) (h:GL P N cx ops Q rest (s.put d (.aU []))):
  GL P N cx ops Q (⟨some d,op,ty,pos,after,guard⟩::rest) s:=by
 intro μ a w hr
 unfold wpListIn
 rw[if_neg (by rw[dD hr hw];simp)]
 refine⟨fun _ _=>trivial,?_⟩
 exact h μ _ w (hr.undef (by simpa[fh] using hN))
theorem nP.Al {W:List Nat}{aY:Nat}{listed:Array Bool}(i:Nat){o:Oper}{d:Nat}(hp:DY Q (sE ops)) (hi:ops[i]?=some o) (hs:Region.noSelect ops=true) (hf:Region.free .any ops listed i=true)
  (hr:(Region.ready .any ops listed).contains i=true) (hw:cT ops s o.guard=some false) (hd:o.dst=some d) (hN:d<N)
  (h:nP P N cx ops Q W aY (listed.setIfInBounds i true) (s.put d (.aU []))):nP P N cx ops Q W (aY+1) listed s:=by
 intro μ a w hrel
 refine wpAnyH_take (v:=undef) hi hs hf hr (fun c a' w' h=>o7 hp (sw hi hd) (hd▸h)) (.inr ⟨dD hrel hw,rfl⟩) ⟨aq _,fun _ _ _=>rfl⟩ ?_
 rw[hd]
 exact h μ _ w (hrel.undef hN)
theorem dI.Al {W:List Nat}{aY:Nat}{listed:Array Bool}(i:Nat){o:Oper}{d:Nat}(hp:DY Q (sE ops)) (hi:ops[i]?=some o) (hs:Region.noSelect ops=true) (hf:Region.free .any ops listed i=true)
  (hr:(Region.ready .any ops listed).contains i=true) (hw:cT ops s o.guard=some false) (hd:o.dst=some d) (hN:d<N)
  (h:dI P N cx ops Q W aY (listed.setIfInBounds i true) (s.put d (.aU []))):dI P N cx ops Q W (aY+1) listed s:=by
 intro ws Wb μ a w hrel hS hW
 refine wpAnyH_take (v:=undef) hi hs hf hr (fun c a' w' h=>o7 hp (sw hi hd) (hd▸h)) (.inr ⟨dD hrel hw,rfl⟩) hS ?_
 rw[hd]
 exact h ws Wb μ _ w (hrel.undef hN) hS hW
end
section
variable {P:Program}{N:Nat}{cx:Cx}{s:St}{W:List Nat}{d:Nat}
variable {dst:Option Tmp}{ty:TypeId}{pos:String}{after:Array Edge}{guard:Option (Nat×Bool)}
theorem EF.Jq {t e:TypeId}{sz:Nat}{z:Value}{bt:Nat}(hd:Nat) (ht:P.underlying t=some (.slice e))
  (hi:(P.info? e).map (fun i=>(i.zero,i.size,i.bytes))=some (some z,sz,bt)) (hfr:fresh s hd=true):
  bJ P W s ⟨some d,.buildSlice t 0 #[],ty,pos,after,guard⟩ (·={fr:=(d,.aK hd sz 0 0)::s.fr,st:=(hd,⟨e,true,true,true,sz,[],none⟩)::s.st,df:=s.df}):=by
 refine bJ.of (s1:={fr:=s.fr,st:=(hd,⟨e,true,true,true,sz,[],none⟩)::s.st,df:=s.df}) (g:=.aK hd sz 0 0) rfl (fun _ h=>by cases h) ?_
 intro N cx μ a w hr
 obtain⟨i,hi1,hi2⟩:=ay.1 hi
 simp only[Prod.mk.injEq] at hi2
 obtain⟨hz,hs1,hb1⟩:=hi2
 obtain⟨μ',w',rfl,h1,h2,h3⟩:=hr.u7 (k:=⟨e,true,true,true,sz,[],none⟩) (cs:=#[]) hfr rfl (by simp) (fun _=>by simp) (fun j g' hg'=>by simp at hg') (fun _ g' hg'=>by simp at hg') W
 refine⟨_,μ',_,?_,h1,.aK hd sz 0 0 _ _ 0 h2 (aq _) (by simp),h3⟩
 have hrun:(Instr.buildSlice t 0 #[]).run P w=.ok (.slice (some ⟨w.heap.size,0,none⟩) 0 0) (w.alloc (.cells #[] e)):=by
  have e0:(Array.range 0).map (fun _=>(default:Value))=#[]:=by apply Array.eq_empty_of_size_eq_zero;simp
  simp[Instr.buildSlice,run_underlying ht,sizeOf,typeInfo,hi1,Instr.fill,newRow]
  rw[e0]
 simp[execOp,hrun]
def setAt {α:Type}(cs:List α) (off:Nat):List α→List α
 | []=>cs
 | x::r=>setAt (cs.set off x) (off+1) r
def AA (place:Nat→Option (Nat×Nat)) (cells:List G):List (Nat×G)→Option (List G)
 | []=>some cells
 | (i,g)::r=>match place i with
  | some (off,size)=>match Dg g&&(Nat.beq (cI g).length size&&Nat.ble (off+size) cells.length) with
   | true=>AA place (setAt cells off (cI g)) r
   | false=>none
  | none=>none
def IC (s:St):List (Nat×Operand)→Option (List (Nat×G))
 | []=>some []
 | (i,x)::r=>match ev s x,IC s r with
  | some g,some gs=>some ((i,g)::gs)
  | _,_=>none
def tL (O:Nat→Prop) (base:Nat) (w:World) (μ:Mu) (gs:List G) (vs:List Value):Prop:=vs.length=gs.length∧∀(j:Nat) (g:G) (v:Value),gs[j]?=some g→vs[j]?=some v→aM O base w μ g v
theorem tL.set {O:Nat→Prop}{base:Nat}{w:World}{μ:Mu}{gs:List G}{vs:List Value}(h:tL O base w μ gs vs) (off:Nat){g:G}{v:Value}(hv:aM O base w μ g v):tL O base w μ (gs.set off g) (vs.set off v):=by
 refine⟨by simp[h.1],fun j g' v' h1 h2=>?_⟩
 rw[eX] at h1 h2
 by_cases e:off=j
 ·subst e
  rw[if_pos rfl] at h1 h2
  split at h1
  ·split at h2
   ·cases h1;cases h2;exact hv
   ·cases h2
  ·cases h1
 ·rw[if_neg e] at h1 h2
  exact h.2 j g' v' h1 h2
theorem tL.setAt {O:Nat→Prop}{base:Nat}{w:World}{μ:Mu}:∀(gp:List G) (vp:List Value) (off:Nat){gs:List G}{vs:List Value},tL O base w μ gs vs→tL O base w μ gp vp→tL O base w μ (AM.setAt gs off gp) (AM.setAt vs off vp)
 | [],[],_,_,_,h,_=>h
 | [],_::_,_,_,_,_,h=>by cases h.1
 | _::_,[],_,_,_,_,h=>by cases h.1
 | g::gp,v::vp,off,_,_,h,hp=>tL.setAt gp vp (off+1) (h.set off (hp.2 0 g v rfl rfl)) ⟨by have:=hp.1;simpa using this,fun j g' v' h1 h2=>hp.2 (j+1) g' v' h1 h2⟩
theorem A1 (off:Nat):∀(l:List Value) (k:Nat) (cs:Array Value),((l.zipIdx k).foldl (fun cs (x:Value×Nat)=>cs.setIfInBounds (off+x.2) x.1) cs).toList=setAt cs.toList (off+k) l
 | [],_,_=>rfl
 | x::r,k,cs=>by
  simp only[List.zipIdx_cons,List.foldl_cons,setAt]
  rw[A1 off r (k+1)]
  simp[nR]
theorem Di {O:Nat→Prop}{base:Nat}{w:World}{μ:Mu}{place:Nat→Option (Nat×Nat)}:∀(gp:List (Nat×G)) (vp:List (Nat×Value)) (gs:List G) (vs:Array Value) (out:List G),
  AA place gs gp=some out→tL O base w μ gs vs.toList→vp.length=gp.length→(∀(j:Nat) (x:Nat×G) (y:Nat×Value),gp[j]?=some x→vp[j]?=some y→x.1=y.1∧aM O base w μ x.2 y.2)→
  ∃cs,Instr.fill place vs vp=some cs∧tL O base w μ out cs.toList
 | [],[],gs,vs,out,h,hr,_,_=>by cases h;exact⟨vs,rfl,hr⟩
 | [],_::_,_,_,_,_,_,hl,_=>by cases hl
 | _::_,[],_,_,_,_,_,hl,_=>by cases hl
 | (i,g)::gp,(i',v)::vp,gs,vs,out,h,hr,hl,hp=>by
  obtain⟨e,hv⟩:=hp 0 _ _ rfl rfl
  simp only at e hv
  subst e
  simp only[AA] at h
  cases hpl:place i with
  | none=>rw[hpl] at h;cases h
  | some os=>
   obtain⟨off,size⟩:=os
   rw[hpl] at h
   simp only at h
   cases hc:Dg g&&(Nat.beq (cI g).length size&&Nat.ble (off+size) gs.length) with
   | false=>rw[hc] at h;cases h
   | true=>
    rw[hc] at h
    simp only[ag] at hc
    obtain⟨c1,c2,c3⟩:=hc
    have c2:=af c2
    have c3:=eH c3
    obtain⟨d1,d2⟩:=hv.cells c1
    have hrl:tL O base w μ (cI g) v.cells.toList:=by
     refine⟨by rw[Array.length_toList];exact d1,fun j g' v' h1 h2=>?_⟩
     obtain⟨u,hu,hru⟩:=d2 j g' h1
     rw[bn,hu] at h2
     cases h2
     exact hru
    have hrs:=tL.setAt _ _ off hr hrl
    have hvl:vs.size=gs.length:=by rw[←hr.1,Array.length_toList]
    have hstep:Instr.fill place vs ((i,v)::vp)=Instr.fill place (v.cells.zipIdx.foldl (fun cs (x:Value×Nat)=>cs.setIfInBounds (off+x.2) x.1) vs) vp:=by
     simp only[Instr.fill,hpl]
     rw[if_neg (by simp;omega)]
    rw[hstep]
    have hfold:(v.cells.zipIdx.foldl (fun cs (x:Value×Nat)=>cs.setIfInBounds (off+x.2) x.1) vs).toList=AM.setAt vs.toList off v.cells.toList:=by
     rw[←Array.foldl_toList,Array.toList_zipIdx]
     exact A1 off v.cells.toList 0 vs
    refine Di gp vp _ _ out h (by rw[hfold];exact hrs) (by simpa using hl) fun j x y h1 h2=>hp (j+1) x y h1 h2
theorem IB {μ:Mu}{a:Act}{w:World}(h:Rel N cx μ s a w):∀(l:List (Nat×Operand)) (gp:List (Nat×G)),IC s l=some gp→
  (l.map fun x=>(x.1,a.eval x.2)).length=gp.length∧∀(j:Nat) (x:Nat×G) (y:Nat×Value),gp[j]?=some x→(l.map fun x=>(x.1,a.eval x.2))[j]?=some y→x.1=y.1∧aM (cx.O s.st μ) cx.base w μ x.2 y.2
 | [],gp,he=>by cases he;exact⟨rfl,fun j x y h=>by cases h⟩
 | (i,x)::r,gp,he=>by
  simp only[IC] at he
  cases hx:AM.ev s x with
  | none=>rw[hx] at he;cases he
  | some g=>
   rw[hx] at he
   cases hr:IC s r with
   | none=>rw[hr] at he;cases he
   | some gs=>
    rw[hr] at he
    cases he
    obtain⟨h1,h2⟩:=IB h r gs hr
    refine⟨by simpa using h1,fun j x' y h3 h4=>?_⟩
    cases j with
    | zero=>cases h3;cases h4;exact⟨rfl,h.ev hx⟩
    | succ j=>exact h2 j x' y h3 h4
theorem PY.build {t:TypeId}{parts:Array (Nat×Operand)}{fs:Array Field}{z:Value}{places:List (Nat×Nat)}{gp:List (Nat×G)}{out:List G}(ht:P.underlying t=some (.struct fs)) (hz:(P.info? t).map (·.zero)=some (some z))
  (hp:fs.toList.mapM (fun f=>(P.info? f.type).map fun i=>(f.offset,i.size))=some places) (he:IC s parts.toList=some gp) (hf:AA (places[·]?) (z.cells.toList.map .val) gp=some out):
  PY P s ⟨dst,.build t parts,ty,pos,after,guard⟩ (.agg out):=fun N cx μ a w hr=>by
 obtain⟨it,h1,h2⟩:=ay.1 hz
 obtain⟨h3,h4⟩:=IB hr _ _ he
 obtain⟨cs,h5,h6⟩:=Di (O:=cx.O s.st μ) (base:=cx.base) (w:=w) (μ:=μ) gp _ _ z.cells out hf ⟨by simp,fun j g v hg hv=>by
  rw[ar,hv] at hg
  cases hg
  exact .aC (.val _)⟩ h3 h4
 have hb:∀w',(Instr.build t (parts.map fun (x:Nat×Operand)=>(x.1,a.eval x.2))).run P w'=.ok (.agg cs) w':=fun w'=>by
  refine Go.run_build w' t _ cs ?_
  unfold Program.built
  simp only[h1,ht,h2,hp]
  rw[fD]
  have e:(fun x:Nat=>places.toArray[x]?)=(fun x:Nat=>places[x]?):=by funext x;simp
  rw[e]
  exact h5
 refine⟨.agg cs,?_,fun w'=>?_⟩
 ·have:=aM.agg (O:=cx.O s.st μ) (base:=cx.base) (w:=w) (μ:=μ) out cs.toList h6.1 h6.2
  simpa using this
 ·simp[execOp,hb]
theorem run_equal_bool {t:TypeId}(ht:P.underlying t=some .bool) (a b:Bool) (w:World):(Op.equal t (.bool a) (.bool b)).run P w=.ok (a==b) w:=by
 have e:∃n,Op.maxDepth=n+1:=⟨_,rfl⟩
 obtain⟨n,e⟩:=e
 unfold Op.equal
 rw[e]
 simp[Op.equalIn,run_underlying ht]
theorem PY.V4 {t t':TypeId}{x y:Operand}{a b:Bool}(hx:ev s x=some (.val (.bool a))) (hy:ev s y=some (.val (.bool b))) (ht:P.underlying t=some .bool):
  PY P s ⟨dst,.binOp .eql t x y t',ty,pos,after,guard⟩ (.val (.bool (a==b))):=fun _ _ _ _ _ hrel=>by
 refine⟨_,.aC (.val _),fun w'=>?_⟩
 simp[execOp,hrel.val hx,hrel.val hy,eqGuard,binOp,run_equal_bool ht]
theorem PY.V1 {t t':TypeId}{x y:Operand}{a b:Bool}(hx:ev s x=some (.val (.bool a))) (hy:ev s y=some (.val (.bool b))) (ht:P.underlying t=some .bool):
  PY P s ⟨dst,.binOp .neq t x y t',ty,pos,after,guard⟩ (.val (.bool (!(a==b)))):=fun _ _ _ _ _ hrel=>by
 refine⟨_,.aC (.val _),fun w'=>?_⟩
 simp[execOp,hrel.val hx,hrel.val hy,eqGuard,binOp,run_equal_bool ht]
end
end Go.AM
/-
 AM,part S:is a slice nil?
-/
namespace Go.AM
noncomputable def Li {ρ:Type}(n:Int) (m1 m2:Option ρ):Option ρ:=open Classical in if n=0 then(if m1=m2 then m1 else none) else m2
theorem Fe {ρ:Type}{n:Int}{m1 m2:Option ρ}{r:ρ}(h:Li n m1 m2=some r):(n=0→m1=some r)∧m2=some r:=by
 unfold Li at h
 split at h
 ·split at h
  ·rename_i e;exact⟨fun _=>h,e▸h⟩
  ·cases h
 ·exact⟨fun e=>absurd e (by assumption),h⟩
section
variable {P:Program}{N:Nat}{cx:Cx}{Q:Exit→St→Prop}{s:St}{ops:Array Oper}{rest:List Oper}
theorem aM.Pn {O:Nat→Prop}{base:Nat}{w:World}{μ:Mu}{g:G}{v:Value}{n:Int}(h:aM O base w μ g v) (hn:LC g=some n):∃b m c,v=.slice b m c∧(m:Int)=n∧(b=none→n=0):=by
 have sl:∀(O:Nat→Prop) (n:Nat) (cells:List G) (v:Value),bB O w (.sl n cells) v→∃b m c,v=.slice b m c∧m=n∧(b=none→n=0):=by
  intro O n cells v h
  cases h with
  | nil=>exact⟨none,0,0,rfl,rfl,fun _=>rfl⟩
  | ib a cap=>exact⟨some a,0,cap,rfl,rfl,fun h=>rfl⟩
  | sl _ _ b off cap=>exact⟨_,n,cap,rfl,rfl,fun h=>by cases h⟩
 cases g with
 | sl n' cells=>
  cases hn
  cases h with
  | aC h=>obtain⟨b,m,c,e1,e2,e3⟩:=sl _ _ _ _ h;exact⟨b,m,c,e1,by rw[e2],fun h=>by rw[e3 h];rfl⟩
 | fr g=>
  cases h with
  | aC h=>cases h
  | fr h=>
   cases g with
   | sl n' cells=>cases hn;obtain⟨b,m,c,e1,e2,e3⟩:=sl _ _ _ _ h;exact⟨b,m,c,e1,by rw[e2],fun h=>by rw[e3 h];rfl⟩
   | _=>cases hn
 | aK h' sz off n'=>
  cases hn
  cases h with
  | aC h=>cases h
  | eD=>exact⟨none,0,0,rfl,rfl,fun _=>rfl⟩
  | aK _ _ _ _ b m cap=>exact⟨_,n',cap,rfl,rfl,fun h=>by cases h⟩
  | dO _ _ off0 b m _ _=>exact⟨_,0,0,rfl,rfl,fun _=>rfl⟩
 | ks h' i sz n'=>
  cases hn
  cases h with
  | aC h=>cases h
  | ko _ _ _ x cap=>exact⟨x,0,cap,rfl,rfl,fun _=>rfl⟩
  | ks _ _ _ _ b m c k cap=>exact⟨_,n',cap,rfl,rfl,fun h=>by cases h⟩
 | val v0=>
  cases h with
  | aC h=>
   cases h
   cases v with
   | slice b m c=>
    cases b with
    | none=>cases m with
     | zero=>cases c with
      | zero=>cases hn;exact⟨none,0,0,rfl,rfl,fun _=>rfl⟩
      | succ c=>cases hn
     | succ m=>cases hn
    | some b=>cases hn
   | _=>cases hn
 | _=>cases hn
theorem M2 {t e:TypeId}(ht:P.underlying t=some (.slice e)) (xo yo:Operand) (b:Option Addr) (m c:Nat) (w:World):
  (do eqGuard .eql t xo yo (.slice b m c) (.slice none 0 0);binOp .eql t (.slice b m c) (.slice none 0 0):Sem Value).run P w=.ok (.bool b.isNone) w:=by
 have h:=Lib.run_eql_slice_nil (P:=P) w t e b m c 0 0 ht
 have hg:(eqGuard .eql t xo yo (.slice b m c) (.slice none 0 0)).run P w=.ok () w:=by simp[eqGuard]
 simp only[Sem.run_bind,hg,Result.andThen_ok,h]
theorem M1 {t e:TypeId}(ht:P.underlying t=some (.slice e)) (xo yo:Operand) (b:Option Addr) (m c:Nat) (w:World):
  (do eqGuard .neq t xo yo (.slice b m c) (.slice none 0 0);binOp .neq t (.slice b m c) (.slice none 0 0):Sem Value).run P w=.ok (.bool (!b.isNone)) w:=by
 have h:=run_neq_slice_nil_any (P:=P) w t e b m c 0 0 ht
 have hg:(eqGuard .neq t xo yo (.slice b m c) (.slice none 0 0)).run P w=.ok () w:=by simp[eqGuard]
 simp only[Sem.run_bind,hg,Result.andThen_ok,h]
end
end Go.AM
/-
 AM,part T:a block said in other words;slices given out of hand;a nil slice in a box taken in hand;lists written out.
-/
namespace Go.AM
section
variable {P:Program}{N:Nat}{cx:Cx}{Q:Exit→St→Prop}{s:St}{ops:Array Oper}{rest:List Oper}
theorem Rel.wJ {μ:Mu}{a:Act}{w:World}(h:Rel N cx μ s a w){hh:Nat}{k k':ao}(hk:az s.st hh=some k) (he:k'.bw=k.bw) (hmine:k'.dn=k.dn) (hsz:k'.sz=k.sz) (hl:k'.cells.length≤k.cells.length) (hlp:k.lp=none) (hlp':k'.lp=none)
  (hc:∀(j:Nat) (g':G),k'.cells[j]?=some g'→∃g,k.cells[j]?=some g∧∀v,bZ (cx.O s.st μ) cx.base w μ k g v→bZ (cx.O s.st μ) cx.base w μ k' g' v):
  Rel N cx μ {fr:=s.fr,st:=cC s.st hh k',df:=s.df} a w:=by
 have hb:=h.st.dB hh k hk
 cases hm:μ hh with
 | some bm=>
  obtain⟨b,m⟩:=bm
  rw[hm] at hb
  obtain⟨cs,h1,h2,h3,h4,h5,h6⟩:=hb.cells hlp
  exact(h.write hk hm (by rw[he];exact h1) h2 rfl (fun _ _=>rfl) rfl rfl rfl (fun e=>hmine▸e) (cm hl h3) (by rw[hsz];exact h5) (fun j g' hg'=>by
   obtain⟨g,hg,hr⟩:=hc j g' hg'
   obtain⟨v,hv,hrv⟩:=h6 j g hg
   exact⟨v,hv,hr v hrv⟩) [hh] (by simp) hlp').1
 | none=>
  rw[hm] at hb
  obtain⟨hb,_⟩:=hb
  have hb':k'.cells=[]:=aT (by rw[hb] at hl;simpa using hl)
  have hOO:∀b,cx.O (cC s.st hh k') μ b↔cx.O s.st μ b:=fun b=>or_congr Iff.rfl (Own.cC hk)
  have hO:∀b,b<w.heap.size→¬cx.O s.st μ b→¬cx.O (cC s.st hh k') μ b:=fun b _ hn ho=>hn ((hOO b).1 ho)
  have f:∀x k1,az (cC s.st hh k') x=some k1→∃k1,az s.st x=some k1:=fun x k1 h1=>by
   rcases cF hk h1 with ⟨rfl,rfl⟩ | ⟨_,h1⟩
   ·exact⟨k,hk⟩
   ·exact⟨_,h1⟩
  refine {st:={dB:=?_,cR:=?_,bY:=?_,ew:=?_,ed:=h.st.ed,hb:=h.st.hb,os:=h.st.os,tape:=h.st.tape,output:=h.st.output,gl:=h.st.gl,cW:=h.st.cW},nd:=h.nd.mono (Kept.refl _ _) hO,sz:=h.sz,fr:=fun t g hg=>?_}
  ·intro x k1 h1
   rcases cF hk h1 with ⟨rfl,rfl⟩ | ⟨_,h1⟩
   ·rw[hm];exact .nil hb' hlp'
   ·exact(h.st.dB x k1 h1).mono (fun _ _ _ _ _=>rfl) (Kept.refl _ _) hO
  ·intro x x' k1 k2 y b1 m1 b2 m2 h1 h2
   obtain⟨k1',h1'⟩:=f x k1 h1
   obtain⟨k2',h2'⟩:=f x' k2 h2
   exact h.st.cR x x' k1' k2' y b1 m1 b2 m2 h1' h2'
  ·intro x k1 b1 m1 y h1 h2
   intro hi
   rcases cF hk h1 with ⟨rfl,rfl⟩ | ⟨_,h1⟩
   ·obtain⟨a1,a2,a3,a4⟩:=h.st.bY x k b1 m1 y hk h2 hi
    exact⟨a1,a2,a3,fun hm=>a4 (hmine▸hm)⟩
   ·exact h.st.bY x k1 b1 m1 y h1 h2 hi
  ·intro x k1 h1 h2
   obtain⟨k1',h1'⟩:=f x k1 h1
   exact h.st.ew x k1' h1' h2
  ·obtain⟨v,hv,hr⟩:=h.fr t g hg
   exact⟨v,hv,hr.mono (Kept.refl _ _) hO (aq _)⟩
theorem Rel.wT {μ : Mu} {a : Act} {w : World} (h : Rel N cx μ s a w) (hd : Nat) (k : ao) (hf : fresh s hd = true) (hk : k.cells = []) (hlp : k.lp = none) : Rel N cx (nC μ hd none) { fr := s.fr, st := (hd, k) :: s.st, df := s.df } a w := by
 obtain ⟨h1, h2, h3, h5, h6⟩ := eN hf
 obtain ⟨h4, hO⟩ := h.st.wT h1 h3 (kY h6) hk hlp
 refine { st := h4, nd := (h.nd.mono (Kept.refl _ _) (fun b _ => hO b)).gU (fun g hg y hy => bq fun e => by subst e; rw [qa h5 hg] at hy; cases hy), sz := h.sz, fr := fun t' g hg' => ?_ }
 obtain ⟨v, hv, hr⟩ := h.fr t' g hg'
 refine ⟨v, hv, (hr.mono (Kept.refl _ _) (fun b _ => hO b) (aq _)).gU fun y hy => bq ?_⟩
 intro e
 subst e
 rw [np h2 hg'] at hy
 cases hy
theorem Rel.xf {μ : Mu} {a : Act} {w : World} (h : Rel N cx μ s a w) (hh j hd : Nat) (e : TypeId) (sz : Nat) {k : ao} (hk : az s.st hh = some k) (hp : k.pure = false) (hj : k.cells[j]? = some (.val (.slice none 0 0))) (hf : fresh s hd = true) (hlp : k.lp = none) :
    ∃ μ', Rel N cx μ' { fr := s.fr, st := cC ((hd, ⟨e, true, true, true, sz, [], none⟩) :: s.st) hh { k with cells := k.cells.set j (.aK hd sz 0 0) }, df := s.df } a w := by
  have h1 := h.wT hd ⟨e, true, true, true, sz, [], none⟩ hf rfl rfl
  have hne : hh ≠ hd := fun e => by
    subst e
    obtain ⟨h2, _⟩ := eN hf
    rw [hk] at h2; cases h2
  have hk2 : az ((hd, ⟨e, true, true, true, sz, [], none⟩) :: s.st) hh = some k := by rw [aI _ _ hne]; exact hk
  refine ⟨_, h1.wJ (s := { fr := s.fr, st := (hd, ⟨e, true, true, true, sz, [], none⟩) :: s.st, df := s.df }) hk2 rfl rfl rfl (by simp) hlp hlp fun i g' hg' => ?_⟩
  simp only [eX] at hg'
  by_cases e : j = i
  · subst e
    rw [if_pos rfl] at hg'
    split at hg'
    · cases hg'
      refine ⟨_, hj, fun v hv => ?_⟩
      unfold bZ at hv ⊢
      simp only [hp] at hv ⊢
      cases hv with
      | aC hv => cases hv; exact .eD hd sz (cp _ _ _)
    · cases hg'
  · rw [if_neg e] at hg'
    refine ⟨g', hg', fun v hv => ?_⟩
    unfold bZ at hv ⊢
    exact hv
theorem GW.xf {c:Code}(hh j hd:Nat) (e:TypeId) (sz:Nat){k:ao}(hk:az s.st hh=some k) (hp:k.pure=false) (hj:k.cells[j]?=some (.val (.slice none 0 0))) (hf:fresh s hd=true)
  (h:GW P N cx c Q {fr:=s.fr,st:=cC ((hd,⟨e,true,true,true,sz,[],none⟩)::s.st) hh {k with cells:=k.cells.set j (.aK hd sz 0 0)},df:=s.df}) (hlp:k.lp=none:=by rfl):GW P N cx c Q s:=fun _ a w hr=>
 let ⟨μ',h'⟩:=hr.xf hh j hd e sz hk hp hj hf hlp
 h μ' a w h'
theorem GL.xf (hh j hd:Nat) (e:TypeId) (sz:Nat){k:ao}(hk:az s.st hh=some k) (hp:k.pure=false) (hj:k.cells[j]?=some (.val (.slice none 0 0))) (hf:fresh s hd=true)
  (h:GL P N cx ops Q rest {fr:=s.fr,st:=cC ((hd,⟨e,true,true,true,sz,[],none⟩)::s.st) hh {k with cells:=k.cells.set j (.aK hd sz 0 0)},df:=s.df}) (hlp:k.lp=none:=by rfl):GL P N cx ops Q rest s:=fun _ a w hr=>
 let ⟨μ',h'⟩:=hr.xf hh j hd e sz hk hp hj hf hlp
 h μ' a w h'
def N4 (st st':List (Nat×ao)) (g g':G):Prop:=iI st st' g=some g'∨g=g'
def z8 (st st':List (Nat×ao)) (fr:List (Nat×G)):List (Nat×G)→Prop
 | []=>True
 | (t,g')::r=>(∃g,get fr t=some g∧N4 st st' g g')∧z8 st st' fr r
def KK (st st':List (Nat×ao)):List G→List G→Prop
 | [],[]=>True
 | g::r,g'::r'=>N4 st st' g g'∧KK st st' r r'
 | _,_=>False
def z7 (st st':List (Nat×ao)):List (Nat×ao)→Prop
 | []=>True
 | (h,k')::r=>(∃k,az st h=some k∧k'.bw=k.bw∧k'.dn=k.dn∧k'.sz=k.sz∧k'.pure=k.pure∧k'.fresh=k.fresh∧k'.lp=k.lp∧((k.pure=true∧k'.cells=k.cells)∨(k.pure=false∧KK st st' k.cells k'.cells)))∧z7 st st' r
theorem z8.get {st st':List (Nat×ao)}{fr:List (Nat×G)}:∀{fr':List (Nat×G)},z8 st st' fr fr'→∀{t:Nat}{g':G},AM.get fr' t=some g'→∃g,AM.get fr t=some g∧N4 st st' g g'
 | [],_,_,_,h=>by cases h
 | (k,g0)::r,⟨h1,h2⟩,t,g',h=>by
  simp only[AM.get] at h
  cases hk:Nat.beq k t with
  | true=>rw[hk] at h;have:=af hk;subst this;simp at h;subst h;exact h1
  | false=>rw[hk] at h;exact z8.get h2 h
theorem z7.get {st st':List (Nat×ao)}:∀{l:List (Nat×ao)},z7 st st' l→∀{t:Nat}{k':ao},az l t=some k'→∃k,az st t=some k∧k'.bw=k.bw∧k'.dn=k.dn∧k'.sz=k.sz∧k'.pure=k.pure∧k'.fresh=k.fresh∧k'.lp=k.lp∧((k.pure=true∧k'.cells=k.cells)∨(k.pure=false∧KK st st' k.cells k'.cells))
 | [],_,_,_,h=>by cases h
 | (k,g0)::r,⟨h1,h2⟩,t,g',h=>by
  simp only[az] at h
  cases hk:Nat.beq k t with
  | true=>rw[hk] at h;have:=af hk;subst this;simp at h;subst h;exact h1
  | false=>rw[hk] at h;exact z7.get h2 h
theorem KK.get {st st':List (Nat×ao)}:∀{l l':List G},KK st st' l l'→l'.length=l.length∧∀{j:Nat}{g':G},l'[j]?=some g'→∃g,l[j]?=some g∧N4 st st' g g'
 | [],[],_=>⟨rfl,fun h=>by cases h⟩
 | _::_,[],h=>h.elim
 | [],_::_,h=>h.elim
 | g::r,g1::r',⟨h1,h2⟩=>by
  obtain⟨h3,h4⟩:=KK.get h2
  refine⟨by simp[h3],fun {j g'} h=>?_⟩
  cases j with
  | zero=>cases h;exact⟨g,rfl,h1⟩
  | succ j=>exact h4 h
theorem Rel.freeze {μ:Mu}{a:Act}{w:World}(h:Rel N cx μ s a w){s':St}(hst:z7 s.st s'.st s'.st) (hfr:z8 s.st s'.st s.fr s'.fr) (hdf:s.df=s'.df):Rel N cx μ s' a w:=by
 have hdom:∀x k,az s'.st x=some k→∃k0,az s.st x=some k0:=fun x k hk=>let ⟨k0,h1,_⟩:=hst.get hk;⟨k0,h1⟩
 have hO:∀b,b<w.heap.size→¬cx.O s.st μ b→¬cx.O s'.st μ b:=fun b _ hn ho=>hn (ho.imp id fun ⟨x,k,c,m,h1,h2,hi⟩=>let ⟨k0,h3⟩:=hdom x k h1;⟨x,k0,c,m,h3,h2,hi⟩)
 have hE:∀{g g':G}{v:Value},N4 s.st s'.st g g'→aM (cx.O s.st μ) cx.base w μ g v→aM (cx.O s'.st μ) cx.base w μ g' v:=by
  intro g g' v hz hv
  rcases hz with hz | rfl
  ·exact yh h.st hdom hv hz
  ·exact hv.mono (Kept.refl _ _) hO (aq _)
 refine {st:={dB:=?_,cR:=?_,bY:=?_,ew:=?_,ed:=h.st.ed,hb:=h.st.hb,os:=h.st.os,tape:=h.st.tape,output:=h.st.output,gl:=h.st.gl,cW:=h.st.cW},nd:=hdf▸h.nd.mono (Kept.refl _ _) hO,sz:=h.sz,fr:=fun t g' hg'=>?_}
 ·intro x k' hk'
  obtain⟨k,hk,e1,e2,e3,e4,e5,e7,e6⟩:=hst.get hk'
  have hb:=h.st.dB x k hk
  have hlen:k'.cells.length=k.cells.length:=by
   rcases e6 with ⟨_,e⟩ | ⟨_,e⟩
   ·rw[e]
   ·exact e.get.1
  cases hm:μ x with
  | none=>
   rw[hm] at hb
   exact hb.wR (by rw[hb.1];exact aT (by rw[hlen,hb.1];rfl)) e7 e4
  | some bm=>
   obtain⟨b,m⟩:=bm
   rw[hm] at hb
   cases hlp:k.lp with
   | none=>
    obtain⟨cs,h1,h2,h3,h4,h5,h6⟩:=hb.cells hlp
    refine .mk (e7.trans hlp) (hb.l9 hlp) ⟨cs,by rw[e1];exact h1,h2,by rw[hlen];exact h3,fun hmn=>h4 (e2▸hmn),by rw[e3];exact h5,fun j g' hg'=>?_⟩
    rcases e6 with ⟨hp,e⟩ | ⟨hp,e⟩
    ·rw[e] at hg'
     obtain⟨v,hv,hr⟩:=h6 j g' hg'
     refine⟨v,hv,?_⟩
     have:=hr.mono (Kept.refl _ _) hO
     unfold bZ at this⊢
     rw[e4,e5]
     exact this
    ·obtain⟨g,hg,hz⟩:=e.get.2 hg'
     obtain⟨v,hv,hr⟩:=h6 j g hg
     refine⟨v,hv,?_⟩
     unfold bZ at hr⊢
     rw[e4]
     simp only[hp] at hr⊢
     exact hE hz hr
   | some kd=>
    cases kd with
    | loop lp=>
     obtain⟨D,vs,h1,h2,h3,h4,h5⟩:=(aS.loop hlp).1 hb
     refine(aS.loop (e7.trans hlp)).2 ⟨D,vs,h1,h2,e2.trans h3,e4.trans h4,fun j t g' ht hg'=>?_⟩
     rcases e6 with ⟨hp,_⟩ | ⟨_,e⟩
     ·rw[h4] at hp;cases hp
     ·obtain⟨g,hg,hz⟩:=e.get.2 hg'
      obtain⟨v,hv,hr⟩:=h5 j t g ht hg
      exact⟨v,hv,hE hz hr⟩
    | deep d=>
     obtain⟨h1,h2,h3,h4⟩:=((aS.deep hlp).1 hb).mono (fun _ _=>rfl) (Kept.refl _ _) hO
     refine(aS.deep (e7.trans hlp)).2 ⟨by rw[e5];exact h1,e4.trans h2,?_,fun hmn=>h4 (e2▸hmn)⟩
     exact aT (by rw[hlen,h3];rfl)
 ·intro x x' k1 k2 y b m b' m' h1 h2
  obtain⟨k1',h1'⟩:=hdom x k1 h1
  obtain⟨k2',h2'⟩:=hdom x' k2 h2
  exact h.st.cR x x' k1' k2' y b m b' m' h1' h2'
 ·intro x k1 b m y h1 h2
  intro hi
  obtain⟨k,hk,_,e2,_⟩:=hst.get h1
  obtain⟨a1,a2,a3,a4⟩:=h.st.bY x k b m y hk h2 hi
  exact⟨a1,a2,a3,fun hm=>a4 (e2▸hm)⟩
 ·intro x k1 h1 h2
  obtain⟨k1',h1'⟩:=hdom x k1 h1
  exact h.st.ew x k1' h1' h2
 ·obtain⟨g,hg,hz⟩:=hfr.get hg'
  obtain⟨v,hv,hr⟩:=h.fr t g hg
  exact⟨v,hv,hE hz hr⟩
theorem GL.freeze (s':St) (hst:z7 s.st s'.st s'.st) (hfr:z8 s.st s'.st s.fr s'.fr) (h:GL P N cx ops Q rest s') (hdf:s.df=s'.df:=by rfl):GL P N cx ops Q rest s:=fun μ a w hr=>h μ a w (hr.freeze hst hfr hdf)
theorem GW.freeze {c:Code}(s':St) (hst:z7 s.st s'.st s'.st) (hfr:z8 s.st s'.st s.fr s'.fr) (h:GW P N cx c Q s') (hdf:s.df=s'.df:=by rfl):GW P N cx c Q s:=fun μ a w hr=>h μ a w (hr.freeze hst hfr hdf)
end
end Go.AM
/-
 AM,part U:parts of slices and of texts.
-/
namespace Go.AM
section
variable {α:Type}[aR α]
variable {P:Program}{N:Nat}{cx:Cx}{s:St}{W:List Nat}
variable {dst:Option Tmp}{ty:TypeId}{pos:String}{after:Array Edge}{guard:Option (Nat×Bool)}
theorem EJ {t e:TypeId}(ht:P.underlying t=some (.slice e)):P.underlying t=some (.slice (P.elem t)):=by
 have:P.elem t=e:=by unfold Program.elem;rw[ht]
 rw[this];exact ht
def jm (l:List α) (i j:Int):List α:=(l.drop i.toNat).take (j.toNat-i.toNat)
omit [aR α] in
theorem uM {l:List α}{i j:Int}(_:0≤i) (h1:i≤j) (h2:j≤(l.length:Int)):(jm l i j).length=j.toNat-i.toNat:=by
 unfold jm;rw[bo,cK];omega
theorem bB.part {O:Nat→Prop}{w:World}{l:List α}{v:Value}{i j:Int}(h:bB O w (.sl l.length (db l)) v) (h0:0≤i) (h1:i≤j) (h2:j≤(l.length:Int)):
  ∃(a:Option Addr) (len cap:Nat),v=.slice a len cap∧(len:Int)=l.length∧j≤cap∧(len:Int)≤cap∧∀m:Nat,(m:Int)=cap→bB O w (.sl (jm l i j).length (db (jm l i j))) (sliced a i.toNat j.toNat m (aR.sz α)):=by
 have zero:l=[]→jm l i j=[]:=fun e=>by subst e;simp[jm]
 generalize hn:l.length=n at h
 generalize hc:db l=cs at h
 cases h with
 | nil=>
  have hl:l=[]:=aT hn
  refine⟨none,0,0,rfl,by omega,by omega,by omega,fun m hm=>?_⟩
  rw[zero hl]
  obtain rfl:m=0:=by omega
  obtain rfl:i=0:=by omega
  obtain rfl:j=0:=by omega
  exact .nil
 | ib a cap=>
  have hl:l=[]:=aT hn
  refine⟨some a,0,cap,rfl,by omega,by omega,by omega,fun m hm=>?_⟩
  rw[zero hl]
  obtain rfl:i=0:=by omega
  obtain rfl:j=0:=by omega
  unfold sliced
  split
  ·exact .ib _ _
  ·exact .ib _ _
 | sl _ _ b off cap us hle hO hb hcell hr=>
  subst hn
  subst hc
  refine⟨_,_,cap,rfl,rfl,by omega,by omega,fun m hm=>?_⟩
  obtain rfl:m=cap:=by omega
  unfold sliced
  by_cases e:m=i.toNat
  ·have:(jm l i j).length=0:=by rw[uM h0 h1 h2];omega
   have e2:jm l i j=[]:=aT this
   rw[e2,if_pos e]
   have e3:j.toNat-i.toNat=0:=by omega
   rw[e3]
   exact .ib _ _
  ·rw[if_neg e,b9,Addr.lf,uM h0 h1 h2]
   have hsub:db (jm l i j)=((db l).drop (i.toNat*aR.sz α)).take ((j.toNat-i.toNat)*aR.sz α):=by
    unfold jm
    rw[←zJ,←zK]
   have hlen:(db (jm l i j)).length=(j.toNat-i.toNat)*aR.sz α:=by rw[gv,uM h0 h1 h2]
   have hbig:i.toNat*aR.sz α+(j.toNat-i.toNat)*aR.sz α≤l.length*aR.sz α:=by
    rw[←eI];exact ca _ (by omega)
   refine .sl _ _ b (off+i.toNat*aR.sz α) (m-i.toNat) (fun q=>us (i.toNat*aR.sz α+q)) (by omega) hO hb (fun q hq=>?_) (fun q g hg=>?_)
   ·rw[hlen] at hq
    have:=hcell (i.toNat*aR.sz α+q) (by rw[gv];omega)
    rw[←this]
    congr 2
    omega
   ·have hq:=(aw.1 hg).1
    rw[hlen] at hq
    rw[hsub,aV,if_pos hq,a8] at hg
    exact hr _ g hg
theorem Hm {t e:TypeId}(ht:P.underlying t=some (.slice e)) (hsz:∀w,(sizeOf e).run P w=.ok (aR.sz α) w){k k':IntKind}{i j:Int}(a:Option Addr) (len cap:Nat) (h0:0≤i) (h1:i≤j) (h2:j≤cap) (w:World):
  (Instr.sliceAt t (.slice a len cap) (some (.int k i)) (some (.int k' j)) none).run P w=.ok (sliced a i.toNat j.toNat cap (aR.sz α)) w:=by
 have he:=EJ ht
 have e:P.elem t=e:=by unfold Program.elem;rw[ht]
 rw[run_sliceAt_slice w t _ _ _ _ he,run_slice_lh w t a len cap he k k' i j h0 h1 h2,e,hsz w]
 rfl
theorem Cz {t e:TypeId}(ht:P.underlying t=some (.slice e)) (hsz:∀w,(sizeOf e).run P w=.ok (aR.sz α) w){k:IntKind}{i:Int}(a:Option Addr) (len cap:Nat) (h0:0≤i) (h1:i≤len) (w:World):
  (Instr.sliceAt t (.slice a len cap) (some (.int k i)) none none).run P w=.ok (sliced a i.toNat len cap (aR.sz α)) w:=by
 have he:=EJ ht
 have e:P.elem t=e:=by unfold Program.elem;rw[ht]
 rw[run_sliceAt_slice w t _ _ _ _ he,run_slice_l w t a len cap he k i h0 h1,e,hsz w]
 rfl
theorem CA {t e:TypeId}(ht:P.underlying t=some (.slice e)) (hsz:∀w,(sizeOf e).run P w=.ok (aR.sz α) w){k:IntKind}{j:Int}(a:Option Addr) (len cap:Nat) (h0:0≤j) (h1:j≤cap) (w:World):
  (Instr.sliceAt t (.slice a len cap) none (some (.int k j)) none).run P w=.ok (sliced a 0 j.toNat cap (aR.sz α)) w:=by
 have he:=EJ ht
 have e:P.elem t=e:=by unfold Program.elem;rw[ht]
 rw[run_sliceAt_slice w t _ _ _ _ he,run_slice_h w t a len cap he k j h0 h1,e,hsz w]
 rfl
def Cu (f:Bool) (l:List α):G:=bif f then .fr (.sl l.length (db l)) else .sl l.length (db l)
theorem aM.part {O:Nat→Prop}{base:Nat}{w:World}{μ:Mu}{f:Bool}{l:List α}{v:Value}{i j:Int}(h:aM O base w μ (Cu f l) v) (h0:0≤i) (h1:i≤j) (h2:j≤(l.length:Int)):
  ∃(a:Option Addr) (len cap:Nat),v=.slice a len cap∧(len:Int)=l.length∧j≤cap∧(len:Int)≤cap∧aM O base w μ (Cu f (jm l i j)) (sliced a i.toNat j.toNat cap (aR.sz α)):=by
 cases f with
 | false=>
  cases h with
  | aC h=>obtain⟨a,len,cap,e1,e2,e3,e4,e5⟩:=h.part h0 h1 h2;exact⟨a,len,cap,e1,e2,e3,e4,.aC (e5 cap rfl)⟩
 | true=>
  cases h with
  | aC h=>cases h
  | fr h=>obtain⟨a,len,cap,e1,e2,e3,e4,e5⟩:=h.part h0 h1 h2;exact⟨a,len,cap,e1,e2,e3,e4,.fr (e5 cap rfl)⟩
theorem PY.slice {t e:TypeId}{x lo hi:Operand}{f:Bool}{l:List α}{k k':IntKind}{i j:Int}(hx:ev s x=some (Cu f l)) (hl:ev s lo=some (.val (.int k i))) (hh:ev s hi=some (.val (.int k' j))) (ht:P.underlying t=some (.slice e)) (hsz:∀w,(sizeOf e).run P w=.ok (aR.sz α) w)
  (h0:0≤i) (h1:i≤j) (h2:j≤(l.length:Int)):PY P s ⟨dst,.slice t x (some lo) (some hi) none,ty,pos,after,guard⟩ (Cu f (jm l i j)):=fun N cx μ a w hr=>by
 obtain⟨ad,len,cap,e1,e2,e3,e4,e5⟩:=(hr.ev hx).part h0 h1 h2
 refine⟨_,e5,fun w'=>?_⟩
 simp[execOp,e1,hr.val hl,hr.val hh,Hm ht hsz ad len cap h0 h1 e3]
theorem PY.Tu {t e:TypeId}{x lo:Operand}{f:Bool}{l:List α}{k:IntKind}{i:Int}(hx:ev s x=some (Cu f l)) (hl:ev s lo=some (.val (.int k i))) (ht:P.underlying t=some (.slice e)) (hsz:∀w,(sizeOf e).run P w=.ok (aR.sz α) w)
  (h0:0≤i) (h1:i≤(l.length:Int)):PY P s ⟨dst,.slice t x (some lo) none none,ty,pos,after,guard⟩ (Cu f (jm l i (l.length:Int))):=fun N cx μ a w hr=>by
 obtain⟨ad,len,cap,e1,e2,e3,e4,e5⟩:=(hr.ev hx).part h0 h1 (Int.le_refl _)
 have e6:len=((l.length:Int)).toNat:=by omega
 refine⟨_,e5,fun w'=>?_⟩
 have:=Cz (α:=α) (P:=P) ht hsz (k:=k) ad len cap h0 (by omega) w'
 rw[←e6]
 simp[execOp,e1,hr.val hl,this]
theorem PY.Tv {t e:TypeId}{x hi:Operand}{f:Bool}{l:List α}{k:IntKind}{j:Int}(hx:ev s x=some (Cu f l)) (hh:ev s hi=some (.val (.int k j))) (ht:P.underlying t=some (.slice e)) (hsz:∀w,(sizeOf e).run P w=.ok (aR.sz α) w)
  (h0:0≤j) (h2:j≤(l.length:Int)):PY P s ⟨dst,.slice t x none (some hi) none,ty,pos,after,guard⟩ (Cu f (jm l 0 j)):=fun N cx μ a w hr=>by
 obtain⟨ad,len,cap,e1,e2,e3,e4,e5⟩:=(hr.ev hx).part (Int.le_refl 0) h0 h2
 refine⟨_,e5,fun w'=>?_⟩
 have:=CA (α:=α) (P:=P) ht hsz (k:=k) ad len cap h0 e3 w'
 simp[execOp,e1,hr.val hh,this]
theorem PY.Tt {t : TypeId} {x lo hi : Operand} {b : ByteArray} {k k' : IntKind} {i j : Int} (hx : ev s x = some (.val (.string b))) (hl : ev s lo = some (.val (.int k i))) (hh : ev s hi = some (.val (.int k' j))) (ht : P.underlying t = some .string)
  (h0 : 0 ≤ i) (h1 : i ≤ j) (h2 : j ≤ (b.size : Int)) : PY P s ⟨dst, .slice t x (some lo) (some hi) none, ty, pos, after, guard⟩ (.val (.string (b.extract i.toNat j.toNat))) := fun N cx μ a w hr => by
 refine ⟨_, .aC (.val _), fun w' => ?_⟩
 have eh : (j.toNat : Int) = j := Int.toNat_of_nonneg (by omega)
 have : (Instr.slice t (.string b) (some (.int k i)) (some (.int k' j)) none).run P w' = .ok (.string (b.extract i.toNat j.toNat)) w' := by
  simp [Instr.slice, run_underlying ht, Instr.sliceBounds, run_sliceBound, *, eh, (by omega : 0 ≤ i), (by omega : 0 ≤ j)]
 simp [execOp, hr.val hx, hr.val hl, hr.val hh, run_sliceAt_string w' t _ _ _ _ ht, this]
theorem PY.RU {t:TypeId}{x lo:Operand}{b:ByteArray}{k:IntKind}{i:Int}(hx:ev s x=some (.val (.string b))) (hl:ev s lo=some (.val (.int k i))) (ht:P.underlying t=some .string)
  (h0:0≤i) (h1:i≤(b.size:Int)):PY P s ⟨dst,.slice t x (some lo) none none,ty,pos,after,guard⟩ (.val (.string (b.extract i.toNat b.size))):=fun N cx μ a w hr=>by
 refine⟨_,.aC (.val _),fun w'=>?_⟩
 simp[execOp,hr.val hx,hr.val hl,run_sliceAt_string w' t _ _ _ _ ht,run_slice_string_l w' t b ht k i h0 h1]
theorem PY.RV {t:TypeId}{x hi:Operand}{b:ByteArray}{k:IntKind}{j:Int}(hx:ev s x=some (.val (.string b))) (hh:ev s hi=some (.val (.int k j))) (ht:P.underlying t=some .string)
  (h0:0≤j) (h2:j≤(b.size:Int)):PY P s ⟨dst,.slice t x none (some hi) none,ty,pos,after,guard⟩ (.val (.string (b.extract 0 j.toNat))):=fun N cx μ a w hr=>by
 refine⟨_,.aC (.val _),fun w'=>?_⟩
 simp[execOp,hr.val hx,hr.val hh,run_sliceAt_string w' t _ _ _ _ ht,run_slice_string_h w' t b ht k j h0 h2]
end
end Go.AM
/-
 AM,part V:results that lean on what was handed in;calls that hand in nothing of the call's own.
-/
namespace Go.AM
def nF:G→G
 | .fr g=>g
 | .agg gs=>.agg (go gs)
 | .aU gs=>.aU (go gs)
 | .aP f gs=>.aP f (go gs)
 | g=>g
where go:List G→List G
 | []=>[]
 | g::r=>nF g::go r
theorem mW {gs:List G}:(nF.go gs).length=gs.length∧∀(j:Nat) (g':G),(nF.go gs)[j]?=some g'→∃g,gs[j]?=some g∧g'=nF g:=by
 induction gs with
 | nil=>exact⟨rfl,fun j g h=>by simp[nF.go] at h⟩
 | cons x r ih=>
  refine⟨by simp[nF.go,ih.1],fun j g' h=>?_⟩
  simp only[nF.go] at h
  cases j with
  | zero=>cases h;exact⟨x,rfl,rfl⟩
  | succ j=>exact ih.2 j g' h
theorem bB.Ct {O:Nat→Prop}{base:Nat}{w:World}{μ:Mu}{g:G}{v:Value}(h:bB O w g v):aM O base w μ (nF g) v:=by
 induction h with
 | any v=>exact .aC (.any v)
 | val v=>exact .aC (.val v)
 | cH b v h=>exact .aC (.cH b v h)
 | nil=>exact .aC .nil
 | ib a c=>exact .aC (.ib a c)
 | sl n cells b off cap us h1 h2 h3 h4 h5 ih=>exact .aC (.sl n cells b off cap us h1 h2 h3 h4 h5)
 | ptr cells b off us h1 h2 h3 h4 ih=>exact .aC (.ptr cells b off us h1 h2 h3 h4)
 | agg cells us hl hr ih=>
  refine .agg _ us (by rw[mW.1];exact hl) fun j g v hg hv=>?_
  obtain⟨g0,h1,rfl⟩:=mW.2 j g hg
  exact ih j g0 v h1 hv
theorem aM.Ct {O:Nat→Prop}{base:Nat}{w:World}{μ:Mu}{g:G}{v:Value}(h:aM O base w μ g v):aM O base w μ (nF g) v:=by
 induction h with
 | aC h=>exact h.Ct
 | fr h=>exact .aC h.wO
 | loc h off b m hm=>exact .loc h off b m hm
 | eD h sz hm=>exact .eD h sz hm
 | aK h sz off n b m cap hm hn hc=>exact .aK h sz off n b m cap hm hn hc
 | dO h sz off0 b m hm hp=>exact .dO h sz off0 b m hm hp
 | agg cells us hl hr ih=>
  refine .agg _ us (by rw[mW.1];exact hl) fun j g v hg hv=>?_
  obtain⟨g0,h1,rfl⟩:=mW.2 j g hg
  exact ih j g0 v h1 hv
 | aU cells us hl hr ih=>
  refine .aU _ us (by rw[mW.1];exact hl) fun j g v hg hv=>?_
  obtain⟨g0,h1,rfl⟩:=mW.2 j g hg
  exact ih j g0 v h1 hv
 | aP f caps us hl hr ih=>
  refine .aP f _ us (by rw[mW.1];exact hl) fun j g v hg hv=>?_
  obtain⟨g0,h1,rfl⟩:=mW.2 j g hg
  exact ih j g0 v h1 hv
 | cA h b m hm=>exact .cA h b m hm
 | kp h i off b m c n hm hk=>exact .kp h i off b m c n hm hk
 | ko h i sz x cap hi=>exact .ko h i sz x cap hi
 | ks h i sz n b m c k cap hm hk hn hc=>exact .ks h i sz n b m c k cap hm hk hn hc
 | eV h b m hm=>exact .eV h b m hm
theorem GM.Ct {P:Program}{f:FuncId}{args:List G}{st:List (Nat×ao)}{R:G}{T:List (Nat×ao)→Prop}(h:GM P f args st (fun g st'=>nF g=R∧T st')):GM P f args st (fun g st'=>g=R∧T st'):=by
 intro X μ w vs h1 h2 h3 h4
 refine(h.returned X μ w vs h1 h2 h3 h4).mono fun e w' ⟨v,r,st',μ',e1,⟨e2,e3⟩,h5,h6⟩=>?_
 exact .inl ⟨v,nF r,st',μ',e1,⟨e2,e3⟩,h5,h6.Ct⟩
def fL:G→Option G
 | .val v=>some (mB v)
 | .cH b=>some (.cH b)
 | .sl n cs=>some (.sl n cs)
 | .ptr cs=>some (.ptr cs)
 | .fr g=>some g
 | .agg gs=>(go gs).map .agg
 | .aP f caps=>(go caps).map (.aP f)
 | _=>none
where go:List G→Option (List G)
 | []=>some []
 | g::r=>match fL g,go r with
  | some g',some r'=>some (g'::r')
  | _,_=>none
theorem pT:∀{gs gs':List G},fL.go gs=some gs'→gs'.length=gs.length∧∀(j:Nat) (g':G),gs'[j]?=some g'→∃g,gs[j]?=some g∧fL g=some g'
 | [],_,h=>by cases h;exact⟨rfl,fun j g h=>by simp at h⟩
 | g::r,gs',h=>by
  simp only[fL.go] at h
  cases h1:fL g with
  | none=>rw[h1] at h;cases h
  | some g1=>
   rw[h1] at h
   cases h2:fL.go r with
   | none=>rw[h2] at h;cases h
   | some r1=>
    rw[h2] at h
    cases h
    obtain⟨h3,h4⟩:=pT h2
    refine⟨by simp[h3],fun j g' hg'=>?_⟩
    cases j with
    | zero=>cases hg';exact⟨g,rfl,h1⟩
    | succ j=>exact h4 j g' hg'
theorem MG {O:Nat→Prop}{base:Nat}{μ:Mu}{w:World}{g g':G}{v:Value}(h:bB O w g v) (hf:fL g=some g'):aM O base w μ g' v:=by
 induction h generalizing g' with
 | any v=>cases hf
 | val v=>
  cases hf
  unfold mB
  split
  ·exact .aC .nil
  ·exact .aC (.val _)
 | cH b v h=>cases hf;exact .aC (.cH b v h)
 | nil=>cases hf;exact .aC .nil
 | ib a c=>cases hf;exact .aC (.ib a c)
 | sl n cells b off cap us h1 h2 h3 h4 h5 ih=>cases hf;exact .aC (.sl n cells b off cap us h1 h2 h3 h4 h5)
 | ptr cells b off us h1 h2 h3 h4 ih=>cases hf;exact .aC (.ptr cells b off us h1 h2 h3 h4)
 | agg cells us hl hr ih=>
  simp only[fL,ay] at hf
  obtain⟨gs',h1,rfl⟩:=hf
  obtain⟨h2,h3⟩:=pT h1
  refine .agg gs' us (by omega) fun j g v hg hv=>?_
  obtain⟨g0,h4,h5⟩:=h3 j g hg
  exact ih j g0 v h4 hv h5
theorem KO {O:Nat→Prop}{base base':Nat}{μ μ':Mu}{w:World}{g g':G}{v:Value}(h:aM O base w μ g v) (hf:fL g=some g'):aM O base' w μ' g' v:=by
 induction h generalizing g' with
 | aC h=>exact MG h hf
 | fr h=>cases hf;exact .aC h.wO
 | agg cells us hl hr ih=>
  simp only[fL,ay] at hf
  obtain⟨gs',h1,rfl⟩:=hf
  obtain⟨h2,h3⟩:=pT h1
  refine .agg gs' us (by omega) fun j g v hg hv=>?_
  obtain⟨g0,h4,h5⟩:=h3 j g hg
  exact ih j g0 v h4 hv h5
 | aP f caps us hl hr ih=>
  simp only[fL,ay] at hf
  obtain⟨gs',h1,rfl⟩:=hf
  obtain⟨h2,h3⟩:=pT h1
  refine .aP f gs' us (by omega) fun j g v hg hv=>?_
  obtain⟨g0,h4,h5⟩:=h3 j g hg
  exact ih j g0 v h4 hv h5
 | _=>cases hf
def mN:G→Bool
 | .val _=>true
 | .cH _=>true
 | .sl _ _=>true
 | .ptr _=>true
 | .fr _=>true
 | .agg gs=>go gs
 | .aU gs=>go gs
 | .aP _ gs=>go gs
 | _=>false
where go:List G→Bool
 | []=>true
 | g::r=>mN g&&go r
theorem sy {gs:List G}(h:mN.go gs=true):∀(j:Nat) (g:G),gs[j]?=some g→mN g=true:=by
 induction gs with
 | nil=>intro j g hg;simp at hg
 | cons x r ih=>
  simp only[mN.go,ag] at h
  intro j g hg
  cases j with
  | zero=>cases hg;exact h.1
  | succ j=>exact ih h.2 j g hg
theorem NU {O O':Nat→Prop}{base base':Nat}{μ μ':Mu}{w:World}{g:G}{v:Value}(h:aM O base w μ g v) (hi:mN g=true) (hO:∀b,O' b→O b) (hb:∀b,b<base'→b<base):aM O' base' w μ' g v:=by
 induction h with
 | aC h=>exact .aC (h.mono (Kept.refl _ _) fun b _ hn ho=>hn (hO b ho))
 | fr h=>
  refine .fr (h.mono (Kept.refl _ _) ?_)
  rintro b _ hn (ho | ho)
  ·exact hn (.inl (hb b ho))
  ·exact hn (.inr (hO b ho))
 | agg cells us hl hr ih=>exact .agg cells us hl fun j g v hg hv=>ih j g v hg hv (sy hi j g hg)
 | aU cells us hl hr ih=>exact .aU cells us hl fun j g v hg hv=>ih j g v hg hv (sy hi j g hg)
 | aP f cells us hl hr ih=>exact .aP f cells us hl fun j g v hg hv=>ih j g v hg hv (sy hi j g hg)
 | _=>cases hi
section
variable {P:Program}{N:Nat}{cx:Cx}{s:St}
variable {ty:TypeId}{pos:String}{after:Array Edge}{guard:Option (Nat×Bool)}{W:List Nat}{d:Nat}
theorem DH {f:FuncId}{vs:List Value}{gs gs':List G}{Q:G→List (Nat×ao)→Prop}{μ:Mu}{a:Act}{w:World}(hr:Rel N cx μ s a w) (hv:dS fL gs=some gs')
  (hvs:vs.length=gs.length) (hrep:∀(j:Nat) (g:G) (v:Value),gs[j]?=some g→vs[j]?=some v→aM (cx.O s.st μ) cx.base w μ g v)
  (hcon:GM P f gs' [] Q) (hres:∀r st',Q r st'→mN r=true∧st'=[]):
  Calls P f vs.toArray w fun e w'=>∃v r st',e=.returned v∧Q r st'∧Rel N cx μ s a w'∧aM (cx.O s.st μ) cx.base w' μ r v∧Step W s.st μ s.st μ w w':=by
 obtain⟨h1,h2⟩:=pY hv
 have hX:∀b,cx.O s.st μ b→b<w.heap.size:=fun b hb=>by
  rcases hb with hb | hb
  ·have:=hr.st.ed b hb;have:=hr.st.hb;omega
  ·exact pC hr.st hb
 refine(hcon.returned (cx.O s.st μ) (fun _=>none) w vs hX (zk hX (hr.st.Rs fun _ h=>(nU h).elim)) (by omega) fun j g v hg hv=>?_).mono ?_
 ·obtain⟨g0,h3,h4⟩:=h2 j g hg
  have:=KO (base':=w.heap.size) (μ':=fun _=>none) (hrep j g0 v h3 hv) h4
  exact this.mono (Kept.refl _ _) (fun b _ hn ho=>ho.elim hn nU) (aq _)
 ·rintro e w' ⟨v,r,st',μ',rfl,hq,hst,hrv⟩
  have hkeep:∀b,b<w.heap.size→w'.heap[b]?=w.heap[b]?:=fun b hb=>hst.cW b hb nU
  obtain⟨hf,hs⟩:=hres r st' hq
  subst hs
  refine⟨v,r,[],rfl,hq,hr.kept hst.hb hkeep hst.os hst.tape hst.output,?_,⟨hst.hb,fun b hb _=>hkeep b hb,fun h k c m b hw h1 h2 hi=>.inl ⟨h,k,c,m,hw,h1,h2,hi⟩⟩⟩
  exact NU hrv hf (fun b hb=>.inl hb) (fun b hb=>bW hb hr.st.hb)
theorem EF.U7 {f:FuncId}{xs:Array Operand}{ts:Array TypeId}{gs gs':List G}{Q:G→List (Nat×ao)→Prop}(hc:∀args w,(callFunc f args).run P w=.ok (.enter f args) w)
  (hx:tc s xs.toList=some gs) (hv:dS fL gs=some gs') (hcon:GM P f gs' [] Q) (hres:∀r st',Q r st'→mN r=true∧st'=[]):
  bJ P W s ⟨some d,.call ⟨.value (.func f),xs,ts⟩,ty,pos,after,guard⟩ (fun s'=>∃r st',Q r st'∧s'=s.put d r):=by
 refine⟨(fun _ h=>by cases h),?_⟩
 intro N cx μ a w hr hN K Q' hK
 obtain⟨h1,h2⟩:=lL hx
 have hcall:=DH (vs:=xs.toList.map a.eval) (W:=W) hr hv (by simp[h1]) (fun j g v hg hv=>by
  obtain⟨x,hxj,he⟩:=h2 j g hg
  rw[ar,hxj] at hv
  cases hv
  exact hr.ev he) hcon hres
 unfold Oper.wp
 have:(execOp a.eval ⟨some d,.call ⟨.value (.func f),xs,ts⟩,ty,pos,after,guard⟩).run P w=.ok (.enter f (xs.toList.map a.eval).toArray) w:=by
  have e:xs.map a.eval=(xs.toList.map a.eval).toArray:=by rw[←fD]
  simp[execOp,resolve,invoke,Deferred.ofValue,Act.eval,hc,e]
 rw[this]
 refine hcall.mono ?_
 rintro e w' ⟨v,r,st',rfl,hq,hr',hrv,hst⟩
 exact hK μ _ _ w' (hr'.put (hN d rfl) hrv) ⟨r,st',hq,rfl⟩ hst
end
end Go.AM
/-
 AM,part W:lists without references.
-/
namespace Go.AM
class Flat (α:Type) [aR α]:Prop where
 flat:∀(a:α) (g:G),g∈aR.cells a→∃v,g=.val v
instance:Flat Int:=⟨fun a g h=>by simp[aR.cells] at h;exact⟨_,h⟩⟩
instance:Flat Bool:=⟨fun a g h=>by simp[aR.cells] at h;exact⟨_,h⟩⟩
instance:Flat ByteArray:=⟨fun a g h=>by simp[aR.cells] at h;exact⟨_,h⟩⟩
section
variable {α:Type}[aR α] [Flat α]
variable {P:Program}{N:Nat}{cx:Cx}{Q:Exit→St→Prop}{s:St}{ops:Array Oper}{rest:List Oper}
theorem Rel.si {μ:Mu}{a:Act}{w:World}(h:Rel N cx μ s a w){hh:Nat}{k:ao}{l:List α}(hk:az s.st hh=some k) (hc:k.cells=db l) (hp:k.pure=true) (hlp:k.lp=none):
  Rel N cx μ {fr:=s.fr,st:=cC s.st hh {k with fresh:=true},df:=s.df} a w:=by
 refine h.wJ hk rfl rfl rfl (aq _) hlp hlp fun j g' hg'=>⟨g',hg',fun v hv=>?_⟩
 simp only at hg'
 rw[hc] at hg'
 obtain⟨x,_,hx⟩:=oU.1 (aL hg')
 obtain⟨u,rfl⟩:=Flat.flat x g' hx
 unfold bZ at hv⊢
 simp only[hp] at hv⊢
 cases hv
 exact .val _
theorem GL.si (hh:Nat){k:ao}{l:List α}(hk:az s.st hh=some k) (hc:k.cells=db l) (hp:k.pure=true) (h:GL P N cx ops Q rest {fr:=s.fr,st:=cC s.st hh {k with fresh:=true},df:=s.df}) (hlp:k.lp=none:=by rfl):GL P N cx ops Q rest s:=
 fun μ a w hr=>h μ a w (hr.si hk hc hp hlp)
theorem dI.si {W:List Nat}{aY:Nat}{listed:Array Bool}(hh:Nat){k:ao}{l:List α}(hk:az s.st hh=some k) (hc:k.cells=db l) (hp:k.pure=true)
  (h:dI P N cx ops Q W aY listed {fr:=s.fr,st:=cC s.st hh {k with fresh:=true},df:=s.df}) (hlp:k.lp=none:=by rfl):dI P N cx ops Q W aY listed s:=fun ws Wb μ a w hr hS hW=>
 h ws Wb μ a w (hr.si hk hc hp hlp) hS fun x k' c m b h1 h2 h3 h4=>by
  rcases cF hk h2 with ⟨rfl,rfl⟩ | ⟨_,h2⟩
  ·exact hW x k c m b h1 hk h3 h4
  ·exact hW x k' c m b h1 h2 h3 h4
end
section
variable {P:Program}{N:Nat}{cx:Cx}{Q:Exit→St→Prop}{s:St}{ops:Array Oper}{rest:List Oper}
end
section
variable {P:Program}{N:Nat}{cx:Cx}{Q:Exit→St→Prop}{s:St}{ops:Array Oper}
def va (P:Program) (N:Nat) (cx:Cx) (ops:Array Oper) (Q:Exit→St→Prop) (W:List Nat) (aY:Nat) (listed:Array Bool) (s:St) (i:Nat):Prop:=
 ∀(ws:World) (Wb:Nat→Prop) (μ:Mu) (a:Act) (w:World),Rel N cx μ s a w→Sw ws Wb w→(∀h k c m b,h∈W→az s.st h=some k→μ h=some (c,m)→In b c m→Wb b∨ws.heap.size≤b)→
  wpOp P ops (lift N cx Q) i (fun a' w'=>Sw ws Wb w'∧wpAnyH P .any ops (lift N cx Q) (Sw ws Wb) aY (listed.setIfInBounds i true) a' w') a w
theorem va.y {W:List Nat}{aY:Nat}{listed:Array Bool}(i:Nat){o:Oper}{d:Nat}{g:G}(hi:ops[i]?=some o) (hw:cT ops s o.guard=some true) (hd:o.dst=some d) (hN:d<N) (hy:eQ P [] s o g)
  (h:dI P N cx ops Q W aY (listed.setIfInBounds i true) (s.put d g)):va P N cx ops Q W aY listed s i:=by
 intro ws Wb μ a w hrel hS hW
 obtain⟨v,hv,hrun⟩:=hy N cx μ a w hrel
 have hrun:=hrun w (aq _) (fun _ _ _=>rfl)
 unfold wpOp
 simp only[hi]
 rw[if_pos (dD hrel hw)]
 refine .inl ?_
 unfold Oper.wp
 rw[hrun]
 show Sw ws Wb w∧_
 refine⟨hS,?_⟩
 rw[hd]
 exact h ws Wb μ _ w (hrel.put hN hv) hS hW
theorem va.e {W:List Nat}{aY:Nat}{listed:Array Bool}(i:Nat){o:Oper}{T:St→Prop}(hi:ops[i]?=some o) (hw:cT ops s o.guard=some true) (hN:∀d,o.dst=some d→d<N) (he:bJ P W s o T)
  (h:∀s',T s'→dI P N cx ops Q W aY (listed.setIfInBounds i true) s'):va P N cx ops Q W aY listed s i:=by
 intro ws Wb μ a w hrel hS hW
 unfold wpOp
 simp only[hi]
 rw[if_pos (dD hrel hw)]
 have:=he.2 N cx μ a w hrel hN (fun a' w'=>Sw ws Wb w'∧wpAnyH P .any ops (lift N cx Q) (Sw ws Wb) aY (listed.setIfInBounds i true) a' w') (lift N cx Q) ?_
 ·exact .inl this
 ·intro μ' s' a' w' hrel' ht hst
  have hS':Sw ws Wb w':=by
   refine⟨cm hS.size hst.size,fun b hb hn=>?_⟩
   rw[hst.block b (bW hb hS.size) ?_]
   ·exact hS.block b hb hn
   ·intro h k c m h1 h2 h3 hi
    rcases hW h k c m b h1 h2 h3 hi with h4 | h4
    ·exact hn h4
    ·omega
  refine⟨hS',h s' ht ws Wb μ' a' w' hrel' hS' ?_⟩
  intro h k' c m b h1 h2 h3 hi
  rcases hst.hand h k' c m b h1 h2 h3 hi with ⟨h0,k,c0,m0,hw0,h4,h5,h6⟩ | h4
  ·exact hW h0 k c0 m0 b hw0 h4 h5 h6
  ·exact .inr (cm hS.size h4)
theorem va.eP {W:List Nat}{aY:Nat}{listed:Array Bool}(i:Nat){o:Oper}{T:St→Prop}{Tp:List PanicEntry→St→Prop}(hi:ops[i]?=some o) (hw:cT ops s o.guard=some true) (hN:∀d,o.dst=some d→d<N) (he:kJ P W s o T Tp)
  (h:∀s',T s'→dI P N cx ops Q W aY (listed.setIfInBounds i true) s') (hp:∀ch s',Tp ch s'→Q (.panic ch) s'):va P N cx ops Q W aY listed s i:=by
 intro ws Wb μ a w hrel hS hW
 unfold wpOp
 simp only[hi]
 rw[if_pos (dD hrel hw)]
 have:=he.2 N cx μ a w hrel hN (fun a' w'=>Sw ws Wb w'∧wpAnyH P .any ops (lift N cx Q) (Sw ws Wb) aY (listed.setIfInBounds i true) a' w') (lift N cx Q) ?_ (fun ch μ' s' w' hr' ht=>⟨μ',s',hr',hp ch s' ht⟩)
 ·exact .inl this
 ·intro μ' s' a' w' hrel' ht hst
  have hS':Sw ws Wb w':=by
   refine⟨cm hS.size hst.size,fun b hb hn=>?_⟩
   rw[hst.block b (bW hb hS.size) ?_]
   ·exact hS.block b hb hn
   ·intro h k c m h1 h2 h3 hi
    rcases hW h k c m b h1 h2 h3 hi with h4 | h4
    ·exact hn h4
    ·omega
  refine⟨hS',h s' ht ws Wb μ' a' w' hrel' hS' ?_⟩
  intro h k' c m b h1 h2 h3 hi
  rcases hst.hand h k' c m b h1 h2 h3 hi with ⟨h0,k,c0,m0,hw0,h4,h5,h6⟩ | h4
  ·exact hW h0 k c0 m0 b hw0 h4 h5 h6
  ·exact .inr (cm hS.size h4)
def DV (P:Program) (N:Nat) (cx:Cx) (ops:Array Oper) (Q:Exit→St→Prop) (W:List Nat) (aY:Nat) (listed:Array Bool) (s:St):List Nat→Prop
 | []=>True
 | i::r=>va P N cx ops Q W aY listed s i∧DV P N cx ops Q W aY listed s r
theorem DV.get {W:List Nat}{aY:Nat}{listed:Array Bool}:∀{rs:List Nat},DV P N cx ops Q W aY listed s rs→∀i∈rs,va P N cx ops Q W aY listed s i
 | [],_,_,h=>by cases h
 | j::r,⟨h1,h2⟩,i,h=>by
  rcases bf.1 h with rfl | h
  ·exact h1
  ·exact DV.get h2 i h
theorem dI.any {W:List Nat}{aY:Nat}{listed:Array Bool}(i:Nat) (r:List Nat) (hr:Region.ready .any ops listed=i::r) (h:DV P N cx ops Q W aY listed s (i::r)):dI P N cx ops Q W (aY+1) listed s:=by
 intro ws Wb μ a w hrel hS hW
 refine wpAnyH_all hr (by simp) fun j hj=>h.get j hj ws Wb μ a w hrel hS hW
end
end Go.AM
/-
 AM,part X:calls to which blocks of the caller's own are lent:how handles are told anew,there and back.
-/
namespace Go.AM
def dq:List Nat→Nat→Option Nat
 | [],_=>none
 | x::r,h=>bif Nat.beq x h then some 0 else(dq r h).map (·+1)
theorem ee:∀{H:List Nat}{h i:Nat},dq H h=some i→H[i]?=some h
 | [],_,_,e=>by cases e
 | x::r,h,i,e=>by
  simp only[dq] at e
  cases hb:Nat.beq x h with
  | true=>rw[hb] at e;cases e;have:=af hb;subst this;rfl
  | false=>
   rw[hb] at e
   obtain⟨n,h1,h2⟩:=ay.1 e
   subst h2
   exact ee (H:=r) h1
theorem oL:∀{H:List Nat}{h:Nat},dq H h=none→h∉H
 | [],_,_=>fun h=>by cases h
 | x::r,h,e=>by
  simp only[dq] at e
  cases hb:Nat.beq x h with
  | true=>rw[hb] at e;cases e
  | false=>
   rw[hb] at e
   intro hm
   rcases bf.1 hm with rfl | hm
   ·rw[aQ] at hb;cases hb
   ·exact oL (Option.map_eq_none_iff.1 e) hm
def bN (H:List Nat) (stv:List (Nat×ao)):G→Option G
 | .loc h off=>match dq H h with
  | some i=>some (.loc (1000+i) off)
  | none=>view 4 stv (.loc h off)
 | .aK h sz off m=>match dq H h with
  | some i=>some (.aK (1000+i) sz off m)
  | none=>view 4 stv (.aK h sz off m)
 | .cA h=>match dq H h with
  | some i=>some (.cA (1000+i))
  | none=>none
 | .eV h=>match dq H h with
  | some i=>some (.eV (1000+i))
  | none=>none
 | .kp h j off=>match dq H h with
  | some i=>some (.kp (1000+i) j off)
  | none=>none
 | .ks h j sz n=>match dq H h with
  | some i=>some (.ks (1000+i) j sz n)
  | none=>none
 | .agg gs=>(go gs).map .agg
 | .aP f gs=>(go gs).map (.aP f)
 | .val v=>some (mB v)
 | .cH b=>some (.cH b)
 | .sl n cs=>some (.sl n cs)
 | .ptr cs=>some (.ptr cs)
 | .fr g=>some g
 | _=>none
where go:List G→Option (List G)
 | []=>some []
 | g::r=>match bN H stv g,go r with
  | some g',some r'=>some (g'::r')
  | _,_=>none
theorem mr {H:List Nat}{stv:List (Nat×ao)}:∀{gs gs':List G},bN.go H stv gs=some gs'→gs'.length=gs.length∧∀(j:Nat) (g':G),gs'[j]?=some g'→∃g,gs[j]?=some g∧bN H stv g=some g'
 | [],_,h=>by cases h;exact⟨rfl,fun j g h=>by simp at h⟩
 | g::r,gs',h=>by
  simp only[bN.go] at h
  cases h1:bN H stv g with
  | none=>rw[h1] at h;cases h
  | some g1=>
   rw[h1] at h
   cases h2:bN.go H stv r with
   | none=>rw[h2] at h;cases h
   | some r1=>
    rw[h2] at h
    cases h
    obtain⟨h3,h4⟩:=mr h2
    refine⟨by simp[h3],fun j g' hg'=>?_⟩
    cases j with
    | zero=>cases hg';exact⟨g,rfl,h1⟩
    | succ j=>exact h4 j g' hg'
def qZ (H:List Nat) (stv:List (Nat×ao)) (k:ao):Option ao:=
 bif k.pure then some {k with dn:=false,fresh:=false} else match bN.go H stv k.cells with
  | some cs=>some {k with dn:=false,fresh:=false,cells:=cs}
  | none=>none
theorem LA {H:List Nat}{stv:List (Nat×ao)}{k k':ao}(h:qZ H stv k=some k'):k'.dn=false:=by
 unfold qZ at h
 cases hp:k.pure with
 | true=>rw[hp] at h;cases h;rfl
 | false=>
  rw[hp,cond_false] at h
  split at h
  ·cases h;rfl
  ·cases h
def ei (H:List Nat) (stv st:List (Nat×ao)):List Nat→Nat→Option (List (Nat×ao))
 | [],_=>some []
 | h::r,i=>match az st h with
  | some k=>match qZ H stv k,ei H stv st r (i+1) with
   | some k',some r'=>some ((1000+i,k')::r')
   | _,_=>none
  | none=>none
theorem o8 {H:List Nat}{stv st:List (Nat×ao)}:∀{r:List Nat}{i:Nat}{cP:List (Nat×ao)},ei H stv st r i=some cP→∀{j:Nat}{k':ao},az cP j=some k'→
  ∃n h k,j=1000+(i+n)∧r[n]?=some h∧az st h=some k∧qZ H stv k=some k'
 | [],_,_,e,_,_,h=>by cases e;cases h
 | x::r,i,cP,e,j,k',h=>by
  simp only[ei] at e
  cases hk:az st x with
  | none=>rw[hk] at e;cases e
  | some k=>
   rw[hk] at e
   dsimp only at e
   cases h1:qZ H stv k with
   | none=>rw[h1] at e;cases e
   | some k1=>
    rw[h1] at e
    cases h2:ei H stv st r (i+1) with
    | none=>rw[h2] at e;cases e
    | some r'=>
     rw[h2] at e
     cases e
     simp only[az] at h
     cases hb:Nat.beq (1000+i) j with
     | true=>
      rw[hb] at h
      cases h
      exact⟨0,x,k,(af hb).symm,rfl,hk,h1⟩
     | false=>
      rw[hb] at h
      obtain⟨n,y,k2,e1,e2,e3,e4⟩:=o8 h2 h
      exact⟨n+1,y,k2,by omega,e2,e3,e4⟩
theorem C5 {H:List Nat}{stv st:List (Nat×ao)}:∀{r:List Nat}{i:Nat}{cP:List (Nat×ao)},ei H stv st r i=some cP→∀{n h:Nat},r[n]?=some h→(∃k',az cP (1000+(i+n))=some k')∧∃k,az st h=some k
 | [],_,_,_,_,_,h=>by cases h
 | x::r,i,cP,e,n,y,h=>by
  simp only[ei] at e
  cases hk:az st x with
  | none=>rw[hk] at e;cases e
  | some k=>
   rw[hk] at e
   dsimp only at e
   cases h1:qZ H stv k with
   | none=>rw[h1] at e;cases e
   | some k1=>
    rw[h1] at e
    cases h2:ei H stv st r (i+1) with
    | none=>rw[h2] at e;cases e
    | some r'=>
     rw[h2] at e
     cases e
     cases n with
     | zero=>cases h;exact⟨⟨k1,by rw[dJ,dz]⟩,k,hk⟩
     | succ n=>
      obtain⟨⟨k',h3⟩,h4⟩:=C5 h2 (n:=n) (h:=y) h
      refine⟨⟨k',?_⟩,h4⟩
      rw[aI _ _ (by omega),show 1000+(i+(n+1))=1000+(i+1+n) by omega]
      exact h3
def jO (H:List Nat) (μ:Mu):Mu:=fun j=>bif pinned j then(H[j-1000]?).bind μ else none
theorem qR (i:Nat):pinned (1000+i)=true:=Nat.ble_eq_true_of_le (by omega)
theorem km {H:List Nat}{μ:Mu}{i h:Nat}(e:H[i]?=some h):jO H μ (1000+i)=μ h:=by
 unfold jO
 rw[qR,cond_true,show 1000+i-1000=i by omega,e]
 rfl
def fo (H:List Nat):List (Nat×ao)→List (Nat×ao)
 | []=>[]
 | (h,k)::r=>match dq H h with
  | some _=>fo H r
  | none=>(h,k)::fo H r
theorem s5 {H:List Nat}{h:Nat}{k:ao}:∀{st:List (Nat×ao)},az (fo H st) h=some k→dq H h=none∧az st h=some k
 | [],e=>by cases e
 | (x,k')::r,e=>by
  simp only[fo] at e
  cases hx:dq H x with
  | some i=>
   rw[hx] at e
   obtain⟨h1,h2⟩:=s5 e
   refine⟨h1,?_⟩
   rw[aI _ _ fun e=>by subst e;rw[hx] at h1;cases h1]
   exact h2
  | none=>
   rw[hx] at e
   simp only[az] at e⊢
   cases hb:Nat.beq x h with
   | true=>
    rw[hb] at e
    have:=af hb
    subst this
    exact⟨hx,e⟩
   | false=>rw[hb] at e;exact s5 e
theorem xK {H:List Nat}{h:Nat}{k:ao}(hi:dq H h=none):∀{st:List (Nat×ao)},az st h=some k→az (fo H st) h=some k
 | [],e=>by cases e
 | (x,k')::r,e=>by
  simp only[fo]
  simp only[az] at e
  cases hb:Nat.beq x h with
  | true=>
   rw[hb] at e
   have:=af hb
   subst this
   rw[hi]
   simp only[az,aQ]
   exact e
  | false=>
   rw[hb] at e
   have:=xK hi (st:=r) e
   split
   ·exact this
   ·simp only[az,hb];exact this
def jn (cx:Cx) (st:List (Nat×ao)) (μ:Mu) (H:List Nat) (vw:Bool):Nat→Prop:=fun b=>cx.X b∨(vw=false∧Own (fo H st) μ b)
def dl (st:List (Nat×ao)) (H:List Nat) (vw:Bool):List (Nat×ao):=bif vw then fo H st else[]
section
variable {P:Program}{N:Nat}{cx:Cx}{s:St}
theorem jH {st cP stv:List (Nat×ao)}{H:List Nat}{μ:Mu}(hls:ei H stv st H 0=some cP){b:Nat}(ho:Own cP (jO H μ) b):∃(i h:Nat) (k:ao) (c:Nat) (m:Mm),H[i]?=some h∧az st h=some k∧μ h=some (c,m)∧In b c m:=by
 obtain⟨j,k',c,m,h1,h2,hi⟩:=ho
 obtain⟨n,h,k,rfl,e2,e3,_⟩:=o8 hls h1
 rw[cr,km e2] at h2
 exact⟨n,h,k,c,m,e2,e3,h2,hi⟩
theorem wN {st:List (Nat×ao)}{H:List Nat}{μ:Mu}{b:Nat}(ho:Own (fo H st) μ b):∃h k c m,dq H h=none∧az st h=some k∧μ h=some (c,m)∧In b c m:=by
 obtain⟨h,k,c,m,h1,h2,hi⟩:=ho
 obtain⟨h3,h4⟩:=s5 h1
 exact⟨h,k,c,m,h3,h4,h2,hi⟩
theorem ni {H:List Nat}{i h:Nat}(e:H[i]?=some h):h∈H:=aL e
theorem sq {st:List (Nat×ao)}{H:List Nat}{μ:Mu}{w:World}(hst:bP cx μ st w){i h h' b c c':Nat}{m m':Mm}{k k':ao}(e:H[i]?=some h) (hk:az st h=some k) (hm:μ h=some (c,m)) (hi:In b c m) (e':dq H h'=none) (hk':az st h'=some k') (hm':μ h'=some (c',m')) (hi':In b c' m'):False:=by
 have:=hst.cR h h' k k' b c m c' m' hk hk' hm hm' hi hi'
 subst this
 exact oL e' (ni e)
theorem Ri {st cP stv:List (Nat×ao)}{H:List Nat}{μ:Mu}(vw:Bool) (hls:ei H stv st H 0=some cP) (w:World) (b:Nat) (ho:(dw (jn cx st μ H vw) cP (jO H μ) w).O cP (jO H μ) b):cx.O st μ b:=by
 rcases ho with (ho | ⟨_,ho⟩) | ho
 ·exact .inl ho
 ·obtain⟨h,k,c,m,_,h2,h3,hi⟩:=wN ho;exact .inr ⟨h,k,c,m,h2,h3,hi⟩
 ·obtain⟨i,h,k,c,m,_,h2,h3,hi⟩:=jH hls ho;exact .inr ⟨h,k,c,m,h2,h3,hi⟩
theorem o9 {st cP:List (Nat×ao)}{H:List Nat}{vw:Bool}{μ:Mu}{w:World}(hst:bP cx μ st w) (hls:ei H (dl st H vw) st H 0=some cP){g g':G}{v:Value}(hv:aM (cx.O st μ) cx.base w μ g v)
  (hg:bN H (dl st H vw) g=some g'):aM ((dw (jn cx st μ H vw) cP (jO H μ) w).O cP (jO H μ)) w.heap.size w (jO H μ) g' v:=by
 have hO:=Ri (cx:=cx) (μ:=μ) vw hls w
 generalize hOd:(dw (jn cx st μ H vw) cP (jO H μ) w).O cP (jO H μ)=O' at hO
 have hstv:∀h k,az (dl st H vw) h=some k→vw=true∧dq H h=none∧az st h=some k:=by
  intro h k hk
  unfold dl at hk
  cases vw with
  | true=>exact⟨rfl,s5 hk⟩
  | false=>cases hk
 have look:∀{g g':G}{v:Value},aM (cx.O st μ) cx.base w μ g v→view 4 (dl st H vw) g=some g'→bB O' w g' v:=by
  intro g g' v hv hg
  refine xn (fun h k hk=>hst.dB h k (hstv h k hk).2.2) (fun h k b m x hk hm hi' ho=>?_) hO 4 hv hg
  obtain⟨e0,e1,e2⟩:=hstv h k hk
  rw[←hOd] at ho
  rcases ho with (ho | ⟨ho,_⟩) | ho
  ·exact(hst.bY h k b m x e2 hm hi').1 ho
  ·rw[e0] at ho;cases ho
  ·obtain⟨i,h',k',c',m',h1,h2,h3,hi⟩:=jH hls ho
   exact sq hst h1 h2 h3 hi e1 e2 hm hi'
 have aC:∀{g:G}{v:Value},bB (cx.O st μ) w g v→∀{g'},bN H (dl st H vw) g=some g'→aM O' w.heap.size w (jO H μ) g' v:=by
  intro g v h
  induction h with
  | any v=>intro g' hg;cases hg
  | val v=>intro g' hg;cases hg;exact .aC (sT v)
  | cH b v h=>intro g' hg;cases hg;exact .aC (.cH b v h)
  | nil=>intro g' hg;cases hg;exact .aC .nil
  | ib a c=>intro g' hg;cases hg;exact .aC (.ib a c)
  | sl n cells b off cap us h1 h2 h3 h4 h5 ih=>intro g' hg;cases hg;exact .aC ((bB.sl n cells b off cap us h1 h2 h3 h4 h5).mono (Kept.refl _ _) fun b _ hn ho=>hn (hO b ho))
  | ptr cells b off us h1 h2 h3 h4 ih=>intro g' hg;cases hg;exact .aC ((bB.ptr cells b off us h1 h2 h3 h4).mono (Kept.refl _ _) fun b _ hn ho=>hn (hO b ho))
  | agg cells us hl hr ih=>
   intro g' hg
   simp only[bN,ay] at hg
   obtain⟨gs',h1,rfl⟩:=hg
   obtain⟨h2,h3⟩:=mr h1
   refine .agg gs' us (by omega) fun j g v hg hv=>?_
   obtain⟨g0,h4,h5⟩:=h3 j g hg
   exact ih j g0 v h4 hv h5
 induction hv generalizing g' with
 | aC h=>exact aC h hg
 | fr h=>cases hg;exact .aC (h.wO.mono (Kept.refl _ _) fun b _ hn ho=>hn (hO b ho))
 | loc h off b m hm=>
  simp only[bN] at hg
  cases hi:dq H h with
  | some i=>rw[hi] at hg;cases hg;exact .loc _ _ b m (by rw[km (ee hi)];exact hm)
  | none=>rw[hi] at hg;exact .aC (look (.loc h off b m hm) hg)
 | eD h sz hm=>
  simp only[bN] at hg
  cases hi:dq H h with
  | some i=>rw[hi] at hg;cases hg;exact .eD _ _ (by rw[km (ee hi)];exact hm)
  | none=>rw[hi] at hg;exact .aC (look (.eD h sz hm) hg)
 | aK h sz off n b m cap hm hn hc=>
  simp only[bN] at hg
  cases hi:dq H h with
  | some i=>rw[hi] at hg;cases hg;exact .aK _ _ _ _ b m cap (by rw[km (ee hi)];exact hm) hn hc
  | none=>rw[hi] at hg;exact .aC (look (.aK h sz off n b m cap hm hn hc) hg)
 | dO h sz off0 b m hm hpos=>
  simp only[bN] at hg
  cases hi:dq H h with
  | some i=>rw[hi] at hg;cases hg;exact .dO _ _ off0 b m (by rw[km (ee hi)];exact hm) hpos
  | none=>rw[hi] at hg;exact .aC (look (.dO h sz off0 b m hm hpos) hg)
 | agg cells us hl hr ih=>
  simp only[bN,ay] at hg
  obtain⟨gs',h1,rfl⟩:=hg
  obtain⟨h2,h3⟩:=mr h1
  refine .agg gs' us (by omega) fun j g v hg hv=>?_
  obtain⟨g0,h4,h5⟩:=h3 j g hg
  exact ih j g0 v h4 hv h5
 | aU cells us hl hr ih=>cases hg
 | aP f caps us hl hr ih=>
  simp only[bN,ay] at hg
  obtain⟨gs',h1,rfl⟩:=hg
  obtain⟨h2,h3⟩:=mr h1
  refine .aP f gs' us (by omega) fun j g v hg hv=>?_
  obtain⟨g0,h4,h5⟩:=h3 j g hg
  exact ih j g0 v h4 hv h5
 | cA h b m hm=>
  simp only[bN] at hg
  cases hi:dq H h with
  | some i=>rw[hi] at hg;cases hg;exact .cA _ b m (by rw[km (ee hi)];exact hm)
  | none=>rw[hi] at hg;cases hg
 | eV h b m hm=>
  simp only[bN] at hg
  cases hi:dq H h with
  | some i=>rw[hi] at hg;cases hg;exact .eV _ b m (by rw[km (ee hi)];exact hm)
  | none=>rw[hi] at hg;cases hg
 | kp h j off b m c n hm hk=>
  simp only[bN] at hg
  cases hi:dq H h with
  | some i=>rw[hi] at hg;cases hg;exact .kp _ j off b m c n (by rw[km (ee hi)];exact hm) hk
  | none=>rw[hi] at hg;cases hg
 | ko h j sz x cap hb=>
  simp only[bN] at hg
  cases hi:dq H h with
  | some i=>rw[hi] at hg;cases hg;exact .ko _ j sz x cap hb
  | none=>rw[hi] at hg;cases hg
 | ks h j sz n b m c k cap hm hk hn hc=>
  simp only[bN] at hg
  cases hi:dq H h with
  | some i=>rw[hi] at hg;cases hg;exact .ks _ j sz n b m c k cap (by rw[km (ee hi)];exact hm) hk hn hc
  | none=>rw[hi] at hg;cases hg
theorem BM {st cP:List (Nat×ao)}{H:List Nat}{vw:Bool}{μ:Mu}{w:World}(hst:bP cx μ st w) (hls:ei H (dl st H vw) st H 0=some cP) (cV:H.Nodup):
  bP (dw (jn cx st μ H vw) cP (jO H μ) w) (jO H μ) cP w:=by
 have hO:=Ri (cx:=cx) (μ:=μ) vw hls w
 refine {dB:=?_,cR:=?_,bY:=?_,ew:=fun _ _ _ _=>.inl rfl,ed:=?_,hb:=aq _,os:=rfl,tape:=rfl,output:=rfl,gl:=hst.Rs fun b hb=>(by
  obtain⟨i,h,k,c,m',q1,q2,q3,q4⟩:=jH hls hb
  obtain⟨_,z2,_⟩:=hst.bY h k c m' b q2 q3 q4
  exact z2),cW:=fun _ _ _=>rfl}
 ·intro j k' hk'
  obtain⟨n,h,k,rfl,e2,e3,e4⟩:=o8 hls hk'
  rw[cr,km e2]
  have hb:=hst.dB h k e3
  unfold qZ at e4
  cases hp:k.pure with
  | true=>
   rw[hp] at e4
   cases e4
   cases hm:μ h with
   | none=>rw[hm] at hb;exact hb.wR rfl rfl hp.symm
   | some bm=>
    obtain⟨b,m⟩:=bm
    rw[hm] at hb
    cases hl:k.lp with
    | none=>
     obtain⟨cs,h1,h2,h3,h4,h5,h6⟩:=hb.cells hl
     refine .mk rfl (hb.l9 hl) ⟨cs,h1,h2,h3,(fun h=>by cases h),h5,fun j g hg=>?_⟩
     obtain⟨v,hv,hrv⟩:=h6 j g hg
     refine⟨v,hv,?_⟩
     unfold bZ at hrv⊢
     simp only[hp] at hrv⊢
     have hrv:=hrv.flag (f':=false) (fun h=>by cases h)
     exact bB.mono hrv (Kept.refl _ _) fun b _ hn ho=>hn (hO b ho)
    | some kd=>
     cases kd with
     | loop lp=>
      obtain⟨D,vs,_,_,_,h4,_⟩:=(aS.loop hl).1 hb
      rw[hp] at h4;cases h4
     | deep d=>
      obtain⟨h1,h2,h3,h4⟩:=(aS.deep hl).1 hb
      refine(aS.deep rfl).2 ⟨d.mono h1 (Kept.refl _ _) (fun x _ hn ho=>hn ?_) (fun _ _=>rfl),rfl,h3,fun h=>by cases h⟩
      cases k.fresh with
      | false=>exact hO x ho
      | true=>exact .inr (hO x ho)
  | false=>
   rw[hp,cond_false] at e4
   cases hgo:bN.go H (dl st H vw) k.cells with
   | none=>rw[hgo] at e4;cases e4
   | some cs'=>
    rw[hgo] at e4
    cases e4
    obtain⟨q1,q2⟩:=mr hgo
    cases hm:μ h with
    | none=>
     rw[hm] at hb
     obtain⟨hb1,hb2⟩:=hb
     refine⟨aT (by simp only;rw[q1,hb1];rfl),?_⟩
     dsimp only
     split at hb2
     ·trivial
     ·exact hb2.elim
     ·rw[hp] at hb2;cases hb2.2
    | some bm=>
     obtain⟨b,m⟩:=bm
     rw[hm] at hb
     cases hl:k.lp with
     | none=>
      obtain⟨cs,h1,h2,h3,h4,h5,h6⟩:=hb.cells hl
      refine .mk rfl (hb.l9 hl) ⟨cs,h1,h2,by simp only;omega,(fun h=>by cases h),h5,fun j g hg=>?_⟩
      obtain⟨g0,q3,q4⟩:=q2 j g hg
      obtain⟨v,hv,hrv⟩:=h6 j g0 q3
      refine⟨v,hv,?_⟩
      unfold bZ at hrv⊢
      simp only[hp] at hrv⊢
      exact o9 hst hls hrv q4
     | some kd=>
      cases kd with
      | deep d=>have:=((aS.deep hl).1 hb).2.1;rw[hp] at this;cases this
      | loop lp=>
       obtain⟨D,vs,h1,h2,h3,h4,h5⟩:=(aS.loop hl).1 hb
       refine(aS.loop rfl).2 ⟨D,vs,h1,h2,rfl,rfl,fun j t g ht hg=>?_⟩
       obtain⟨g0,q3,q4⟩:=q2 j g hg
       obtain⟨v,hv,hrv⟩:=h5 j t g0 ht q3
       exact⟨v,hv,o9 hst hls hrv q4⟩
 ·intro j j' k1 k2 y b m b' m' h1 h2 h3 h4 hi hi'
  obtain⟨n,h,k,rfl,e2,e3,_⟩:=o8 hls h1
  obtain⟨n',h',k',rfl,e2',e3',_⟩:=o8 hls h2
  rw[cr,km e2] at h3
  rw[cr,km e2'] at h4
  have:=hst.cR h h' k k' y b m b' m' e3 e3' h3 h4 hi hi'
  subst this
  have:=(List.getElem?_inj (aw.1 e2).1 cV).1 (e2.trans e2'.symm)
  subst this
  rfl
 ·intro j k1 b m y h1 h2 hi
  obtain⟨n,h,k,rfl,e2,e3,e4⟩:=o8 hls h1
  have hA:Own cP (jO H μ) y:=⟨_,_,_,_,h1,h2,hi⟩
  rw[cr,km e2] at h2
  refine⟨?_,.inr hA,(hst.bY h k b m y e3 h2 hi).2.2.1,fun hm=>?_⟩
  ·rintro(ho | ⟨_,ho⟩)
   ·exact(hst.bY h k b m y e3 h2 hi).1 ho
   ·obtain⟨h',k',c',m',q1,q2,q3,q4⟩:=wN ho
    exact sq hst e2 e3 h2 hi q1 q2 q3 q4
  ·rw[LA e4] at hm;cases hm
 ·rintro b (ho | ⟨_,ho⟩)
  ·have:=hst.ed b ho;have:=hst.hb;show b<w.heap.size;omega
  ·obtain⟨h',k',c',m',q1,q2,q3,q4⟩:=wN ho
   exact pC hst ⟨h',k',c',m',q2,q3,q4⟩
end
end Go.AM
/-
 AM,part Y:plain facts of partial functions.
-/
namespace Go.AM
theorem jI {α:Type}{l:List α}{i:Nat}{x:α}(h:l[i]?=some x):idx l (i:Int)=some x:=by
 unfold idx
 rw[if_pos (by omega)]
 simpa using h
theorem S4 {l:ByteArray}{i:Int}(h0:0≤i) (h1:i<(l.size:Int)):∃x,lF l i=some x∧l[i.toNat]?=some x:=by
 have h:i.toNat<l.size:=by omega
 refine⟨l[i.toNat],?_,?_⟩
 ·unfold lF
  rw[if_pos h0]
  exact getElem?_pos ..
 ·exact getElem?_pos ..
theorem lN {p:Prop}[Decidable p] (h:p):dA p=some ():=by unfold dA;rw[if_pos h]
theorem i64 {n:Int}(h0:-9223372036854775808≤n) (h1:n≤9223372036854775807):IntKind.i64.wrap n=n:=IntWalk.i64_in n ⟨h0,h1⟩
theorem u64 {n:Int}(h0:0≤n) (h1:n≤18446744073709551615):IntKind.u64.wrap n=n:=IntWalk.u64_in n ⟨h0,h1⟩
def G0 {σ τ ρ:Type}(f:σ→τ):Option (σ⊕ρ)→Option (τ⊕ρ)
 | some (.inl s)=>some (.inl (f s))
 | some (.inr r)=>some (.inr r)
 | none=>none
theorem yT {k n:Nat}(h:k<n) (hn:n≤9223372036854775807):IntKind.i64.wrap ((k:Int)+1)=((k+1:Nat):Int):=by
 rw[i64 (by omega) (by omega)];omega
theorem nH {α:Type}{l:List α}{k:Nat}{x:α}(h:l[k]?=some x):k<l.length:=(aw.1 h).1
theorem dec_lt {α:Type}{l:List α}{k:Nat}{x:α}(h:l[k]?=some x):decide ((k:Int)<(l.length:Int))=true:=by have:=nH h;simp;omega
theorem ld {α:Type}(l:List α):decide ((l.length:Int)<(l.length:Int))=false:=by simp
section
variable {α:Type}[DecidableEq α]
end
end Go.AM
