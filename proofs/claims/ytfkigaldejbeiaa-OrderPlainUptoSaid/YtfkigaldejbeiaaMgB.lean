/-
  AM, second part.
-/
import Derived.Test.YtfkigaldejbeiaaMgA
import Derived.Laws.Tables
import Derived.WalkSpells
import Derived.Laws.Slices
import Derived.Laws.Strings2
import Derived.IntWalk
set_option linter.unusedSectionVars false
set_option linter.unusedSimpArgs false
set_option linter.unusedVariables false
/-
 AM,part L:a ew from a walk;calls by ew.
-/
namespace Go.AM
def Eu (P:Program) (fn:Func) (Q:G→List (Nat×ap)→Prop):Exit→St→Prop:=fun e s=>
 (e=.ret∨e=.normal)∧s.df=[]∧∃gs r st',zR P s fn.results.toList gs∧kr s.st st'∧iZ s.st st' (pack gs)=some r∧Q r st'
def Se (P:Program) (fn:Func) (Q:G→List (Nat×ap)→Prop) (Qp:List PanicEntry→List (Nat×ap)→Prop):Exit→St→Prop:=fun e s=>
 Eu P fn Q e s∨∃c,e=.panic c∧s.df=[]∧∃st',kr s.st st'∧Qp c st'
theorem gR.refl (Z:Nat→Prop) (w:World):gR Z w w:=⟨rfl,fun _=>.inl rfl,rfl,rfl,rfl⟩
theorem gR.put {Z:Nat→Prop}{w:World}{D:Nat}{o:Obj}(o':Obj) (hz:Z D) (ho:w.heap[D]?=some o) (hc:Lm o=false):gR Z w (w.putObj D o'):=by
 refine⟨by simp[World.putObj],fun b=>?_,rfl,rfl,rfl⟩
 by_cases e:b=D
 ·subst e;exact .inr ⟨hz,o,ho,hc⟩
 ·exact .inl (World.putObj_heap_other e)
theorem gR.cells {Z:Nat→Prop}{w w':World}(h:gR Z w w'){b:Nat}{cs:Array Value}{e:TypeId}{f:Nat×Nat}(hb:w.heap[b]?=some (.cells cs e f)):w'.heap[b]?=some (.cells cs e f):=by
 rcases h.block b with h1 | ⟨_,x,h1,h2⟩
 ·exact h1.trans hb
 ·rw[hb] at h1;cases h1;cases h2
theorem gR.cell {Z:Nat→Prop}{w w':World}(h:gR Z w w'){b j:Nat}{v:Value}(hb:w.cell? ⟨b,j,none⟩=some v):w'.cell? ⟨b,j,none⟩=some v:=by
 rcases h.block b with h1 | ⟨_,x,h1,h2⟩
 ·rw[World.cell?_of_block (w:=w) h1];exact hb
 ·cases x with
  | cells cs e f=>cases h2
  | _=>simp[World.cell?,h1] at hb
theorem bG.shut {O Z:Nat→Prop}{w w':World}{g:G}{v:Value}(hr:bG O w g v) (h:gR Z w w'):bG O w' g v:=by
 induction hr with
 | any v=>exact .any v
 | val v=>exact .val v
 | nil=>exact .nil
 | gQ a cap=>exact .gQ a cap
 | sl n cells b off cap us hn hO1 hb1 hc hr ih=>exact .sl n cells b off cap us hn hO1 (by rw[h.size];exact hb1) (fun j hj=>h.cell (hc j hj)) ih
 | ptr cells b off us hO1 hb1 hc hr ih=>exact .ptr cells b off us hO1 (by rw[h.size];exact hb1) (fun j hj=>h.cell (hc j hj)) ih
 | agg cells us hl hr ih=>exact .agg cells us hl ih
theorem aY.shut {O Z:Nat→Prop}{base:Nat}{w w':World}{μ:Mu}{g:G}{v:Value}(hr:aY O base w μ g v) (h:gR Z w w'):aY O base w' μ g v:=by
 induction hr with
 | aH hr=>exact .aH (hr.shut h)
 | fr hr=>exact .fr (hr.shut h)
 | loc h off b m hm=>exact .loc h off b m hm
 | eQ h sz hm=>exact .eQ h sz hm
 | aR h sz off n b m cap hm hn hc=>exact .aR h sz off n b m cap hm hn hc
 | dJ h sz off0 b m hm hpos=>exact .dJ h sz off0 b m hm hpos
 | agg cells us hl hr ih=>exact .agg cells us hl ih
 | bl cells us hl hr ih=>exact .bl cells us hl ih
 | aF f caps us hl hr ih=>exact .aF f caps us hl ih
 | ct h b m hm=>exact .ct h b m hm
 | kp h i off b m c n hm hk=>exact .kp h i off b m c n hm hk
 | g9 h i sz x cap hi=>exact .g9 h i sz x cap hi
 | ks h i sz n b m c k cap hm hk hn hc=>exact .ks h i sz n b m c k cap hm hk hn hc
 | dV h b m hm=>exact .dV h b m hm
theorem aQ.shut {O Z:Nat→Prop}{base:Nat}{w w':World}{μ:Mu}{k:ap}{x:Option (Nat×Mm)}(hr:aQ O base w μ k x) (h:gR Z w w') (hz:∀b m,x=some (b,m)→k.lp≠none→∀y,In y b m→¬Z y):aQ O base w' μ k x:=by
 cases x with
 | none=>exact hr
 | some bm=>
  obtain⟨b,m⟩:=bm
  cases hl:k.lp with
  | none=>
   obtain⟨cs,h2,h3,h4,h6,h8,h5⟩:=hr.cells hl
   refine .mk hl (hr.kn hl) ⟨cs,h.cells h2,h3,h4,h6,h8,fun j g hg=>?_⟩
   obtain⟨v,hv,hrv⟩:=h5 j g hg
   refine⟨v,hv,?_⟩
   unfold cz at hrv⊢
   cases hp:k.pure with
   | true=>rw[hp] at hrv;exact hrv.shut h
   | false=>rw[hp] at hrv;exact hrv.shut h
  | some kd=>
   have hz:=hz b m rfl (by rw[hl];exact fun h=>by cases h)
   cases kd with
   | loop lp=>
    obtain⟨D,vs,h2,h3,h4,h5,h6⟩:=(aQ.loop hl).1 hr
    refine(aQ.loop hl).2 ⟨D,vs,?_,h3,h4,h5,fun j t g ht hg=>let ⟨v,hv,hrv⟩:=h6 j t g ht hg;⟨v,hv,hrv.shut h⟩⟩
    rcases h.block b with h7 | ⟨h7,_⟩
    ·exact h7.trans h2
    ·exact absurd h7 (hz b (.self _ _))
   | deep d=>
    obtain⟨h1,h2,h3,h4⟩:=(aQ.deep hl).1 hr
    exact(aQ.deep hl).2 ⟨d.shut h1 h hz,h2,h3,h4⟩
theorem cO.shut {cx:Cx}{μ:Mu}{st:List (Nat×ap)}{w w' w0:World}{Z:Nat→Prop}(hr:cO cx μ st w) (h:gR Z w w') (hz:∀x k b m,aq st x=some k→μ x=some (b,m)→k.lp≠none→∀y,In y b m→¬Z y)
  (h0:w0.os=cx.w0.os∧w0.tape=cx.w0.tape∧w0.output=cx.w0.output) (hk:∀b,b<cx.base→¬cx.A b→w'.heap[b]?=w0.heap[b]?):cO {cx with w0:=w0} μ st w':=
 {dc:=fun x k hx=>(hr.dc x k hx).shut h fun b m hm hl=>hz x k b m hx hm hl,cE:=hr.cE,bU:=fun x k b m y h1 h2 h3=>by rw[h.size];exact hr.bU x k b m y h1 h2 h3,ei:=hr.ei,eg:=hr.eg,hb:=by rw[h.size];exact hr.hb,
  os:=(h.os.trans hr.os).trans h0.1.symm,tape:=(h.tape.trans hr.tape).trans h0.2.1.symm,output:=(h.output.trans hr.output).trans h0.2.2.symm,da:=hk}
theorem gL.shut {O Z:Nat→Prop}{base:Nat}{w w':World}{μ:Mu}{ds:List Deferred}{gs:List G}(hr:gL O base w μ ds gs) (h:gR Z w w') (hz:∀d∈ds,∀D,d.target=.collected D→¬Z D):gL O base w' μ ds gs:=by
 induction hr with
 | nil=>exact .nil
 | mark h1 h2 h3 h4 h5 h6 ih=>
  refine .mark h1 h2 (by rw[h.size];exact h3) ?_ h5 (ih fun d hd=>hz d (ao _ hd))
  rcases h.block _ with h7 | ⟨h7,_⟩
  ·exact h7.trans h4
  ·exact absurd h7 (hz _ au _ rfl)
 | aF h1 h2 ih=>exact .aF (h1.shut h) (ih fun d hd=>hz d (ao _ hd))
theorem tX {F:Fence}{n:Nat}{P:Program}{fn:Func}{tmps:Array Value}{R:Ending→World→Prop}{u:FrameMode}(hu:u≠.run){O:Nat→Prop}{base:Nat}{μ:Mu}:
  ∀{ds:List Deferred}{w:World},gL O base w μ ds []→(∀w',gR (fun b=>¬O b∧base≤b) w w'→LeavesIn F n P fn tmps R [] u w')→LeavesInM F n P fn tmps R ds u w
 | [],w,_,K=>K w (gR.refl _ _)
 | d::ds,w,h,K=>by
  cases h with
  | mark h1 h2 h3 h4 h5 h6=>
   rename_i D
   refine⟨hu,.inl ⟨D,_,rfl,run_takeDeferred h4,?_⟩⟩
   have hs:gR (fun b=>¬O b∧base≤b) w (w.putObj D (.deferred none)):=gR.put _ ⟨h1,h2⟩ h4 rfl
   have hs1:gR (fun b=>b=D) w (w.putObj D (.deferred none)):=gR.put _ rfl h4 rfl
   refine tX hu (O:=O) (base:=base) (μ:=μ) (w:=w.putObj D (.deferred none)) (h6.shut hs1 fun d hd D' e e'=>h5 d hd (by rw[e,e'])) fun w' hw'=>K w' ⟨hw'.size.trans hs.size,fun b=>?_,hw'.os.trans hs.os,hw'.tape.trans hs.tape,hw'.output.trans hs.output⟩
   by_cases e:b=D
   ·subst e;exact .inr ⟨⟨h1,h2⟩,_,h4,rfl⟩
   ·rcases hw'.block b with h7 | ⟨h7,o,h8,h9⟩
    ·exact .inl (h7.trans (World.putObj_heap_other e))
    ·exact .inr ⟨h7,o,by rw[←World.putObj_heap_other (o:=.deferred none) e];exact h8,h9⟩
theorem cO.Jo {cx:Cx}{μ:Mu}{st:List (Nat×ap)}{w w':World}(hr:cO cx μ st w) (h:gR (fun b=>¬cx.O st μ b∧cx.base≤b) w w'):cO cx μ st w':=
 hr.shut (w0:=cx.w0) h (fun x k b m h1 h2 _ y hy hz=>hz.1 (.inr ⟨x,k,b,m,h1,h2,hy⟩)) ⟨rfl,rfl,rfl⟩ fun b hb hA=>by
  rcases h.block b with h1 | ⟨⟨_,h1⟩,_⟩
  ·exact h1.trans (hr.da b hb hA)
  ·omega
section
variable {P:Program}{N:Nat}{cx:Cx}{s:St}
theorem Oj {O:Nat→Prop}{base:Nat}{w:World}{μ:Mu}{gs:List G}{vs:List Value}(hl:vs.length=gs.length) (hr:∀(j:Nat) (g:G) (v:Value),gs[j]?=some g→vs[j]?=some v→aY O base w μ g v):
  aY O base w μ (pack gs) (if h:vs.toArray.size=1 then vs.toArray[0] else .tuple vs.toArray):=by
 match gs,vs,hl,hr with
 | [],[],_,hr=>exact .bl [] [] rfl hr
 | [g],[v],_,hr=>exact hr 0 g v rfl rfl
 | g::g'::gs,v::v'::vs,hl,hr=>
  rw[dif_neg (by simp)]
  exact .bl _ _ hl hr
theorem KQ (fn:Func) (a:Act):results fn a.tmps=(do let vs ←fn.results.mapM (vW a);pure (if h:vs.size=1 then vs[0] else .tuple vs)):=rfl
theorem DK {α:Type}(f:α→Sem Value) (xs:Array α) (w w':World) (vs:List Value) (h:(xs.toList.mapM f).run P w=.ok vs w'):(xs.mapM f).run P w=.ok vs.toArray w':=by
 rw[Array.mapM_eq_mapM_toList]
 simp[Sem.run_map,h]
theorem GP.of {f : FuncId} {fn : Func} {c : Code} {args : List G} {st : List (Nat × ap)} {Q : G → List (Nat × ap) → Prop} {Qp : List PanicEntry → List (Nat × ap) → Prop} (hf : P.funcs[f]? = some fn) (hb : fn.body = some c) (hN : fn.ntmps = N) (hle : Nat.ble args.length N = true)
    (h : ∀ cx, cx.ro = none → GW P N cx c (Se P fn Q Qp) { fr := nR args 0, st := st, df := [] }) : GP P f args st Q Qp := by
  intro X μ w vs hX hst hl ha
  have hle := eX hle
  have hrel : Rel N (jz X st μ w) μ { fr := nR args 0, st := st, df := [] } { tmps := vs.toArray ++ Array.replicate (fn.ntmps - vs.toArray.size) undef, defers := [] } w := by
    refine { st := hst, nd := .nil, sz := by simp; omega, fr := fun t g hg => ?_ }
    obtain ⟨_, h2⟩ := AS hg
    simp only [Nat.sub_zero] at h2
    have ht : t < vs.length := by have := (al.1 h2).1; omega
    refine ⟨vs[t], ?_, ha t g vs[t] h2 (ag ht)⟩
    rw [Array.getElem?_append_left (by simpa using ht)]
    simp [ht]
  refine xP.1 (callsIn_of_wp_marks (F := FF none) (n := 0) hf hb trivial ?_)
  refine wpIn_mono (h (jz X st μ w) rfl μ _ w hrel) fun e a' w' hl => ?_
  have fin : ∀ (μ' : Mu) (s' : St), Rel N (jz X st μ w) μ' s' a' w' → Se P fn Q Qp e s' → (e = .ret ∨ e = .normal) → LeavesInM (FF none) 0 P fn a'.tmps (Ev X st μ w Q Qp) a'.defers .returning w' := by
    rintro μ' s' hr' hq he
    have hq : Eu P fn Q e s' := by
      rcases hq with hq | ⟨c, h1, _⟩
      · exact hq
      · subst h1; rcases he with he | he <;> cases he
    obtain ⟨_, hdf, gs, r, st', h1, h2, h3, h4⟩ := hq
    have cR := hr'.nd
    rw [hdf] at cR
    refine tX (fun h => by cases h) cR fun w'' hs => ?_
    have hr'' : Rel N (jz X st μ w) μ' { s' with df := [] } { a' with defers := [] } w'' :=
      { st := hr'.st.Jo hs, nd := .nil, sz := hr'.sz, fr := fun t g hg => let ⟨v, hv, hrv⟩ := hr'.fr t g hg; ⟨v, hv, hrv.shut hs⟩ }
    have h1' : zR P { s' with df := [] } fn.results.toList gs := by
      have : ({ s' with df := [] } : St) = s' := by cases s'; simp only at hdf; subst hdf; rfl
      rw [this]; exact h1
    obtain ⟨vs', hl', hvs, hrun⟩ := h1'.run hr''
    have hp := Oj hl' hvs
    refine ⟨_, ?_, .inl ⟨_, r, st', μ', rfl, h4, hr''.st.sub h2, Ia hr''.st (fun h k hk => ⟨k, h2.get hk⟩) hp h3⟩⟩
    have e1 : results fn a'.tmps = results fn ({ a' with defers := [] } : Act).tmps := rfl
    rw [e1, KQ]
    simp only [Sem.run_bind, DK _ _ _ _ _ hrun, Result.andThen_ok, Sem.run_pure]
  cases e with
  | normal => obtain ⟨μ', s', hr', hq⟩ := hl; exact fin μ' s' hr' hq (.inr rfl)
  | ret => obtain ⟨μ', s', hr', hq⟩ := hl; exact fin μ' s' hr' hq (.inl rfl)
  | panic ch =>
    obtain ⟨μ', s', hr', hq⟩ := hl
    have h1 := hr'.st
    have h2 := hr'.nd
    rcases hq with ⟨hq, _⟩ | ⟨c', h4, hdf, st', h5, h6⟩
    · rcases hq with hq | hq <;> cases hq
    · cases h4
      rw [hdf] at h2
      refine tX (fun h => by cases h) h2 fun w'' hs => ?_
      exact .inr ⟨_, st', μ', rfl, h6, (h1.Jo hs).sub h5⟩
  | outgrown => exact hl.elim
  | exit id =>
    obtain ⟨μ', s', hr', hq⟩ := hl
    rcases hq with ⟨hq, _⟩ | ⟨c, hq, _⟩
    · rcases hq with hq | hq <;> cases hq
    · cases hq
  | goto l =>
    obtain ⟨μ', s', hr', hq⟩ := hl
    rcases hq with ⟨hq, _⟩ | ⟨c, hq, _⟩
    · rcases hq with hq | hq <;> cases hq
    · cases hq
theorem GM.of {f : FuncId} {fn : Func} {c : Code} {args : List G} {st : List (Nat × ap)} {Q : G → List (Nat × ap) → Prop} (hf : P.funcs[f]? = some fn) (hb : fn.body = some c) (hN : fn.ntmps = N) (hle : Nat.ble args.length N = true)
  (h : ∀ cx, cx.ro = none → GW P N cx c (Eu P fn Q) { fr := nR args 0, st := st, df := [] }) : GM P f args st Q :=
 GP.of hf hb hN hle fun cx hro => (h cx hro).mono fun _ _ hq => .inl hq
def dY (f:G→Option G):List G→Option (List G)
 | []=>some []
 | g::r=>match f g,dY f r with
  | some g',some r'=>some (g'::r')
  | _,_=>none
theorem oR {f:G→Option G}:∀{gs gs':List G},dY f gs=some gs'→gs'.length=gs.length∧∀(j:Nat) (g':G),gs'[j]?=some g'→∃g,gs[j]?=some g∧f g=some g'
 | [],_,h=>by cases h;exact⟨rfl,fun j g h=>by simp at h⟩
 | g::r,gs',h=>by
  simp only[dY] at h
  cases h1:f g with
  | none=>rw[h1] at h;cases h
  | some g1=>
   rw[h1] at h
   cases h2:dY f r with
   | none=>rw[h2] at h;cases h
   | some r1=>
    rw[h2] at h
    cases h
    obtain⟨h3,h4⟩:=oR h2
    refine⟨by simp[h3],fun j g' hg'=>?_⟩
    cases j with
    | zero=>cases hg';exact⟨g,rfl,h1⟩
    | succ j=>exact h4 j g' hg'
def iE:Value→G
 | .slice none 0 0=>.sl 0 []
 | v=>.val v
theorem rO {O:Nat→Prop}{w:World}(v:Value):bG O w (iE v) v:=by
 unfold iE
 split
 ·exact .nil
 ·exact .val _
def view:Nat→List (Nat×ap)→G→Option G
 | 0,_,_=>none
 | n+1,st,g=>match g with
  | .val v=>some (iE v)
  | .sl n cs=>some (.sl n cs)
  | .ptr cs=>some (.ptr cs)
  | .fr g=>some g
  | .aR h sz off m=>match aq st h with
   | some k=>match k.lp with
    | some _=>none
    | none=>match k.pure with
     | true=>some (.sl m ((k.cells.drop off).take (m*sz)))
     | false=>match dY (view n st) ((k.cells.drop off).take (m*sz)) with
      | some cs=>some (.sl m cs)
      | none=>none
   | none=>none
  | .loc h off=>match aq st h with
   | some k=>match k.lp with
    | some _=>none
    | none=>match k.pure with
     | true=>some (.ptr (k.cells.drop off))
     | false=>match dY (view n st) (k.cells.drop off) with
      | some cs=>some (.ptr cs)
      | none=>none
   | none=>none
  | .agg gs=>match dY (view n st) gs with
   | some gs'=>some (.agg gs')
   | none=>none
  | .ks h i sz m=>bif Nat.beq m 0&&Nat.beq i iK then some (.sl 0 []) else match aq st h with
   | some k=>match k.lp with
    | some (.deep d)=>match d.row i with
     | some gs=>bif Nat.beq gs.length (m*sz) then some (.sl m gs) else none
     | none=>none
    | _=>none
   | none=>none
  | _=>none
theorem wR {st:List (Nat×ap)}{O X:Nat→Prop}{base:Nat}{μ:Mu}{w:World}(hblk:∀h k,aq st h=some k→aQ O base w μ k (μ h)) (hout:∀h k b m x,aq st h=some k→μ h=some (b,m)→In x b m→¬X x) (hXO:∀b,X b→O b):
  ∀(n:Nat){g g':G}{v:Value},aY O base w μ g v→view n st g=some g'→bG X w g' v
 | 0,_,_,_,_,h=>by cases h
 | n+1,g,g',v,hv,h=>by
  have hX:∀{g v},bG O w g v→bG X w g v:=fun h=>h.mono (Kept.refl _ _) fun b _ hn hx=>hn (hXO b hx)
  have cells:∀(hh off cnt:Nat) (k:ap) (b:Nat) (m:Mm) (cs:List G),aq st hh=some k→k.lp=none→μ hh=some (b,m)→(match k.pure with | true=>some ((k.cells.drop off).take cnt) | false=>dY (view n st) ((k.cells.drop off).take cnt))=some cs→
    ∃us:Nat→Value,¬X b∧b<w.heap.size∧(∀j,j<cs.length→w.cell? ⟨b,off+j,none⟩=some (us j))∧(∀(j:Nat) (g:G),cs[j]?=some g→bG X w g (us j))∧cs.length≤m.1-off:=by
   intro hh off cnt k b m cs hk hlp hm hcs
   have hb:=hblk hh k hk
   rw[hm] at hb
   obtain⟨vs,h1,h2,h3,h4,h5,h6⟩:=hb.cells hlp
   have rd:cs.length≤m.1-off∧∀(j:Nat) (g:G),cs[j]?=some g→∃v,vs[off+j]?=some v∧bG X w g v:=by
    cases hp:k.pure with
    | true=>
     rw[hp] at hcs
     cases hcs
     refine⟨by rw[aX,cr];omega,fun j g hg=>?_⟩
     rw[bf] at hg
     split at hg
     ·rw[bj] at hg
      obtain⟨v,hv,hrv⟩:=h6 _ g hg
      refine⟨v,hv,?_⟩
      unfold cz at hrv
      rw[hp] at hrv
      exact hX (hrv.flag (f':=false) (fun h=>by cases h))
     ·cases hg
    | false=>
     rw[hp] at hcs
     obtain⟨h7,h8⟩:=oR hcs
     refine⟨by rw[h7,aX,cr];omega,fun j g hg=>?_⟩
     obtain⟨g0,h9,h10⟩:=h8 j g hg
     rw[bf] at h9
     split at h9
     ·rw[bj] at h9
      obtain⟨v,hv,hrv⟩:=h6 _ g0 h9
      refine⟨v,hv,?_⟩
      unfold cz at hrv
      rw[hp] at hrv
      exact wR hblk hout hXO n hrv h10
     ·cases h9
   refine⟨fun j=>vs.getD (off+j) undef,hout hh k b m b hk hm (.self _ _),dt h1,fun j hj=>?_,fun j g hg=>?_,rd.1⟩
   ·obtain⟨v,hv,_⟩:=rd.2 j _ (ag hj)
    rw[cell_of h1,hv]
    simp[hv]
   ·obtain⟨v,hv,hrv⟩:=rd.2 j g hg
    simpa[hv] using hrv
  cases g with
  | val u=>cases h;cases hv with | aH hv=>cases hv;exact rO _
  | sl m cs=>cases h;cases hv with | aH hv=>exact hX hv
  | ptr cs=>cases h;cases hv with | aH hv=>exact hX hv
  | fr g=>cases h;cases hv with
   | aH hv=>cases hv
   | fr hv=>exact hX hv.rY
  | aR hh sz off m=>
   simp only[view] at h
   cases hk:aq st hh with
   | none=>rw[hk] at h;cases h
   | some k=>
    rw[hk] at h
    dsimp only at h
    cases hlp:k.lp with
    | some lp=>rw[hlp] at h;cases h
    | none=>
    rw[hlp] at h
    dsimp only at h
    have key:∃cs,g'=.sl m cs∧(match k.pure with | true=>some ((k.cells.drop off).take (m*sz)) | false=>dY (view n st) ((k.cells.drop off).take (m*sz)))=some cs:=by
     cases hp:k.pure with
     | true=>rw[hp] at h;cases h;exact⟨_,rfl,rfl⟩
     | false=>
      rw[hp] at h
      dsimp only at h⊢
      cases hq:dY (view n st) ((k.cells.drop off).take (m*sz)) with
      | none=>rw[hq] at h;cases h
      | some cs=>rw[hq] at h;cases h;exact⟨_,rfl,rfl⟩
    obtain⟨cs,rfl,hcs⟩:=key
    have Li:∀{cs},m*sz=0→(match k.pure with | true=>some ((k.cells.drop off).take (m*sz)) | false=>dY (view n st) ((k.cells.drop off).take (m*sz)))=some cs→cs=[]:=by
     intro cs h0 h
     rw[h0,List.take_zero] at h
     cases hp:k.pure with
     | true=>rw[hp] at h;cases h;rfl
     | false=>rw[hp] at h;cases h;rfl
    cases hv with
    | aH hv=>cases hv
    | eQ _ _ hm=>
     rw[Li (ey _) hcs]
     exact .nil
    | aR _ _ _ _ b m0 cap hm hn hc=>
     obtain⟨us,h1,h2,h3,h4,_⟩:=cells hh off (m*sz) k b m0 cs hk hlp hm hcs
     exact .sl m cs b off cap us hn h1 h2 h3 h4
    | dJ _ _ off0 b _ hm hpos=>
     rw[Li (ey _) hcs]
     obtain⟨us,h1,h2,_⟩:=cells hh off (0*sz) k b _ cs hk hlp hm hcs
     exact .sl 0 [] b off0 0 us (az _) h1 h2 (fun j hj=>by simp at hj) (fun j g hg=>by simp at hg)
  | loc hh off=>
   simp only[view] at h
   cases hk:aq st hh with
   | none=>rw[hk] at h;cases h
   | some k=>
    rw[hk] at h
    dsimp only at h
    cases hlp:k.lp with
    | some lp=>rw[hlp] at h;cases h
    | none=>
    rw[hlp] at h
    dsimp only at h
    have tk:(k.cells.drop off).take (k.cells.length)=k.cells.drop off:=b8 (by rw[cr];omega)
    have key:∃cs,g'=.ptr cs∧(match k.pure with | true=>some ((k.cells.drop off).take k.cells.length) | false=>dY (view n st) ((k.cells.drop off).take k.cells.length))=some cs:=by
     rw[tk]
     cases hp:k.pure with
     | true=>rw[hp] at h;cases h;exact⟨_,rfl,rfl⟩
     | false=>
      rw[hp] at h
      dsimp only at h⊢
      cases hq:dY (view n st) (k.cells.drop off) with
      | none=>rw[hq] at h;cases h
      | some cs=>rw[hq] at h;cases h;exact⟨_,rfl,rfl⟩
    obtain⟨cs,rfl,hcs⟩:=key
    cases hv with
    | aH hv=>cases hv
    | loc _ _ b m0 hm=>
     obtain⟨us,h1,h2,h3,h4,_⟩:=cells hh off _ k b m0 cs hk hlp hm hcs
     exact .ptr cs b off us h1 h2 h3 h4
  | agg gs=>
   simp only[view] at h
   cases hq:dY (view n st) gs with
   | none=>rw[hq] at h;cases h
   | some gs'=>
    rw[hq] at h
    cases h
    obtain⟨h1,h2⟩:=oR hq
    have key:∃us:List Value,v=.agg us.toArray∧us.length=gs.length∧∀(j:Nat) (g:G) (v:Value),gs[j]?=some g→us[j]?=some v→aY O base w μ g v:=by
     cases hv with
     | aH hv=>cases hv with
      | agg _ us hl hr=>exact⟨us,rfl,hl,fun j g v h1 h2=>.aH (hr j g v h1 h2)⟩
     | agg _ us hl hr=>exact⟨us,rfl,hl,hr⟩
    obtain⟨us,rfl,hl,hr⟩:=key
    refine .agg gs' us (by omega) fun j g v hg hv=>?_
    obtain⟨g0,h3,h4⟩:=h2 j g hg
    exact wR hblk hout hXO n (hr j g0 v h3 hv) h4
  | ks hh i sz m=>
   simp only[view] at h
   cases hb0:Nat.beq m 0&&Nat.beq i iK with
   | true=>
    rw[hb0] at h
    cases h
    simp only[aj] at hb0
    have hm0:=aa hb0.1
    have hi0:=aa hb0.2
    subst hm0
    cases hv with
    | aH hv=>cases hv
    | g9 _ _ _ x cap hi=>obtain⟨rfl,rfl⟩:=hi hi0;exact .nil
    | ks _ _ _ _ b m' c k cap hm hk hn hc=>exact .gQ _ _
   | false=>
   rw[hb0,cond_false] at h
   cases hk:aq st hh with
   | none=>rw[hk] at h;cases h
   | some k=>
    rw[hk] at h
    dsimp only at h
    split at h
    ·rename_i d hl
     split at h
     ·rename_i gs hrow
      cases hlen:Nat.beq gs.length (m*sz) with
      | false=>rw[hlen] at h;cases h
      | true=>
       rw[hlen] at h
       cases h
       have hl0:=aa hlen
       cases hmu:μ hh with
       | none=>
        cases hv with
        | aH hv=>cases hv
        | g9 _ _ _ x cap hi=>exact absurd (bp (by rw[hl0,ey])) (d.GZ hrow)
        | ks _ _ _ _ b m' c kk cap hm=>rw[hmu] at hm;cases hm
       | some bm=>
        obtain⟨b,mm⟩:=bm
        have hb:=hblk hh k hk
        rw[hmu] at hb
        have hφ:=((aQ.deep hl).1 hb).1
        obtain⟨c,kk,cs,bP,h1,h2,h3⟩:=d.KN hφ hrow
        have hXi:∀{g v},bG (bif k.fresh then eA O base else O) w g v→bG X w g v:=fun {g v} h=>by
         cases hkf:k.fresh with
         | false=>rw[hkf] at h;exact hX h
         | true=>rw[hkf] at h;exact hX h.rY
        have hsl:∀cap,m≤cap→bG X w (.sl m gs) (.slice (some ⟨c,0,none⟩) m cap):=fun cap hcap=>
         .sl m gs c 0 cap (fun j=>cs.getD j undef) hcap (hout hh k b mm c hk hmu (.inr ⟨kk,ar h1⟩)) (dt h2) (fun j hj=>by
          obtain⟨v,hv,_⟩:=h3 j _ (ag hj)
          rw[cell_of h2,bT,hv]
          simp[hv]) fun j g hg=>by
          obtain⟨v,hv,hrv⟩:=h3 j g hg
          have:=hXi hrv
          simpa[hv] using this
        cases hv with
        | aH hv=>cases hv
        | g9 _ _ _ x cap hi=>exact absurd (bp (by rw[hl0,ey])) (d.GZ hrow)
        | ks _ _ _ _ b' m' c' kk' cap hm hk' hn hc=>
         rw[hmu] at hm
         cases hm
         rw[h1] at hk'
         cases hk'
         exact hsl cap hn
     ·cases h
    ·cases h
  | _=>cases h
theorem Ey {st:List (Nat×ap)}{μ:Mu}{w:World}(hst:cO cx μ st w) (n:Nat){g g':G}{v:Value}(hv:aY (cx.O st μ) cx.base w μ g v) (h:view n st g=some g'):bG cx.X w g' v:=
 wR hst.dc (fun h k b m x h1 h2 h3=>(hst.bU h k b m x h1 h2 h3).1) (fun _ h=>.inl h) n hv h
def jL:G→Bool
 | .val _=>true
 | .fr _=>true
 | .agg gs=>go gs
 | .bl gs=>go gs
 | _=>false
where go:List G→Bool
 | []=>true
 | g::r=>jL g&&go r
theorem zp {gs:List G}(h:jL.go gs=true):∀(j:Nat) (g:G),gs[j]?=some g→jL g=true:=by
 induction gs with
 | nil=>intro j g hg;simp at hg
 | cons x r ih=>
  simp only[jL.go,aj] at h
  intro j g hg
  cases j with
  | zero=>cases hg;exact h.1
  | succ j=>exact ih h.2 j g hg
end
end Go.AM
/-
 AM,part M:calls of functions by their contracts.
-/
namespace Go.AM
def rA (n:Nat) (st:List (Nat×ap)):G→Option G
 | .aF f caps=>match dY (view n st) caps with
  | some c=>some (.aF f c)
  | none=>none
 | g=>view n st g
def uf (s:St):List Operand→Option (List G)
 | []=>some []
 | x::r=>match ev s x,uf s r with
  | some g,some gs=>some (g::gs)
  | _,_=>none
section
variable {P:Program}{N:Nat}{cx:Cx}{s:St}
theorem mq:∀{xs:List Operand}{gs:List G},uf s xs=some gs→gs.length=xs.length∧∀(j:Nat) (g:G),gs[j]?=some g→∃x,xs[j]?=some x∧ev s x=some g
 | [],_,h=>by cases h;exact⟨rfl,fun j g h=>by simp at h⟩
 | x::r,gs,h=>by
  simp only[uf] at h
  cases h1:ev s x with
  | none=>rw[h1] at h;cases h
  | some g1=>
   rw[h1] at h
   cases h2:uf s r with
   | none=>rw[h2] at h;cases h
   | some r1=>
    rw[h2] at h
    cases h
    obtain⟨h3,h4⟩:=mq h2
    refine⟨by simp[h3],fun j g' hg'=>?_⟩
    cases j with
    | zero=>cases hg';exact⟨x,rfl,h1⟩
    | succ j=>exact h4 j g' hg'
theorem Kw {O:Nat→Prop}{base:Nat}{st:List (Nat×ap)}{μ μ':Mu}{w:World}(hst:cO cx μ st w) (n:Nat){g g':G}{v:Value}(hv:aY (cx.O st μ) cx.base w μ g v) (h:rA n st g=some g')
  (hO:∀b,b<w.heap.size→¬cx.X b→¬O b):aY O base w μ' g' v:=by
 have up:∀{g v},bG cx.X w g v→aY O base w μ' g v:=fun h=>.aH (h.mono (Kept.refl _ _) hO)
 cases g with
 | aF f caps=>
  simp only[rA] at h
  cases hq:dY (view n st) caps with
  | none=>rw[hq] at h;cases h
  | some c=>
   rw[hq] at h
   cases h
   obtain⟨h1,h2⟩:=oR hq
   cases hv with
   | aH hv=>cases hv
   | aF _ _ us hl hr=>
    refine .aF f c us (by omega) fun j g v hg hv=>?_
    obtain⟨g0,h3,h4⟩:=h2 j g hg
    exact up (Ey hst n (hr j g0 v h3 hv) h4)
 | _=>exact up (Ey hst n hv h)
theorem cO.kept {μ:Mu}{st:List (Nat×ap)}{w w':World}(h:cO cx μ st w) (hsz:w.heap.size≤w'.heap.size) (hb:∀b,b<w.heap.size→w'.heap[b]?=w.heap[b]?) (hos:w'.os=w.os) (htape:w'.tape=w.tape) (hout:w'.output=w.output):cO cx μ st w':=by
 have hk:∀O,Kept O w w':=fun O=>⟨hsz,fun b h _=>hb b h⟩
 refine {dc:=?_,cE:=h.cE,bU:=fun x k b m y h1 h2 h3=>let ⟨a1,a2,a3,a4⟩:=h.bU x k b m y h1 h2 h3;⟨a1,a2,bW a3 hsz,a4⟩,ei:=h.ei,eg:=h.eg,hb:=cB h.hb hsz,os:=hos.trans h.os,tape:=htape.trans h.tape,output:=hout.trans h.output,da:=fun b h1 h2=>?_}
 ·intro x k hx
  exact(h.dc x k hx).mono (fun b m hm y hy=>hb y (h.bU x k b m y hx hm hy).2.2.1) (hk _) (fun _ _ h=>h)
 ·rw[hb b (by have:=h.hb;omega)];exact h.da b h1 h2
theorem Rel.kept {μ:Mu}{a:Act}{w w':World}(h:Rel N cx μ s a w) (hsz:w.heap.size≤w'.heap.size) (hb:∀b,b<w.heap.size→w'.heap[b]?=w.heap[b]?) (hos:w'.os=w.os) (htape:w'.tape=w.tape) (hout:w'.output=w.output):Rel N cx μ s a w':=
 {st:=h.st.kept hsz hb hos htape hout,nd:=h.nd.mono ⟨hsz,fun b h _=>hb b h⟩ (fun _ _ h=>h),sz:=h.sz,fr:=fun t g hg=>let ⟨v,hv,hr⟩:=h.fr t g hg;⟨v,hv,hr.mono ⟨hsz,fun b h _=>hb b h⟩ (fun _ _ h=>h) (az _)⟩}
theorem ox {μ:Mu}{st:List (Nat×ap)}{w:World}(h:cO cx μ st w){b:Nat}(ho:Own st μ b):b<w.heap.size:=by
 obtain⟨x,k,c,m,h1,h2,h3⟩:=ho
 exact(h.bU x k c m b h1 h2 h3).2.2.1
theorem yT {X:Nat→Prop}{μ:Mu}{w:World}(hX:∀b,X b→b<w.heap.size):cO (jz X [] μ w) μ [] w:=
 {dc:=fun _ _ h=>(by cases h),cE:=fun _ _ _ _ _ _ _ _ _ h=>(by cases h),bU:=fun _ _ _ _ _ h=>(by cases h),ei:=fun _ _ h=>(by cases h),eg:=hX,hb:=az _,os:=rfl,tape:=rfl,output:=rfl,da:=fun _ _ _=>rfl}
theorem tA {μ:Mu}{b:Nat}:¬Own [] μ b:=fun ⟨_,_,_,_,h,_⟩=>by cases h
variable {ty:TypeId}{pos:String}{after:Array Edge}{guard:Option (Nat×Bool)}{W:List Nat}{d:Nat}
theorem Ft {f:FuncId}{vs:List Value}{gs gs':List G}{Q:G→List (Nat×ap)→Prop}(n:Nat){μ:Mu}{a:Act}{w:World}(hr:Rel N cx μ s a w) (hv:dY (rA n s.st) gs=some gs')
  (hvs:vs.length=gs.length) (hrep:∀(j:Nat) (g:G) (v:Value),gs[j]?=some g→vs[j]?=some v→aY (cx.O s.st μ) cx.base w μ g v)
  (hcon:GM P f gs' [] Q) (hres:∀r st',Q r st'→jL r=true):
  Calls P f vs.toArray w fun e w'=>∃v r st',e=.returned v∧Q r st'∧Rel N cx μ s a w'∧aY (cx.O s.st μ) cx.base w' μ r v∧Step W s.st μ s.st μ w w':=by
 obtain⟨h1,h2⟩:=oR hv
 have hX:∀b,cx.X b→b<w.heap.size:=fun b hb=>by have:=hr.st.eg b hb;have:=hr.st.hb;omega
 refine(hcon.returned cx.X (fun _=>none) w vs hX (yT hX) (by omega) fun j g v hg hv=>?_).mono ?_
 ·obtain⟨g0,h3,h4⟩:=h2 j g hg
  exact Kw hr.st n (hrep j g0 v h3 hv) h4 fun b _ hn ho=>ho.elim hn tA
 ·rintro e w' ⟨v,r,st',μ',rfl,hq,hst,hrv⟩
  have hkeep:∀b,b<w.heap.size→w'.heap[b]?=w.heap[b]?:=fun b hb=>hst.da b hb tA
  refine⟨v,r,st',rfl,hq,hr.kept hst.hb hkeep hst.os hst.tape hst.output,?_,⟨hst.hb,fun b hb _=>hkeep b hb,fun h k c m b hw h1 h2 hi=>.inl ⟨h,k,c,m,hw,h1,h2,hi⟩⟩⟩
  have hf:=hres r st' hq
  have hb:=hr.st.hb
  have hxl:=hr.st.eg
  have hol:∀b,Own s.st μ b→b<w.heap.size:=fun b ho=>ox hr.st ho
  generalize hO:(jz cx.X [] (fun _=>none) w).O st' μ'=O at hrv
  have aH:∀{g:G}{v:Value},bG O w' g v→jL g=true→aY (cx.O s.st μ) cx.base w' μ g v:=by
   intro g v h
   induction h with
   | any v=>intro hf;cases hf
   | val v=>intro _;exact .aH (.val v)
   | nil=>intro hf;cases hf
   | gQ _ _=>intro hf;cases hf
   | sl _ _ _ _ _ _ _ _ _ _ _=>intro hf;cases hf
   | ptr _ _ _ _ _ _ _ _=>intro hf;cases hf
   | agg cells us hl hr ih=>intro hf;exact .agg cells us hl fun j g v hg hv=>ih j g v hg hv (zp hf j g hg)
  clear hq
  induction hrv with
  | aH h=>exact aH h hf
  | fr h=>
   refine .fr (h.mono (Kept.refl _ _) ?_)
   rintro b hb1 hn (ho | ho | ho)
   ·exact hn (.inl (by show b<w.heap.size;omega))
   ·exact hn (.inl (by have:=hxl b ho;show b<w.heap.size;omega))
   ·exact hn (.inl (hol b ho))
  | agg cells us hl hr ih=>exact .agg cells us hl fun j g v hg hv=>ih j g v hg hv (zp hf j g hg)
  | bl cells us hl hr ih=>exact .bl cells us hl fun j g v hg hv=>ih j g v hg hv (zp hf j g hg)
  | _=>cases hf
theorem EF.call {f:FuncId}{xs:Array Operand}{ts:Array TypeId}{gs gs':List G}{Q:G→List (Nat×ap)→Prop}(n:Nat) (hc:∀args w,(callFunc f args).run P w=.ok (.enter f args) w)
  (hx:uf s xs.toList=some gs) (hv:dY (rA n s.st) gs=some gs') (hcon:GM P f gs' [] Q) (hres:∀r st',Q r st'→jL r=true):
  bN P W s ⟨some d,.call ⟨.value (.func f),xs,ts⟩,ty,pos,after,guard⟩ (fun s'=>∃r st',Q r st'∧s'=s.put d r):=by
 refine⟨(fun _ h=>by cases h),?_⟩
 intro N cx μ a w hr hN K Q' hK
 obtain⟨h1,h2⟩:=mq hx
 have hcall:=Ft (vs:=xs.toList.map a.eval) (W:=W) n hr hv (by simp[h1]) (fun j g v hg hv=>by
  obtain⟨x,hxj,he⟩:=h2 j g hg
  rw[ay,hxj] at hv
  cases hv
  exact hr.ev he) hcon hres
 unfold Oper.wp
 have:(execOp a.eval ⟨some d,.call ⟨.value (.func f),xs,ts⟩,ty,pos,after,guard⟩).run P w=.ok (.enter f (xs.toList.map a.eval).toArray) w:=by
  have e:xs.map a.eval=(xs.toList.map a.eval).toArray:=by rw[←en]
  simp[execOp,resolve,invoke,Deferred.ofValue,Act.eval,hc,e]
 rw[this]
 refine hcall.mono ?_
 rintro e w' ⟨v,r,st',rfl,hq,hr',hrv,hst⟩
 exact hK μ _ _ w' (hr'.put (hN d rfl) hrv) ⟨r,st',hq,rfl⟩ hst
theorem EF.SJ {f:FuncId}{x:Operand}{xs:Array Operand}{ts:Array TypeId}{gs caps gs':List G}{Q:G→List (Nat×ap)→Prop}(n:Nat) (hc:∀args w,(callFunc f args).run P w=.ok (.enter f args) w)
  (hf:ev s x=some (.aF f caps)) (hx:uf s xs.toList=some gs) (hv:dY (rA n s.st) (gs++caps)=some gs') (hcon:GM P f gs' [] Q) (hres:∀r st',Q r st'→jL r=true):
  bN P W s ⟨some d,.call ⟨.value x,xs,ts⟩,ty,pos,after,guard⟩ (fun s'=>∃r st',Q r st'∧s'=s.put d r):=by
 refine⟨(fun _ h=>by cases h),?_⟩
 intro N cx μ a w hr hN K Q' hK
 obtain⟨h1,h2⟩:=mq hx
 have hcl:=hr.ev hf
 generalize hav:a.eval x=vf at hcl
 cases hcl with
 | aH h=>cases h
 | aF _ _ us hl hrc=>
  have hcall:=Ft (vs:=xs.toList.map a.eval++us) (W:=W) n hr hv (by simp[h1,hl]) (fun j g v hg hv=>by
   rw[a9] at hg hv
   rw[aW,←h1] at hv
   split at hg
   ·rename_i hj
    rw[if_pos hj] at hv
    obtain⟨x,hxj,he⟩:=h2 j g hg
    rw[ay,hxj] at hv
    cases hv
    exact hr.ev he
   ·rename_i hj
    rw[if_neg hj] at hv
    exact hrc _ g v hg hv) hcon hres
  unfold Oper.wp
  have:(execOp a.eval ⟨some d,.call ⟨.value x,xs,ts⟩,ty,pos,after,guard⟩).run P w=.ok (.enter f (xs.toList.map a.eval++us).toArray) w:=by
   have e:xs.map a.eval++us.toArray=(xs.toList.map a.eval++us).toArray:=by rw[←oc,←en]
   simp[execOp,resolve,invoke,Deferred.ofValue,hav,hc,e]
  rw[this]
  refine hcall.mono ?_
  rintro e w' ⟨v,r,st',rfl,hq,hr',hrv,hst⟩
  exact hK μ _ _ w' (hr'.put (hN d rfl) hrv) ⟨r,st',hq,rfl⟩ hst
end
end Go.AM
/-
 AM,part N:the steps in the form in which a walk takes them;encodings.
-/
namespace Go.AM
section
variable {P:Program}{N:Nat}{cx:Cx}{Q:Exit→St→Prop}{s:St}{ops:Array Oper}{rest:List Oper}
variable {d:Nat}{op:Op}{ty:TypeId}{pos:String}{after:Array Edge}{guard:Option (Nat×Bool)}
theorem GL.y {g:G}(hy:fB P [] s ⟨some d,op,ty,pos,after,guard⟩ g) (hw:cY ops s guard=some true) (hN:Nat.blt d N=true) (h:GL P N cx ops Q rest (s.put d g)):
  GL P N cx ops Q (⟨some d,op,ty,pos,after,guard⟩::rest) s:=GL.yield hw rfl (by simpa[fW] using hN) hy h
theorem GL.e {W:List Nat}{T:St→Prop}(he:bN P W s ⟨some d,op,ty,pos,after,guard⟩ T) (hw:cY ops s guard=some true) (hN:Nat.blt d N=true) (h:∀s',T s'→GL P N cx ops Q rest s'):
  GL P N cx ops Q (⟨some d,op,ty,pos,after,guard⟩::rest) s:=GL.effect hw (fun d' e=>by cases e;simpa[fW] using hN) he h
theorem GL.e1 {W:List Nat}{s1:St}(he:bN P W s ⟨some d,op,ty,pos,after,guard⟩ (·=s1)) (hw:cY ops s guard=some true) (hN:Nat.blt d N=true) (h:GL P N cx ops Q rest s1):
  GL P N cx ops Q (⟨some d,op,ty,pos,after,guard⟩::rest) s:=GL.e he hw hN fun _ e=>e▸h
theorem GL.e0 {W:List Nat}{s1:St}(he:bN P W s ⟨none,op,ty,pos,after,guard⟩ (·=s1)) (hw:cY ops s guard=some true) (h:GL P N cx ops Q rest s1):
  GL P N cx ops Q (⟨none,op,ty,pos,after,guard⟩::rest) s:=GL.effect hw (fun d' e=>by cases e) he fun _ e=>e▸h
theorem GL.no (hw:cY ops s guard=some false) (h:GL P N cx ops Q rest {s with fr:=del s.fr d}):
  GL P N cx ops Q (⟨some d,op,ty,pos,after,guard⟩::rest) s:=GL.pass hw h
end
def ints (l:List Int):List G:=l.map fun n=>.val (.int .i64 n)
@[simp] theorem Sg (l:List Int):(ints l).length=l.length:=by simp[ints]
end Go.AM
/-
 AM,part O:data as Lean data:encodings;loops and joins as partial functions.
-/
namespace Go.AM
inductive Ex (β γ:Type) where
 | dW (b:β)
 | ret (r:γ)
def eU {β γ ο:Type}(inj:γ→ο) (m:Option (Ex β γ)) (k:β→Option ο):Option ο:=
 match m with
 | some (.dW b)=>k b
 | some (.ret r)=>some (inj r)
 | none=>none
def aB {σ ρ:Type}(body:σ→Option (σ⊕ρ)):Nat→σ→Option ρ
 | 0,_=>none
 | n+1,x=>match body x with
  | some (.inl x')=>aB body n x'
  | some (.inr r)=>some r
  | none=>none
def idx {α:Type}(l:List α) (i:Int):Option α:=if 0≤i then l[i.toNat]? else none
def Po (l:ByteArray) (i:Int):Option UInt8:=if 0≤i then l[i.toNat]? else none
theorem NH {l:ByteArray}{i:Int}{x:UInt8}(h:Po l i=some x):0≤i∧l[i.toNat]?=some x:=by
 unfold Po at h
 split at h
 ·rename_i h0;exact⟨h0,h⟩
 ·cases h
def bo (p:Prop) [Decidable p]:Option Unit:=if p then some () else none
theorem tZ {α:Type}{l:List α}{i:Int}{x:α}(h:idx l i=some x):0≤i∧i<(l.length:Int)∧l[i.toNat]?=some x:=by
 unfold idx at h
 split at h
 ·rename_i h0
  have:=(al.1 h).1
  exact⟨h0,by omega,h⟩
 ·cases h
theorem cm {p:Prop}[Decidable p]{u:Unit}(h:bo p=some u):p:=by
 unfold bo at h
 split at h
 ·assumption
 ·cases h
theorem bind_some {α β:Type}{m:Option α}{k:α→Option β}{r:β}(h:m.bind k=some r):∃x,m=some x∧k x=some r:=Option.bind_eq_some_iff.1 h
theorem Dr {β γ ο:Type}{inj:γ→ο}{m:Option (Ex β γ)}{k:β→Option ο}{r:ο}(h:eU inj m k=some r):∃e,m=some e∧(∀b,e=.dW b→k b=some r)∧(∀r',e=.ret r'→inj r'=r):=by
 unfold eU at h
 split at h
 ·exact⟨_,rfl,fun b e=>(by cases e;exact h),fun r' e=>(by cases e)⟩
 ·exact⟨_,rfl,fun b e=>(by cases e),fun r' e=>(by cases e;cases h;rfl)⟩
 ·cases h
section
variable {P:Program}{N:Nat}{cx:Cx}{Q:Exit→St→Prop}
def QB {β:Type}(ke:Exit) (E:β→St) (b:β) (ex:Exit) (s:St):Prop:=ex=ke∧Sub s (E b)
def QL {σ ρ:Type}(E:σ→St) (R:ρ→Exit→St→Prop):σ⊕ρ→Exit→St→Prop
 | .inl x,ex,s=>ex=.normal∧Sub s (E x)
 | .inr r,ex,s=>ex≠.normal∧R r ex s
theorem GW.aB {σ ρ:Type}{c:Code}(E:σ→St) (R:ρ→Exit→St→Prop){body:σ→Option (σ⊕ρ)}{n:Nat}{x0:σ}{e:ρ}(hl:AM.aB body n x0=some e)
  (hr:∀x o,body x=some o→GW P N cx c (QL E R o) (E x)) (hq:∀ex s,ex≠.normal→R e ex s→Q ex s):GW P N cx (.loop c) Q (E x0):=by
 let Step:Nat→σ→Prop:=fun k x=>AM.aB body k x=some e
 refine(GW.loop (P:=P) (N:=N) (cx:=cx) (Q:=Q) (σ:=Nat×σ) (fun x=>E x.2) (fun x=>Step x.1 x.2) (fun x=>x.1) (n,x0) hl ?_)
 rintro⟨k,x⟩ hI
 cases k with
 | zero=>exact absurd hI (by simp[Step,AM.aB])
 | succ k=>
  simp only[Step,AM.aB] at hI
  cases hb:body x with
  | none=>rw[hb] at hI;cases hI
  | some o=>
   rw[hb] at hI
   refine(hr x o hb).mono fun ex s hx=>?_
   cases o with
   | inl x'=>
    obtain⟨rfl,hs⟩:=hx
    exact⟨(k,x'),hI,jV k,hs⟩
   | inr r=>
    cases hI
    obtain⟨h1,h2⟩:=hx
    have:=hq ex s h1 h2
    cases ex <;> first | exact absurd rfl h1 | exact this
theorem QB.mk {β:Type}{ke:Exit}{E:β→St}{b:β}{s:St}(h:Sub s (E b)):QB ke E b ke s:=⟨rfl,h⟩
theorem Eu.mk {fn:Func}{Qf:G→List (Nat×ap)→Prop}{s:St}{e:Exit}(he:e=.ret∨e=.normal) (gs:List G) (r:G) (st':List (Nat×ap)) (h1:zR P s fn.results.toList gs) (h2:kr s.st st') (h3:iZ s.st st' (pack gs)=some r) (h4:Qf r st') (hdf:s.df=[]:=by rfl):Eu P fn Qf e s:=
 ⟨he,hdf,gs,r,st',h1,h2,h3,h4⟩
theorem GW.join {x y:Code}{s:St}{o:Exit→St→Prop}(h1:GW P N cx x o s) (h2:∀ex s',o ex s'→LV (GW P N cx y Q) Q ex s'):GW P N cx (.seq x y) Q s:=
 GW.seq (h1.mono h2)
end
def y8 (n:Int):Prop:=-9223372036854775808≤n∧n≤9223372036854775807
def SP (s:ByteArray):Prop:=s.size≤9223372036854775807
def Ry {α:Type}(ok:α→Prop) (l:List α):Prop:=l.length≤9223372036854775807∧∀x∈l,ok x
class aL (α:Type) where
 sz:Nat
 cells:α→List G
 len:∀a,(cells a).length=sz
 pos:0<sz
 one:∀a g,g∈cells a→g.one=true
def c8 {α:Type}[aL α] (l:List α):List G:=l.flatMap aL.cells
instance:aL Int:=⟨1,fun n=>[.val (.int .i64 n)],fun _=>rfl,by decide,fun a g h=>by simp at h;subst h;rfl⟩
instance:aL Bool:=⟨1,fun n=>[.val (.bool n)],fun _=>rfl,by decide,fun a g h=>by simp at h;subst h;rfl⟩
instance:aL ByteArray:=⟨1,fun n=>[.val (.string n)],fun _=>rfl,by decide,fun a g h=>by simp at h;subst h;rfl⟩
instance {α:Type}[aL α]:aL (List α):=⟨1,fun l=>[.sl l.length (c8 l)],fun _=>rfl,by decide,fun a g h=>by simp at h;subst h;rfl⟩
section
variable {α:Type}[aL α]
theorem eT (l:List α):(c8 l).length=l.length*aL.sz α:=by
 unfold c8
 induction l with
 | nil=>simp
 | cons x r ih=>rw[cp,ak,ih,aL.len,bA,dD];omega
theorem O2 (l:List α):∀g,g∈c8 l→g.one=true:=by
 intro g hg
 obtain⟨a,_,h⟩:=ib.1 hg
 exact aL.one a g h
theorem oZ {l:List α}{i:Nat}{x:α}(h:l[i]?=some x){j:Nat}(hj:j<aL.sz α):(c8 l)[i*aL.sz α+j]?=(aL.cells x)[j]?:=by
 unfold c8
 rw[oA aL.cells (aL.sz α) aL.pos l (fun a _=>aL.len a)]
 have h1:(i*aL.sz α+j)/aL.sz α=i:=by
  rw[jM,Nat.mul_add_div aL.pos,Nat.div_eq_of_lt hj];rfl
 have h2:(i*aL.sz α+j)%aL.sz α=j:=by
  rw[jM,Nat.mul_add_mod,Nat.mod_eq_of_lt hj]
 rw[h1,h2,h]
 rfl
theorem FI {l:List α}{i:Nat}{x:α}(h:l[i]?=some x){j:Nat}(hj:j<aL.sz α):((c8 l).drop (i*aL.sz α))[j]?=(aL.cells x)[j]?:=by
 rw[bj];exact oZ h hj
theorem A3 (l m:List α):c8 (l++m)=c8 l++c8 m:=by simp[c8]
theorem Nu (x:α) (l:List α):c8 (x::l)=aL.cells x++c8 l:=rfl
theorem zy (l:List α) (n:Nat):(c8 l).take (n*aL.sz α)=c8 (l.take n):=by
 unfold c8
 induction l generalizing n with
 | nil=>simp
 | cons x r ih=>
  cases n with
  | zero=>simp
  | succ n=>
   rw[List.take_succ_cons,cp,cp,List.take_append,aL.len,←ih n]
   have h1:(n+1)*aL.sz α-aL.sz α=n*aL.sz α:=by rw[dD];omega
   rw[h1,b8 (by rw[aL.len,dD];omega)]
theorem zz (l:List α) (n:Nat):(c8 l).drop (n*aL.sz α)=c8 (l.drop n):=by
 unfold c8
 induction l generalizing n with
 | nil=>simp
 | cons x r ih=>
  cases n with
  | zero=>simp
  | succ n=>
   rw[List.drop_succ_cons,cp,List.drop_append,aL.len,←ih n]
   have h1:(n+1)*aL.sz α-aL.sz α=n*aL.sz α:=by rw[dD];omega
   rw[h1,List.drop_of_length_le (by rw[aL.len,dD];omega),dj]
theorem O1 {l:List α}{i:Nat}{x:α}{g:G}(hx:aL.cells x=[g]) (h1:aL.sz α=1):(c8 l).set (0+i*1) g=c8 (l.set i x):=by
 rw[bT,ed]
 unfold c8
 induction l generalizing i with
 | nil=>rfl
 | cons y r ih=>
  obtain⟨z,hz⟩:=List.length_eq_one_iff.1 ((aL.len y).trans h1)
  cases i with
  | zero=>simp[hz,hx]
  | succ i=>simp only[List.set_cons_succ,cp,hz,bx,dj,ih]
end
end Go.AM
/-
 AM,part P:the steps dm encoded data.
-/
namespace Go.AM
section
variable {α:Type}[aL α]
variable {P:Program}{N:Nat}{cx:Cx}{s:St}{W:List Nat}
variable {dst:Option Tmp}{ty:TypeId}{pos:String}{after:Array Edge}{guard:Option (Nat×Bool)}
theorem Kk {l:List α}{i:Int}{x:α}(h:idx l i=some x){j:Nat}{g:G}(hg:(aL.cells x)[j]?=some g):(c8 l)[i.toNat*aL.sz α+j]?=some g:=by
 have hj:j<aL.sz α:=by have:=(al.1 hg).1;rw[aL.len] at this;exact this
 rw[oZ (tZ h).2.2 hj];exact hg
theorem YT.gK {l:List α}{i:Int}{x:α}{t:TypeId}{xo:Operand}{g:G}(hx:ev s xo=some (.ptr ((c8 l).drop (i.toNat*aL.sz α)))) (h:idx l i=some x) (hg:(aL.cells x)[0]?=some g) (hag:∀w,(isAgg t).run P w=.ok false w):
  fB P W s ⟨dst,.load t xo,ty,pos,after,guard⟩ g:=YL.ptr hx (by rw[bj];exact Kk h hg) hag
theorem BS {l:List α}{i:Int}{x:α}(h:idx l i=some x):((c8 l).drop (i.toNat*aL.sz α)).take (aL.sz α)=aL.cells x:=by
 apply kF
 intro j
 rw[bf]
 split
 ·rename_i hj
  exact FI (tZ h).2.2 hj
 ·rename_i hj
  rw[List.getElem?_eq_none]
  rw[aL.len];omega
theorem YT.agg {l:List α}{i:Int}{x:α}{t:TypeId}{xo:Operand}(hx:ev s xo=some (.ptr ((c8 l).drop (i.toNat*aL.sz α)))) (h:idx l i=some x) (hag:∀w,(isAgg t).run P w=.ok true w)
  (hsz:∀w,(sizeOf t).run P w=.ok (aL.sz α) w):fB P W s ⟨dst,.load t xo,ty,pos,after,guard⟩ (.agg (aL.cells x)):=by
 have:=YL.MI (P:=P) (W:=W) (dst:=dst) (ty:=ty) (pos:=pos) (after:=after) (guard:=guard) hx (sz:=aL.sz α) (by
  rw[cr,eT]
  have h1:=(al.1 (tZ h).2.2).1
  have:(i.toNat+1)*aL.sz α≤l.length*aL.sz α:=b7 _ h1
  rw[dD] at this
  omega) hag hsz
 rw[BS h] at this
 exact this
theorem YT.own {l:List α}{i:Int}{x:α}{t h:Nat}{k:ap}{xo:Operand}{g g':G}(hx:ev s xo=some (.loc h (0+i.toNat*aL.sz α))) (hk:aq s.st h=some k) (hc:k.cells=c8 l) (hi:idx l i=some x) (hg:(aL.cells x)[0]?=some g)
  (hag:∀w,(isAgg t).run P w=.ok false w) (hW:W.contains h=false) (hout:k.out g=g') (hlp:k.lp=none:=by rfl):fB P W s ⟨dst,.load t xo,ty,pos,after,guard⟩ g':=
 YL.load hx hk (by rw[hc,bT];exact Kk hi hg) hag hW hout hlp
variable {d:Nat}
theorem ET.set {l:List α}{i:Int}{x:α}{t h:Nat}{k:ap}{xo yo:Operand}{g g':G}{f:Bool}(hx:ev s xo=some (.loc h (0+i.toNat*1))) (hy:ev s yo=some g) (hk:aq s.st h=some k) (hc:k.cells=c8 l) (hp:k.pure=true)
  (hi:BM g=some (g',f)) (hone:g.one=true) (he:aL.cells x=[g']) (h1:aL.sz α=1) (h0:0≤i) (hn:i<(l.length:Int)) (hsz:∀w,(sizeOf t).run P w=.ok 1 w) (hW:W.contains h=true) (hlp:k.lp=none:=by rfl):
  bN P W s ⟨none,.store t xo yo,ty,pos,after,guard⟩ (·={fr:=s.fr,st:=bD s.st h {k with fresh:=k.fresh&&f,cells:=c8 (l.set i.toNat x)},df:=s.df}):=by
 have:=EF.Rf (P:=P) (W:=W) (ty:=ty) (pos:=pos) (after:=after) (guard:=guard) hx hy hk hp hi hone hsz (by rw[hc,eT,h1];omega) hW hlp
 rw[hc,O1 he h1] at this
 exact this
theorem ET.append {l m:List α}{t e:TypeId}{xo yo:Operand}{h bt:Nat}{k:ap}{gy:G}{f:Bool}{z:Value}(hx:ev s xo=some (.aR h (aL.sz α) 0 l.length)) (hy:ev s yo=some gy) (hk:aq s.st h=some k) (hc:k.cells=c8 l)
  (hp:k.pure=true) (hety:k.bP=e) (hksz:k.sz=aL.sz α) (hsrc:oT s.st (aL.sz α) gy=some (c8 m,m.length,f)) (hap:gy.b9 h=false) (ht:P.underlying t=some (.slice e))
  (hi:(P.info? e).map (fun i=>(i.zero,i.size,i.bytes))=some (some z,aL.sz α,bt)) (hzs:z.cells.size=aL.sz α) (ua:l.length+m.length≤maxLen) (hbound:(l.length+m.length)*bt≤140737488355328) (hW:W.contains h=true) (hlp:k.lp=none:=by rfl) (hpn:pinned h=false:=by rfl) (hdf:qe h s.df=true:=by rfl):
  bN P W s ⟨some d,.call ⟨.builtin .append,#[xo,yo],#[t,t]⟩,ty,pos,after,guard⟩
   (·={fr:=(d,.aR h (aL.sz α) 0 (l++m).length)::ni h s.fr,st:=(h,{k with fresh:=k.fresh&&f,cells:=c8 (l++m)})::gu h s.st,df:=s.df}):=by
 have:=EF.append (P:=P) (d:=d) (W:=W) (ty:=ty) (pos:=pos) (after:=after) (guard:=guard) hx hy hk hp hety hksz (by rw[hc,eT]) hsrc (by rw[eT]) (fun g hg=>O2 m g hg) hap ht hi hzs aL.pos ua hbound hW hlp hpn hdf
 rw[A3,ak,←hc]
 exact this
end
end Go.AM
/-
 AM,part Q:a slot whose value is known;two loads of which either may come up first.
-/
namespace Go.AM
section
variable {P:Program}{N:Nat}{cx:Cx}{Q:Exit→St→Prop}{s:St}{ops:Array Oper}{rest:List Oper}
theorem Rel.dup {μ:Mu}{a:Act}{w:World}{t:Nat}{g:G}(hr:Rel N cx μ s a w) (hg:get s.fr t=some g):Rel N cx μ {fr:=(t,g)::s.fr,st:=s.st,df:=s.df} a w:=
 {st:=hr.st,nd:=hr.nd,sz:=hr.sz,fr:=fun t' g' h=>by
   simp only[get] at h
   cases e:t.beq t' with
   | true=>
    rw[e,cond_true] at h
    cases h
    have e:=aa e
    subst e
    exact hr.fr _ _ hg
   | false=>
    rw[e,cond_false] at h
    exact hr.fr _ _ h}
theorem GL.lit (t:Nat){b v:Bool}(hg:get s.fr t=some (.val (.bool b))) (hb:b=v) (h:GL P N cx ops Q rest {fr:=(t,.val (.bool v))::s.fr,st:=s.st,df:=s.df}):GL P N cx ops Q rest s:=fun μ a w hr=>by
 subst hb
 exact h μ a w (hr.dup hg)
theorem GW.lit {c:Code}(t:Nat){b v:Bool}(hg:get s.fr t=some (.val (.bool b))) (hb:b=v) (h:GW P N cx c Q {fr:=(t,.val (.bool v))::s.fr,st:=s.st,df:=s.df}):GW P N cx c Q s:=fun μ a w hr=>by
 subst hb
 exact h μ a w (hr.dup hg)
theorem mh.lit {W:List Nat}{aK:Nat}{listed:Array Bool}(t:Nat){b v:Bool}(hg:get s.fr t=some (.val (.bool b))) (hb:b=v) (h:mh P N cx ops Q W aK listed {fr:=(t,.val (.bool v))::s.fr,st:=s.st,df:=s.df}):mh P N cx ops Q W aK listed s:=fun μ a w hr=>by
 subst hb
 exact h μ a w (hr.dup hg)
theorem dS.lit {W:List Nat}{aK:Nat}{listed:Array Bool}(t:Nat){b v:Bool}(hg:get s.fr t=some (.val (.bool b))) (hb:b=v) (h:dS P N cx ops Q W aK listed {fr:=(t,.val (.bool v))::s.fr,st:=s.st,df:=s.df}):dS P N cx ops Q W aK listed s:=fun ws Wb μ a w hr=>by
 subst hb
 exact h ws Wb μ a w (hr.dup hg)
end
section
variable {α:Type}[aL α]
variable {P:Program}{N:Nat}{cx:Cx}{s:St}{W:List Nat}
variable {dst:Option Tmp}{ty:TypeId}{pos:String}{after:Array Edge}{guard:Option (Nat×Bool)}
end
end Go.AM
/-
 AM,part R:struct values put together;an empty slice written out;operations that were skipped.
-/
namespace Go.AM
section
variable {P:Program}{N:Nat}{cx:Cx}{Q:Exit→St→Prop}{s:St}{ops:Array Oper}{rest:List Oper}
theorem Rel.undef {μ:Mu}{a:Act}{w:World}{d:Nat}(h:Rel N cx μ s a w) (hN:d<N):Rel N cx μ (s.put d (.bl [])) (a.put (some d) Go.undef) w:=
 h.put hN (.bl [] [] rfl fun j g v hg=>by cases hg)
theorem GL.Tr {d:Nat}{op:Op}{ty:TypeId}{pos:String}{after:Array Edge}{guard:Option (Nat×Bool)}(hw:cY ops s guard=some false) (hN:Nat.blt d N=true) (h:GL P N cx ops Q rest (s.put d (.bl []))):
  GL P N cx ops Q (⟨some d,op,ty,pos,after,guard⟩::rest) s:=by
 intro μ a w hr
 unfold wpListIn
 rw[if_neg (by rw[dN hr hw];simp)]
 refine⟨fun _ _=>trivial,?_⟩
 exact h μ _ w (hr.undef (by simpa[fW] using hN))
theorem mh.Aa {W:List Nat}{aK:Nat}{listed:Array Bool}(i:Nat){o:Oper}{d:Nat}(hp:DA Q (qY ops)) (hi:ops[i]?=some o) (hs:Region.noSelect ops=true) (hf:Region.free .any ops listed i=true)
  (hr:(Region.ready .any ops listed).contains i=true) (hw:cY ops s o.guard=some false) (hd:o.dst=some d) (hN:d<N)
  (h:mh P N cx ops Q W aK (listed.setIfInBounds i true) (s.put d (.bl []))):mh P N cx ops Q W (aK+1) listed s:=by
 intro μ a w hrel
 refine wpAnyH_take (v:=undef) hi hs hf hr (fun c a' w' h=>nN hp (qS hi hd) (hd▸h)) (.inr ⟨dN hrel hw,rfl⟩) ⟨az _,fun _ _ _=>rfl⟩ ?_
 rw[hd]
 exact h μ _ w (hrel.undef hN)
theorem dS.Aa {W:List Nat}{aK:Nat}{listed:Array Bool}(i:Nat){o:Oper}{d:Nat}(hp:DA Q (qY ops)) (hi:ops[i]?=some o) (hs:Region.noSelect ops=true) (hf:Region.free .any ops listed i=true)
  (hr:(Region.ready .any ops listed).contains i=true) (hw:cY ops s o.guard=some false) (hd:o.dst=some d) (hN:d<N)
  (h:dS P N cx ops Q W aK (listed.setIfInBounds i true) (s.put d (.bl []))):dS P N cx ops Q W (aK+1) listed s:=by
 intro ws Wb μ a w hrel hS hW
 refine wpAnyH_take (v:=undef) hi hs hf hr (fun c a' w' h=>nN hp (qS hi hd) (hd▸h)) (.inr ⟨dN hrel hw,rfl⟩) hS ?_
 rw[hd]
 exact h ws Wb μ _ w (hrel.undef hN) hS hW
end
section
variable {P:Program}{N:Nat}{cx:Cx}{s:St}{W:List Nat}{d:Nat}
variable {dst:Option Tmp}{ty:TypeId}{pos:String}{after:Array Edge}{guard:Option (Nat×Bool)}
theorem EF.Je {t e:TypeId}{sz:Nat}{z:Value}{bt:Nat}(hd:Nat) (ht:P.underlying t=some (.slice e))
  (hi:(P.info? e).map (fun i=>(i.zero,i.size,i.bytes))=some (some z,sz,bt)) (hfr:fresh s hd=true):
  bN P W s ⟨some d,.buildSlice t 0 #[],ty,pos,after,guard⟩ (·={fr:=(d,.aR hd sz 0 0)::s.fr,st:=(hd,⟨e,true,true,true,sz,[],none⟩)::s.st,df:=s.df}):=by
 refine bN.of (s1:={fr:=s.fr,st:=(hd,⟨e,true,true,true,sz,[],none⟩)::s.st,df:=s.df}) (g:=.aR hd sz 0 0) rfl (fun _ h=>by cases h) ?_
 intro N cx μ a w hr
 obtain⟨i,hi1,lC⟩:=av.1 hi
 simp only[ja] at lC
 obtain⟨hz,hs1,hb1⟩:=lC
 obtain⟨μ',w',rfl,h1,h2,h3⟩:=hr.uy (k:=⟨e,true,true,true,sz,[],none⟩) (cs:=#[]) hfr rfl (by simp) (fun _=>by simp) (fun j g' hg'=>by simp at hg') (fun _ g' hg'=>by simp at hg') W
 refine⟨_,μ',_,?_,h1,.aR hd sz 0 0 _ _ 0 h2 (az _) (by simp),h3⟩
 have hrun:(Instr.buildSlice t 0 #[]).run P w=.ok (.slice (some ⟨w.heap.size,0,none⟩) 0 0) (w.alloc (.cells #[] e)):=by
  have e0:(Array.range 0).map (fun _=>(default:Value))=#[]:=by apply Array.eq_empty_of_size_eq_zero;simp
  simp[Instr.buildSlice,run_underlying ht,sizeOf,typeInfo,hi1,Instr.fill,newRow]
  rw[e0]
 simp[execOp,hrun]
def setAt {α:Type}(cs:List α) (off:Nat):List α→List α
 | []=>cs
 | x::r=>setAt (cs.set off x) (off+1) r
def Am (place:Nat→Option (Nat×Nat)) (cells:List G):List (Nat×G)→Option (List G)
 | []=>some cells
 | (i,g)::r=>match place i with
  | some (off,size)=>match CY g&&(Nat.beq (cK g).length size&&Nat.ble (off+size) cells.length) with
   | true=>Am place (setAt cells off (cK g)) r
   | false=>none
  | none=>none
def Io (s:St):List (Nat×Operand)→Option (List (Nat×G))
 | []=>some []
 | (i,x)::r=>match ev s x,Io s r with
  | some g,some gs=>some ((i,g)::gs)
  | _,_=>none
def sG (O:Nat→Prop) (base:Nat) (w:World) (μ:Mu) (gs:List G) (vs:List Value):Prop:=vs.length=gs.length∧∀(j:Nat) (g:G) (v:Value),gs[j]?=some g→vs[j]?=some v→aY O base w μ g v
theorem sG.set {O:Nat→Prop}{base:Nat}{w:World}{μ:Mu}{gs:List G}{vs:List Value}(h:sG O base w μ gs vs) (off:Nat){g:G}{v:Value}(hv:aY O base w μ g v):sG O base w μ (gs.set off g) (vs.set off v):=by
 refine⟨by simp[h.1],fun j g' v' h1 h2=>?_⟩
 rw[dr] at h1 h2
 by_cases e:off=j
 ·subst e
  rw[if_pos rfl] at h1 h2
  split at h1
  ·split at h2
   ·cases h1;cases h2;exact hv
   ·cases h2
  ·cases h1
 ·rw[if_neg e] at h1 h2
  exact h.2 j g' v' h1 h2
theorem sG.setAt {O:Nat→Prop}{base:Nat}{w:World}{μ:Mu}:∀(gp:List G) (vp:List Value) (off:Nat){gs:List G}{vs:List Value},sG O base w μ gs vs→sG O base w μ gp vp→sG O base w μ (AM.setAt gs off gp) (AM.setAt vs off vp)
 | [],[],_,_,_,h,_=>h
 | [],_::_,_,_,_,_,h=>by cases h.1
 | _::_,[],_,_,_,_,h=>by cases h.1
 | g::gp,v::vp,off,_,_,h,hp=>sG.setAt gp vp (off+1) (h.set off (hp.2 0 g v rfl rfl)) ⟨by have:=hp.1;simpa using this,fun j g' v' h1 h2=>hp.2 (j+1) g' v' h1 h2⟩
theorem AW (off:Nat):∀(l:List Value) (k:Nat) (cs:Array Value),((l.zipIdx k).foldl (fun cs (x:Value×Nat)=>cs.setIfInBounds (off+x.2) x.1) cs).toList=setAt cs.toList (off+k) l
 | [],_,_=>rfl
 | x::r,k,cs=>by
  simp only[List.zipIdx_cons,jD,setAt]
  rw[AW off r (k+1)]
  simp[Nat.add_assoc]
theorem CZ {O:Nat→Prop}{base:Nat}{w:World}{μ:Mu}{place:Nat→Option (Nat×Nat)}:∀(gp:List (Nat×G)) (vp:List (Nat×Value)) (gs:List G) (vs:Array Value) (out:List G),
  Am place gs gp=some out→sG O base w μ gs vs.toList→vp.length=gp.length→(∀(j:Nat) (x:Nat×G) (y:Nat×Value),gp[j]?=some x→vp[j]?=some y→x.1=y.1∧aY O base w μ x.2 y.2)→
  ∃cs,Instr.fill place vs vp=some cs∧sG O base w μ out cs.toList
 | [],[],gs,vs,out,h,hr,_,_=>by cases h;exact⟨vs,rfl,hr⟩
 | [],_::_,_,_,_,_,_,hl,_=>by cases hl
 | _::_,[],_,_,_,_,_,hl,_=>by cases hl
 | (i,g)::gp,(i',v)::vp,gs,vs,out,h,hr,hl,hp=>by
  obtain⟨e,hv⟩:=hp 0 _ _ rfl rfl
  simp only at e hv
  subst e
  simp only[Am] at h
  cases hpl:place i with
  | none=>rw[hpl] at h;cases h
  | some os=>
   obtain⟨off,size⟩:=os
   rw[hpl] at h
   simp only at h
   cases hc:CY g&&(Nat.beq (cK g).length size&&Nat.ble (off+size) gs.length) with
   | false=>rw[hc] at h;cases h
   | true=>
    rw[hc] at h
    simp only[aj] at hc
    obtain⟨c1,c2,c3⟩:=hc
    have c2:=aa c2
    have c3:=eX c3
    obtain⟨d1,d2⟩:=hv.cells c1
    have hrl:sG O base w μ (cK g) v.cells.toList:=by
     refine⟨by rw[Array.length_toList];exact d1,fun j g' v' h1 h2=>?_⟩
     obtain⟨u,hu,hru⟩:=d2 j g' h1
     rw[bq,hu] at h2
     cases h2
     exact hru
    have hrs:=sG.setAt _ _ off hr hrl
    have hvl:vs.size=gs.length:=by rw[←hr.1,Array.length_toList]
    have hstep:Instr.fill place vs ((i,v)::vp)=Instr.fill place (v.cells.zipIdx.foldl (fun cs (x:Value×Nat)=>cs.setIfInBounds (off+x.2) x.1) vs) vp:=by
     simp only[Instr.fill,hpl]
     rw[if_neg (by simp;omega)]
    rw[hstep]
    have hfold:(v.cells.zipIdx.foldl (fun cs (x:Value×Nat)=>cs.setIfInBounds (off+x.2) x.1) vs).toList=AM.setAt vs.toList off v.cells.toList:=by
     rw[←Array.foldl_toList,Array.toList_zipIdx]
     exact AW off v.cells.toList 0 vs
    refine CZ gp vp _ _ out h (by rw[hfold];exact hrs) (by simpa using hl) fun j x y h1 h2=>hp (j+1) x y h1 h2
theorem Im {μ:Mu}{a:Act}{w:World}(h:Rel N cx μ s a w):∀(l:List (Nat×Operand)) (gp:List (Nat×G)),Io s l=some gp→
  (l.map fun x=>(x.1,a.eval x.2)).length=gp.length∧∀(j:Nat) (x:Nat×G) (y:Nat×Value),gp[j]?=some x→(l.map fun x=>(x.1,a.eval x.2))[j]?=some y→x.1=y.1∧aY (cx.O s.st μ) cx.base w μ x.2 y.2
 | [],gp,he=>by cases he;exact⟨rfl,fun j x y h=>by cases h⟩
 | (i,x)::r,gp,he=>by
  simp only[Io] at he
  cases hx:AM.ev s x with
  | none=>rw[hx] at he;cases he
  | some g=>
   rw[hx] at he
   cases hr:Io s r with
   | none=>rw[hr] at he;cases he
   | some gs=>
    rw[hr] at he
    cases he
    obtain⟨h1,h2⟩:=Im h r gs hr
    refine⟨by simpa using h1,fun j x' y h3 h4=>?_⟩
    cases j with
    | zero=>cases h3;cases h4;exact⟨rfl,h.ev hx⟩
    | succ j=>exact h2 j x' y h3 h4
theorem PY.build {t:TypeId}{parts:Array (Nat×Operand)}{fs:Array Field}{z:Value}{places:List (Nat×Nat)}{gp:List (Nat×G)}{out:List G}(ht:P.underlying t=some (.struct fs)) (hz:(P.info? t).map (·.zero)=some (some z))
  (hp:fs.toList.mapM (fun f=>(P.info? f.type).map fun i=>(f.offset,i.size))=some places) (he:Io s parts.toList=some gp) (hf:Am (places[·]?) (z.cells.toList.map .val) gp=some out):
  PY P s ⟨dst,.build t parts,ty,pos,after,guard⟩ (.agg out):=fun N cx μ a w hr=>by
 obtain⟨it,h1,h2⟩:=av.1 hz
 obtain⟨h3,h4⟩:=Im hr _ _ he
 obtain⟨cs,h5,h6⟩:=CZ (O:=cx.O s.st μ) (base:=cx.base) (w:=w) (μ:=μ) gp _ _ z.cells out hf ⟨by simp,fun j g v hg hv=>by
  rw[ay,hv] at hg
  cases hg
  exact .aH (.val _)⟩ h3 h4
 have hb:∀w',(Instr.build t (parts.map fun (x:Nat×Operand)=>(x.1,a.eval x.2))).run P w'=.ok (.agg cs) w':=fun w'=>by
  refine Go.run_build w' t _ cs ?_
  unfold Program.built
  simp only[h1,ht,h2,hp]
  rw[en]
  have e:(fun x:Nat=>places.toArray[x]?)=(fun x:Nat=>places[x]?):=by funext x;simp
  rw[e]
  exact h5
 refine⟨.agg cs,?_,fun w'=>?_⟩
 ·have:=aY.agg (O:=cx.O s.st μ) (base:=cx.base) (w:=w) (μ:=μ) out cs.toList h6.1 h6.2
  simpa using this
 ·simp[execOp,hb]
theorem run_equal_bool {t:TypeId}(ht:P.underlying t=some .bool) (a b:Bool) (w:World):(Op.equal t (.bool a) (.bool b)).run P w=.ok (a==b) w:=by
 have e:∃n,Op.maxDepth=n+1:=⟨_,rfl⟩
 obtain⟨n,e⟩:=e
 unfold Op.equal
 rw[e]
 simp[Op.equalIn,run_underlying ht]
theorem PY.Tv {t t':TypeId}{x y:Operand}{a b:Bool}(hx:ev s x=some (.val (.bool a))) (hy:ev s y=some (.val (.bool b))) (ht:P.underlying t=some .bool):
  PY P s ⟨dst,.binOp .eql t x y t',ty,pos,after,guard⟩ (.val (.bool (a==b))):=fun _ _ _ _ _ hrel=>by
 refine⟨_,.aH (.val _),fun w'=>?_⟩
 simp[execOp,hrel.val hx,hrel.val hy,eqGuard,binOp,run_equal_bool ht]
theorem PY.Ts {t t':TypeId}{x y:Operand}{a b:Bool}(hx:ev s x=some (.val (.bool a))) (hy:ev s y=some (.val (.bool b))) (ht:P.underlying t=some .bool):
  PY P s ⟨dst,.binOp .neq t x y t',ty,pos,after,guard⟩ (.val (.bool (!(a==b)))):=fun _ _ _ _ _ hrel=>by
 refine⟨_,.aH (.val _),fun w'=>?_⟩
 simp[execOp,hrel.val hx,hrel.val hy,eqGuard,binOp,run_equal_bool ht]
end
end Go.AM
/-
 AM,part S:is a slice nil?
-/
namespace Go.AM
noncomputable def sv {ρ:Type}(n:Int) (m1 m2:Option ρ):Option ρ:=open Classical in if n=0 then(if m1=m2 then m1 else none) else m2
theorem EU {ρ:Type}{n:Int}{m1 m2:Option ρ}{r:ρ}(h:sv n m1 m2=some r):(n=0→m1=some r)∧m2=some r:=by
 unfold sv at h
 split at h
 ·split at h
  ·rename_i e;exact⟨fun _=>h,e▸h⟩
  ·cases h
 ·exact⟨fun e=>absurd e (by assumption),h⟩
section
variable {P:Program}{N:Nat}{cx:Cx}{Q:Exit→St→Prop}{s:St}{ops:Array Oper}{rest:List Oper}
theorem aY.NZ {O:Nat→Prop}{base:Nat}{w:World}{μ:Mu}{g:G}{v:Value}{n:Int}(h:aY O base w μ g v) (hn:Lh g=some n):∃b m c,v=.slice b m c∧(m:Int)=n∧(b=none→n=0):=by
 have sl:∀(O:Nat→Prop) (n:Nat) (cells:List G) (v:Value),bG O w (.sl n cells) v→∃b m c,v=.slice b m c∧m=n∧(b=none→n=0):=by
  intro O n cells v h
  cases h with
  | nil=>exact⟨none,0,0,rfl,rfl,fun _=>rfl⟩
  | gQ a cap=>exact⟨some a,0,cap,rfl,rfl,fun h=>rfl⟩
  | sl _ _ b off cap=>exact⟨_,n,cap,rfl,rfl,fun h=>by cases h⟩
 cases g with
 | sl n' cells=>
  cases hn
  cases h with
  | aH h=>obtain⟨b,m,c,e1,e2,e3⟩:=sl _ _ _ _ h;exact⟨b,m,c,e1,by rw[e2],fun h=>by rw[e3 h];rfl⟩
 | fr g=>
  cases h with
  | aH h=>cases h
  | fr h=>
   cases g with
   | sl n' cells=>cases hn;obtain⟨b,m,c,e1,e2,e3⟩:=sl _ _ _ _ h;exact⟨b,m,c,e1,by rw[e2],fun h=>by rw[e3 h];rfl⟩
   | _=>cases hn
 | aR h' sz off n'=>
  cases hn
  cases h with
  | aH h=>cases h
  | eQ=>exact⟨none,0,0,rfl,rfl,fun _=>rfl⟩
  | aR _ _ _ _ b m cap=>exact⟨_,n',cap,rfl,rfl,fun h=>by cases h⟩
  | dJ _ _ off0 b m _ _=>exact⟨_,0,0,rfl,rfl,fun _=>rfl⟩
 | ks h' i sz n'=>
  cases hn
  cases h with
  | aH h=>cases h
  | g9 _ _ _ x cap=>exact⟨x,0,cap,rfl,rfl,fun _=>rfl⟩
  | ks _ _ _ _ b m c k cap=>exact⟨_,n',cap,rfl,rfl,fun h=>by cases h⟩
 | val v0=>
  cases h with
  | aH h=>
   cases h
   cases v with
   | slice b m c=>
    cases b with
    | none=>cases m with
     | zero=>cases c with
      | zero=>cases hn;exact⟨none,0,0,rfl,rfl,fun _=>rfl⟩
      | succ c=>cases hn
     | succ m=>cases hn
    | some b=>cases hn
   | _=>cases hn
 | _=>cases hn
theorem Mq {t e:TypeId}(ht:P.underlying t=some (.slice e)) (xo yo:Operand) (b:Option Addr) (m c:Nat) (w:World):
  (do eqGuard .eql t xo yo (.slice b m c) (.slice none 0 0);binOp .eql t (.slice b m c) (.slice none 0 0):Sem Value).run P w=.ok (.bool b.isNone) w:=by
 have h:=Lib.run_eql_slice_nil (P:=P) w t e b m c 0 0 ht
 have hg:(eqGuard .eql t xo yo (.slice b m c) (.slice none 0 0)).run P w=.ok () w:=by simp[eqGuard]
 simp only[Sem.run_bind,hg,Result.andThen_ok,h]
theorem Mp {t e:TypeId}(ht:P.underlying t=some (.slice e)) (xo yo:Operand) (b:Option Addr) (m c:Nat) (w:World):
  (do eqGuard .neq t xo yo (.slice b m c) (.slice none 0 0);binOp .neq t (.slice b m c) (.slice none 0 0):Sem Value).run P w=.ok (.bool (!b.isNone)) w:=by
 have h:=run_neq_slice_nil_any (P:=P) w t e b m c 0 0 ht
 have hg:(eqGuard .neq t xo yo (.slice b m c) (.slice none 0 0)).run P w=.ok () w:=by simp[eqGuard]
 simp only[Sem.run_bind,hg,Result.andThen_ok,h]
end
end Go.AM
/-
 AM,part T:a block said in other words;slices given out of hand;a nil slice in a box taken in hand;lists written out.
-/
namespace Go.AM
section
variable {P:Program}{N:Nat}{cx:Cx}{Q:Exit→St→Prop}{s:St}{ops:Array Oper}{rest:List Oper}
theorem Rel.vV {μ:Mu}{a:Act}{w:World}(h:Rel N cx μ s a w){hh:Nat}{k k':ap}(hk:aq s.st hh=some k) (he:k'.bP=k.bP) (hmine:k'.cw=k.cw) (hsz:k'.sz=k.sz) (hl:k'.cells.length≤k.cells.length) (hlp:k.lp=none) (hlp':k'.lp=none)
  (hc:∀(j:Nat) (g':G),k'.cells[j]?=some g'→∃g,k.cells[j]?=some g∧∀v,cz (cx.O s.st μ) cx.base w μ k g v→cz (cx.O s.st μ) cx.base w μ k' g' v):
  Rel N cx μ {fr:=s.fr,st:=bD s.st hh k',df:=s.df} a w:=by
 have hb:=h.st.dc hh k hk
 cases hm:μ hh with
 | some bm=>
  obtain⟨b,m⟩:=bm
  rw[hm] at hb
  obtain⟨cs,h1,h2,h3,h4,h5,h6⟩:=hb.cells hlp
  exact(h.write hk hm (by rw[he];exact h1) h2 rfl (fun _ _=>rfl) rfl rfl rfl (fun e=>hmine▸e) (cB hl h3) (by rw[hsz];exact h5) (fun j g' hg'=>by
   obtain⟨g,hg,hr⟩:=hc j g' hg'
   obtain⟨v,hv,hrv⟩:=h6 j g hg
   exact⟨v,hv,hr v hrv⟩) [hh] (by simp) hlp').1
 | none=>
  rw[hm] at hb
  obtain⟨hb,_⟩:=hb
  have hb':k'.cells=[]:=bp (by rw[hb] at hl;simpa using hl)
  have hOO:∀b,cx.O (bD s.st hh k') μ b↔cx.O s.st μ b:=fun b=>or_congr Iff.rfl (Own.bD hk)
  have hO:∀b,b<w.heap.size→¬cx.O s.st μ b→¬cx.O (bD s.st hh k') μ b:=fun b _ hn ho=>hn ((hOO b).1 ho)
  have f:∀x k1,aq (bD s.st hh k') x=some k1→∃k1,aq s.st x=some k1:=fun x k1 h1=>by
   rcases cI hk h1 with ⟨rfl,rfl⟩ | ⟨_,h1⟩
   ·exact⟨k,hk⟩
   ·exact⟨_,h1⟩
  refine {st:={dc:=?_,cE:=?_,bU:=?_,ei:=?_,eg:=h.st.eg,hb:=h.st.hb,os:=h.st.os,tape:=h.st.tape,output:=h.st.output,da:=h.st.da},nd:=h.nd.mono (Kept.refl _ _) hO,sz:=h.sz,fr:=fun t g hg=>?_}
  ·intro x k1 h1
   rcases cI hk h1 with ⟨rfl,rfl⟩ | ⟨_,h1⟩
   ·rw[hm];exact .nil hb' hlp'
   ·exact(h.st.dc x k1 h1).mono (fun _ _ _ _ _=>rfl) (Kept.refl _ _) hO
  ·intro x x' k1 k2 y b1 m1 b2 m2 h1 h2
   obtain⟨k1',h1'⟩:=f x k1 h1
   obtain⟨k2',h2'⟩:=f x' k2 h2
   exact h.st.cE x x' k1' k2' y b1 m1 b2 m2 h1' h2'
  ·intro x k1 b1 m1 y h1 h2
   intro hi
   rcases cI hk h1 with ⟨rfl,rfl⟩ | ⟨_,h1⟩
   ·obtain⟨a1,a2,a3,a4⟩:=h.st.bU x k b1 m1 y hk h2 hi
    exact⟨a1,a2,a3,fun hm=>a4 (hmine▸hm)⟩
   ·exact h.st.bU x k1 b1 m1 y h1 h2 hi
  ·intro x k1 h1 h2
   obtain⟨k1',h1'⟩:=f x k1 h1
   exact h.st.ei x k1' h1' h2
  ·obtain⟨v,hv,hr⟩:=h.fr t g hg
   exact⟨v,hv,hr.mono (Kept.refl _ _) hO (az _)⟩
theorem Rel.wh {μ : Mu} {a : Act} {w : World} (h : Rel N cx μ s a w) (hd : Nat) (k : ap) (hf : fresh s hd = true) (hk : k.cells = []) (hlp : k.lp = none) : Rel N cx (fV μ hd none) { fr := s.fr, st := (hd, k) :: s.st, df := s.df } a w := by
 obtain ⟨h1, h2, h3, h5, h6⟩ := fc hf
 obtain ⟨h4, hO⟩ := h.st.wh h1 h3 (gW h6) hk hlp
 refine { st := h4, nd := (h.nd.mono (Kept.refl _ _) (fun b _ => hO b)).fH (fun g hg y hy => aT fun e => by subst e; rw [lX h5 hg] at hy; cases hy), sz := h.sz, fr := fun t' g hg' => ?_ }
 obtain ⟨v, hv, hr⟩ := h.fr t' g hg'
 refine ⟨v, hv, (hr.mono (Kept.refl _ _) (fun b _ => hO b) (az _)).fH fun y hy => aT ?_⟩
 intro e
 subst e
 rw [kQ h2 hg'] at hy
 cases hy
theorem Rel.wK {μ : Mu} {a : Act} {w : World} (h : Rel N cx μ s a w) (hh j hd : Nat) (e : TypeId) (sz : Nat) {k : ap} (hk : aq s.st hh = some k) (hp : k.pure = false) (hj : k.cells[j]? = some (.val (.slice none 0 0))) (hf : fresh s hd = true) (hlp : k.lp = none) :
    ∃ μ', Rel N cx μ' { fr := s.fr, st := bD ((hd, ⟨e, true, true, true, sz, [], none⟩) :: s.st) hh { k with cells := k.cells.set j (.aR hd sz 0 0) }, df := s.df } a w := by
  have h1 := h.wh hd ⟨e, true, true, true, sz, [], none⟩ hf rfl rfl
  have hne : hh ≠ hd := fun e => by
    subst e
    obtain ⟨h2, _⟩ := fc hf
    rw [hk] at h2; cases h2
  have hk2 : aq ((hd, ⟨e, true, true, true, sz, [], none⟩) :: s.st) hh = some k := by rw [aD _ _ hne]; exact hk
  refine ⟨_, h1.vV (s := { fr := s.fr, st := (hd, ⟨e, true, true, true, sz, [], none⟩) :: s.st, df := s.df }) hk2 rfl rfl rfl (by simp) hlp hlp fun i g' hg' => ?_⟩
  simp only [dr] at hg'
  by_cases e : j = i
  · subst e
    rw [if_pos rfl] at hg'
    split at hg'
    · cases hg'
      refine ⟨_, hj, fun v hv => ?_⟩
      unfold cz at hv ⊢
      simp only [hp] at hv ⊢
      cases hv with
      | aH hv => cases hv; exact .eQ hd sz (bz _ _ _)
    · cases hg'
  · rw [if_neg e] at hg'
    refine ⟨g', hg', fun v hv => ?_⟩
    unfold cz at hv ⊢
    exact hv
theorem GW.wK {c:Code}(hh j hd:Nat) (e:TypeId) (sz:Nat){k:ap}(hk:aq s.st hh=some k) (hp:k.pure=false) (hj:k.cells[j]?=some (.val (.slice none 0 0))) (hf:fresh s hd=true)
  (h:GW P N cx c Q {fr:=s.fr,st:=bD ((hd,⟨e,true,true,true,sz,[],none⟩)::s.st) hh {k with cells:=k.cells.set j (.aR hd sz 0 0)},df:=s.df}) (hlp:k.lp=none:=by rfl):GW P N cx c Q s:=fun _ a w hr=>
 let ⟨μ',h'⟩:=hr.wK hh j hd e sz hk hp hj hf hlp
 h μ' a w h'
theorem GL.wK (hh j hd:Nat) (e:TypeId) (sz:Nat){k:ap}(hk:aq s.st hh=some k) (hp:k.pure=false) (hj:k.cells[j]?=some (.val (.slice none 0 0))) (hf:fresh s hd=true)
  (h:GL P N cx ops Q rest {fr:=s.fr,st:=bD ((hd,⟨e,true,true,true,sz,[],none⟩)::s.st) hh {k with cells:=k.cells.set j (.aR hd sz 0 0)},df:=s.df}) (hlp:k.lp=none:=by rfl):GL P N cx ops Q rest s:=fun _ a w hr=>
 let ⟨μ',h'⟩:=hr.wK hh j hd e sz hk hp hj hf hlp
 h μ' a w h'
def PO (st st':List (Nat×ap)) (g g':G):Prop:=iZ st st' g=some g'∨g=g'
def LU (st st':List (Nat×ap)) (fr:List (Nat×G)):List (Nat×G)→Prop
 | []=>True
 | (t,g')::r=>(∃g,get fr t=some g∧PO st st' g g')∧LU st st' fr r
def Kr (st st':List (Nat×ap)):List G→List G→Prop
 | [],[]=>True
 | g::r,g'::r'=>PO st st' g g'∧Kr st st' r r'
 | _,_=>False
def LS (st st':List (Nat×ap)):List (Nat×ap)→Prop
 | []=>True
 | (h,k')::r=>(∃k,aq st h=some k∧k'.bP=k.bP∧k'.cw=k.cw∧k'.sz=k.sz∧k'.pure=k.pure∧k'.fresh=k.fresh∧k'.lp=k.lp∧((k.pure=true∧k'.cells=k.cells)∨(k.pure=false∧Kr st st' k.cells k'.cells)))∧LS st st' r
theorem LU.get {st st':List (Nat×ap)}{fr:List (Nat×G)}:∀{fr':List (Nat×G)},LU st st' fr fr'→∀{t:Nat}{g':G},AM.get fr' t=some g'→∃g,AM.get fr t=some g∧PO st st' g g'
 | [],_,_,_,h=>by cases h
 | (k,g0)::r,⟨h1,h2⟩,t,g',h=>by
  simp only[AM.get] at h
  cases hk:Nat.beq k t with
  | true=>rw[hk] at h;have:=aa hk;subst this;simp at h;subst h;exact h1
  | false=>rw[hk] at h;exact LU.get h2 h
theorem LS.get {st st':List (Nat×ap)}:∀{l:List (Nat×ap)},LS st st' l→∀{t:Nat}{k':ap},aq l t=some k'→∃k,aq st t=some k∧k'.bP=k.bP∧k'.cw=k.cw∧k'.sz=k.sz∧k'.pure=k.pure∧k'.fresh=k.fresh∧k'.lp=k.lp∧((k.pure=true∧k'.cells=k.cells)∨(k.pure=false∧Kr st st' k.cells k'.cells))
 | [],_,_,_,h=>by cases h
 | (k,g0)::r,⟨h1,h2⟩,t,g',h=>by
  simp only[aq] at h
  cases hk:Nat.beq k t with
  | true=>rw[hk] at h;have:=aa hk;subst this;simp at h;subst h;exact h1
  | false=>rw[hk] at h;exact LS.get h2 h
theorem Kr.get {st st':List (Nat×ap)}:∀{l l':List G},Kr st st' l l'→l'.length=l.length∧∀{j:Nat}{g':G},l'[j]?=some g'→∃g,l[j]?=some g∧PO st st' g g'
 | [],[],_=>⟨rfl,fun h=>by cases h⟩
 | _::_,[],h=>h.elim
 | [],_::_,h=>h.elim
 | g::r,g1::r',⟨h1,h2⟩=>by
  obtain⟨h3,h4⟩:=Kr.get h2
  refine⟨by simp[h3],fun {j g'} h=>?_⟩
  cases j with
  | zero=>cases h;exact⟨g,rfl,h1⟩
  | succ j=>exact h4 h
end
end Go.AM
/-
 AM,part U:parts of slices and of texts.
-/
namespace Go.AM
section
variable {α:Type}[aL α]
variable {P:Program}{N:Nat}{cx:Cx}{s:St}{W:List Nat}
variable {dst:Option Tmp}{ty:TypeId}{pos:String}{after:Array Edge}{guard:Option (Nat×Bool)}
theorem Ek {t e:TypeId}(ht:P.underlying t=some (.slice e)):P.underlying t=some (.slice (P.elem t)):=by
 have:P.elem t=e:=by unfold Program.elem;rw[ht]
 rw[this];exact ht
def ko (l:List α) (i j:Int):List α:=(l.drop i.toNat).take (j.toNat-i.toNat)
omit [aL α] in
theorem tT {l:List α}{i j:Int}(_:0≤i) (h1:i≤j) (h2:j≤(l.length:Int)):(ko l i j).length=j.toNat-i.toNat:=by
 unfold ko;rw[aX,cr];omega
theorem bG.part {O:Nat→Prop}{w:World}{l:List α}{v:Value}{i j:Int}(h:bG O w (.sl l.length (c8 l)) v) (h0:0≤i) (h1:i≤j) (h2:j≤(l.length:Int)):
  ∃(a:Option Addr) (len cap:Nat),v=.slice a len cap∧(len:Int)=l.length∧j≤cap∧(len:Int)≤cap∧∀m:Nat,(m:Int)=cap→bG O w (.sl (ko l i j).length (c8 (ko l i j))) (sliced a i.toNat j.toNat m (aL.sz α)):=by
 have zero:l=[]→ko l i j=[]:=fun e=>by subst e;simp[ko]
 generalize hn:l.length=n at h
 generalize hc:c8 l=cs at h
 cases h with
 | nil=>
  have hl:l=[]:=bp hn
  refine⟨none,0,0,rfl,by omega,by omega,by omega,fun m hm=>?_⟩
  rw[zero hl]
  obtain rfl:m=0:=by omega
  obtain rfl:i=0:=by omega
  obtain rfl:j=0:=by omega
  exact .nil
 | gQ a cap=>
  have hl:l=[]:=bp hn
  refine⟨some a,0,cap,rfl,by omega,by omega,by omega,fun m hm=>?_⟩
  rw[zero hl]
  obtain rfl:i=0:=by omega
  obtain rfl:j=0:=by omega
  unfold sliced
  split
  ·exact .gQ _ _
  ·exact .gQ _ _
 | sl _ _ b off cap us hle hO hb hcell hr=>
  subst hn
  subst hc
  refine⟨_,_,cap,rfl,rfl,by omega,by omega,fun m hm=>?_⟩
  obtain rfl:m=cap:=by omega
  unfold sliced
  by_cases e:m=i.toNat
  ·have:(ko l i j).length=0:=by rw[tT h0 h1 h2];omega
   have e2:ko l i j=[]:=bp this
   rw[e2,if_pos e]
   have e3:j.toNat-i.toNat=0:=by omega
   rw[e3]
   exact .gQ _ _
  ·rw[if_neg e,bL,Addr.iY,tT h0 h1 h2]
   have hsub:c8 (ko l i j)=((c8 l).drop (i.toNat*aL.sz α)).take ((j.toNat-i.toNat)*aL.sz α):=by
    unfold ko
    rw[←zy,←zz]
   have hlen:(c8 (ko l i j)).length=(j.toNat-i.toNat)*aL.sz α:=by rw[eT,tT h0 h1 h2]
   have hbig:i.toNat*aL.sz α+(j.toNat-i.toNat)*aL.sz α≤l.length*aL.sz α:=by
    rw[←dD];exact b7 _ (by omega)
   refine .sl _ _ b (off+i.toNat*aL.sz α) (m-i.toNat) (fun q=>us (i.toNat*aL.sz α+q)) (by omega) hO hb (fun q hq=>?_) (fun q g hg=>?_)
   ·rw[hlen] at hq
    have:=hcell (i.toNat*aL.sz α+q) (by rw[eT];omega)
    rw[←this]
    congr 2
    omega
   ·have hq:=(al.1 hg).1
    rw[hlen] at hq
    rw[hsub,bf,if_pos hq,bj] at hg
    exact hr _ g hg
theorem GU {t e:TypeId}(ht:P.underlying t=some (.slice e)) (hsz:∀w,(sizeOf e).run P w=.ok (aL.sz α) w){k k':IntKind}{i j:Int}(a:Option Addr) (len cap:Nat) (h0:0≤i) (h1:i≤j) (h2:j≤cap) (w:World):
  (Instr.sliceAt t (.slice a len cap) (some (.int k i)) (some (.int k' j)) none).run P w=.ok (sliced a i.toNat j.toNat cap (aL.sz α)) w:=by
 have he:=Ek ht
 have e:P.elem t=e:=by unfold Program.elem;rw[ht]
 rw[run_sliceAt_slice w t _ _ _ _ he,run_slice_lh w t a len cap he k k' i j h0 h1 h2,e,hsz w]
 rfl
theorem Cv {t e:TypeId}(ht:P.underlying t=some (.slice e)) (hsz:∀w,(sizeOf e).run P w=.ok (aL.sz α) w){k:IntKind}{i:Int}(a:Option Addr) (len cap:Nat) (h0:0≤i) (h1:i≤len) (w:World):
  (Instr.sliceAt t (.slice a len cap) (some (.int k i)) none none).run P w=.ok (sliced a i.toNat len cap (aL.sz α)) w:=by
 have he:=Ek ht
 have e:P.elem t=e:=by unfold Program.elem;rw[ht]
 rw[run_sliceAt_slice w t _ _ _ _ he,run_slice_l w t a len cap he k i h0 h1,e,hsz w]
 rfl
theorem Cw {t e:TypeId}(ht:P.underlying t=some (.slice e)) (hsz:∀w,(sizeOf e).run P w=.ok (aL.sz α) w){k:IntKind}{j:Int}(a:Option Addr) (len cap:Nat) (h0:0≤j) (h1:j≤cap) (w:World):
  (Instr.sliceAt t (.slice a len cap) none (some (.int k j)) none).run P w=.ok (sliced a 0 j.toNat cap (aL.sz α)) w:=by
 have he:=Ek ht
 have e:P.elem t=e:=by unfold Program.elem;rw[ht]
 rw[run_sliceAt_slice w t _ _ _ _ he,run_slice_h w t a len cap he k j h0 h1,e,hsz w]
 rfl
def Cr (f:Bool) (l:List α):G:=bif f then .fr (.sl l.length (c8 l)) else .sl l.length (c8 l)
theorem aY.part {O:Nat→Prop}{base:Nat}{w:World}{μ:Mu}{f:Bool}{l:List α}{v:Value}{i j:Int}(h:aY O base w μ (Cr f l) v) (h0:0≤i) (h1:i≤j) (h2:j≤(l.length:Int)):
  ∃(a:Option Addr) (len cap:Nat),v=.slice a len cap∧(len:Int)=l.length∧j≤cap∧(len:Int)≤cap∧aY O base w μ (Cr f (ko l i j)) (sliced a i.toNat j.toNat cap (aL.sz α)):=by
 cases f with
 | false=>
  cases h with
  | aH h=>obtain⟨a,len,cap,e1,e2,e3,e4,e5⟩:=h.part h0 h1 h2;exact⟨a,len,cap,e1,e2,e3,e4,.aH (e5 cap rfl)⟩
 | true=>
  cases h with
  | aH h=>cases h
  | fr h=>obtain⟨a,len,cap,e1,e2,e3,e4,e5⟩:=h.part h0 h1 h2;exact⟨a,len,cap,e1,e2,e3,e4,.fr (e5 cap rfl)⟩
theorem PY.slice {t e:TypeId}{x lo hi:Operand}{f:Bool}{l:List α}{k k':IntKind}{i j:Int}(hx:ev s x=some (Cr f l)) (hl:ev s lo=some (.val (.int k i))) (hh:ev s hi=some (.val (.int k' j))) (ht:P.underlying t=some (.slice e)) (hsz:∀w,(sizeOf e).run P w=.ok (aL.sz α) w)
  (h0:0≤i) (h1:i≤j) (h2:j≤(l.length:Int)):PY P s ⟨dst,.slice t x (some lo) (some hi) none,ty,pos,after,guard⟩ (Cr f (ko l i j)):=fun N cx μ a w hr=>by
 obtain⟨ad,len,cap,e1,e2,e3,e4,e5⟩:=(hr.ev hx).part h0 h1 h2
 refine⟨_,e5,fun w'=>?_⟩
 simp[execOp,e1,hr.val hl,hr.val hh,GU ht hsz ad len cap h0 h1 e3]
theorem PY.Rj {t e:TypeId}{x lo:Operand}{f:Bool}{l:List α}{k:IntKind}{i:Int}(hx:ev s x=some (Cr f l)) (hl:ev s lo=some (.val (.int k i))) (ht:P.underlying t=some (.slice e)) (hsz:∀w,(sizeOf e).run P w=.ok (aL.sz α) w)
  (h0:0≤i) (h1:i≤(l.length:Int)):PY P s ⟨dst,.slice t x (some lo) none none,ty,pos,after,guard⟩ (Cr f (ko l i (l.length:Int))):=fun N cx μ a w hr=>by
 obtain⟨ad,len,cap,e1,e2,e3,e4,e5⟩:=(hr.ev hx).part h0 h1 (Int.le_refl _)
 have e6:len=((l.length:Int)).toNat:=by omega
 refine⟨_,e5,fun w'=>?_⟩
 have:=Cv (α:=α) (P:=P) ht hsz (k:=k) ad len cap h0 (by omega) w'
 rw[←e6]
 simp[execOp,e1,hr.val hl,this]
theorem PY.Rk {t e:TypeId}{x hi:Operand}{f:Bool}{l:List α}{k:IntKind}{j:Int}(hx:ev s x=some (Cr f l)) (hh:ev s hi=some (.val (.int k j))) (ht:P.underlying t=some (.slice e)) (hsz:∀w,(sizeOf e).run P w=.ok (aL.sz α) w)
  (h0:0≤j) (h2:j≤(l.length:Int)):PY P s ⟨dst,.slice t x none (some hi) none,ty,pos,after,guard⟩ (Cr f (ko l 0 j)):=fun N cx μ a w hr=>by
 obtain⟨ad,len,cap,e1,e2,e3,e4,e5⟩:=(hr.ev hx).part (Int.le_refl 0) h0 h2
 refine⟨_,e5,fun w'=>?_⟩
 have:=Cw (α:=α) (P:=P) ht hsz (k:=k) ad len cap h0 e3 w'
 simp[execOp,e1,hr.val hh,this]
theorem PY.Ri {t : TypeId} {x lo hi : Operand} {b : ByteArray} {k k' : IntKind} {i j : Int} (hx : ev s x = some (.val (.string b))) (hl : ev s lo = some (.val (.int k i))) (hh : ev s hi = some (.val (.int k' j))) (ht : P.underlying t = some .string)
  (h0 : 0 ≤ i) (h1 : i ≤ j) (h2 : j ≤ (b.size : Int)) : PY P s ⟨dst, .slice t x (some lo) (some hi) none, ty, pos, after, guard⟩ (.val (.string (b.extract i.toNat j.toNat))) := fun N cx μ a w hr => by
 refine ⟨_, .aH (.val _), fun w' => ?_⟩
 have eh : (j.toNat : Int) = j := od (by omega)
 have : (Instr.slice t (.string b) (some (.int k i)) (some (.int k' j)) none).run P w' = .ok (.string (b.extract i.toNat j.toNat)) w' := by
  simp [Instr.slice, run_underlying ht, Instr.sliceBounds, run_sliceBound, *, eh, (by omega : 0 ≤ i), (by omega : 0 ≤ j)]
 simp [execOp, hr.val hx, hr.val hl, hr.val hh, run_sliceAt_string w' t _ _ _ _ ht, this]
theorem PY.P9 {t:TypeId}{x lo:Operand}{b:ByteArray}{k:IntKind}{i:Int}(hx:ev s x=some (.val (.string b))) (hl:ev s lo=some (.val (.int k i))) (ht:P.underlying t=some .string)
  (h0:0≤i) (h1:i≤(b.size:Int)):PY P s ⟨dst,.slice t x (some lo) none none,ty,pos,after,guard⟩ (.val (.string (b.extract i.toNat b.size))):=fun N cx μ a w hr=>by
 refine⟨_,.aH (.val _),fun w'=>?_⟩
 simp[execOp,hr.val hx,hr.val hl,run_sliceAt_string w' t _ _ _ _ ht,run_slice_string_l w' t b ht k i h0 h1]
theorem PY.Qa {t:TypeId}{x hi:Operand}{b:ByteArray}{k:IntKind}{j:Int}(hx:ev s x=some (.val (.string b))) (hh:ev s hi=some (.val (.int k j))) (ht:P.underlying t=some .string)
  (h0:0≤j) (h2:j≤(b.size:Int)):PY P s ⟨dst,.slice t x none (some hi) none,ty,pos,after,guard⟩ (.val (.string (b.extract 0 j.toNat))):=fun N cx μ a w hr=>by
 refine⟨_,.aH (.val _),fun w'=>?_⟩
 simp[execOp,hr.val hx,hr.val hh,run_sliceAt_string w' t _ _ _ _ ht,run_slice_string_h w' t b ht k j h0 h2]
end
end Go.AM
/-
 AM,part V:results that lean on what was handed in;calls that hand in nothing of the call's own.
-/
namespace Go.AM
def l7:G→G
 | .fr g=>g
 | .agg gs=>.agg (go gs)
 | .bl gs=>.bl (go gs)
 | .aF f gs=>.aF f (go gs)
 | g=>g
where go:List G→List G
 | []=>[]
 | g::r=>l7 g::go r
theorem lA {gs:List G}:(l7.go gs).length=gs.length∧∀(j:Nat) (g':G),(l7.go gs)[j]?=some g'→∃g,gs[j]?=some g∧g'=l7 g:=by
 induction gs with
 | nil=>exact⟨rfl,fun j g h=>by simp[l7.go] at h⟩
 | cons x r ih=>
  refine⟨by simp[l7.go,ih.1],fun j g' h=>?_⟩
  simp only[l7.go] at h
  cases j with
  | zero=>cases h;exact⟨x,rfl,rfl⟩
  | succ j=>exact ih.2 j g' h
theorem bG.Co {O:Nat→Prop}{base:Nat}{w:World}{μ:Mu}{g:G}{v:Value}(h:bG O w g v):aY O base w μ (l7 g) v:=by
 induction h with
 | any v=>exact .aH (.any v)
 | val v=>exact .aH (.val v)
 | nil=>exact .aH .nil
 | gQ a c=>exact .aH (.gQ a c)
 | sl n cells b off cap us h1 h2 h3 h4 h5 ih=>exact .aH (.sl n cells b off cap us h1 h2 h3 h4 h5)
 | ptr cells b off us h1 h2 h3 h4 ih=>exact .aH (.ptr cells b off us h1 h2 h3 h4)
 | agg cells us hl hr ih=>
  refine .agg _ us (by rw[lA.1];exact hl) fun j g v hg hv=>?_
  obtain⟨g0,h1,rfl⟩:=lA.2 j g hg
  exact ih j g0 v h1 hv
theorem aY.Co {O:Nat→Prop}{base:Nat}{w:World}{μ:Mu}{g:G}{v:Value}(h:aY O base w μ g v):aY O base w μ (l7 g) v:=by
 induction h with
 | aH h=>exact h.Co
 | fr h=>exact .aH h.rY
 | loc h off b m hm=>exact .loc h off b m hm
 | eQ h sz hm=>exact .eQ h sz hm
 | aR h sz off n b m cap hm hn hc=>exact .aR h sz off n b m cap hm hn hc
 | dJ h sz off0 b m hm hp=>exact .dJ h sz off0 b m hm hp
 | agg cells us hl hr ih=>
  refine .agg _ us (by rw[lA.1];exact hl) fun j g v hg hv=>?_
  obtain⟨g0,h1,rfl⟩:=lA.2 j g hg
  exact ih j g0 v h1 hv
 | bl cells us hl hr ih=>
  refine .bl _ us (by rw[lA.1];exact hl) fun j g v hg hv=>?_
  obtain⟨g0,h1,rfl⟩:=lA.2 j g hg
  exact ih j g0 v h1 hv
 | aF f caps us hl hr ih=>
  refine .aF f _ us (by rw[lA.1];exact hl) fun j g v hg hv=>?_
  obtain⟨g0,h1,rfl⟩:=lA.2 j g hg
  exact ih j g0 v h1 hv
 | ct h b m hm=>exact .ct h b m hm
 | kp h i off b m c n hm hk=>exact .kp h i off b m c n hm hk
 | g9 h i sz x cap hi=>exact .g9 h i sz x cap hi
 | ks h i sz n b m c k cap hm hk hn hc=>exact .ks h i sz n b m c k cap hm hk hn hc
 | dV h b m hm=>exact .dV h b m hm
theorem GM.Co {P:Program}{f:FuncId}{args:List G}{st:List (Nat×ap)}{R:G}{T:List (Nat×ap)→Prop}(h:GM P f args st (fun g st'=>l7 g=R∧T st')):GM P f args st (fun g st'=>g=R∧T st'):=by
 intro X μ w vs h1 h2 h3 h4
 refine(h.returned X μ w vs h1 h2 h3 h4).mono fun e w' ⟨v,r,st',μ',e1,⟨e2,e3⟩,h5,h6⟩=>?_
 exact .inl ⟨v,l7 r,st',μ',e1,⟨e2,e3⟩,h5,h6.Co⟩
def fS:G→Option G
 | .val v=>some (iE v)
 | .sl n cs=>some (.sl n cs)
 | .ptr cs=>some (.ptr cs)
 | .fr g=>some g
 | .agg gs=>(go gs).map .agg
 | .aF f caps=>(go caps).map (.aF f)
 | _=>none
where go:List G→Option (List G)
 | []=>some []
 | g::r=>match fS g,go r with
  | some g',some r'=>some (g'::r')
  | _,_=>none
theorem oO:∀{gs gs':List G},fS.go gs=some gs'→gs'.length=gs.length∧∀(j:Nat) (g':G),gs'[j]?=some g'→∃g,gs[j]?=some g∧fS g=some g'
 | [],_,h=>by cases h;exact⟨rfl,fun j g h=>by simp at h⟩
 | g::r,gs',h=>by
  simp only[fS.go] at h
  cases h1:fS g with
  | none=>rw[h1] at h;cases h
  | some g1=>
   rw[h1] at h
   cases h2:fS.go r with
   | none=>rw[h2] at h;cases h
   | some r1=>
    rw[h2] at h
    cases h
    obtain⟨h3,h4⟩:=oO h2
    refine⟨by simp[h3],fun j g' hg'=>?_⟩
    cases j with
    | zero=>cases hg';exact⟨g,rfl,h1⟩
    | succ j=>exact h4 j g' hg'
theorem L2 {O:Nat→Prop}{base:Nat}{μ:Mu}{w:World}{g g':G}{v:Value}(h:bG O w g v) (hf:fS g=some g'):aY O base w μ g' v:=by
 induction h generalizing g' with
 | any v=>cases hf
 | val v=>
  cases hf
  unfold iE
  split
  ·exact .aH .nil
  ·exact .aH (.val _)
 | nil=>cases hf;exact .aH .nil
 | gQ a c=>cases hf;exact .aH (.gQ a c)
 | sl n cells b off cap us h1 h2 h3 h4 h5 ih=>cases hf;exact .aH (.sl n cells b off cap us h1 h2 h3 h4 h5)
 | ptr cells b off us h1 h2 h3 h4 ih=>cases hf;exact .aH (.ptr cells b off us h1 h2 h3 h4)
 | agg cells us hl hr ih=>
  simp only[fS,av] at hf
  obtain⟨gs',h1,rfl⟩:=hf
  obtain⟨h2,h3⟩:=oO h1
  refine .agg gs' us (by omega) fun j g v hg hv=>?_
  obtain⟨g0,h4,h5⟩:=h3 j g hg
  exact ih j g0 v h4 hv h5
theorem Ku {O:Nat→Prop}{base base':Nat}{μ μ':Mu}{w:World}{g g':G}{v:Value}(h:aY O base w μ g v) (hf:fS g=some g'):aY O base' w μ' g' v:=by
 induction h generalizing g' with
 | aH h=>exact L2 h hf
 | fr h=>cases hf;exact .aH h.rY
 | agg cells us hl hr ih=>
  simp only[fS,av] at hf
  obtain⟨gs',h1,rfl⟩:=hf
  obtain⟨h2,h3⟩:=oO h1
  refine .agg gs' us (by omega) fun j g v hg hv=>?_
  obtain⟨g0,h4,h5⟩:=h3 j g hg
  exact ih j g0 v h4 hv h5
 | aF f caps us hl hr ih=>
  simp only[fS,av] at hf
  obtain⟨gs',h1,rfl⟩:=hf
  obtain⟨h2,h3⟩:=oO h1
  refine .aF f gs' us (by omega) fun j g v hg hv=>?_
  obtain⟨g0,h4,h5⟩:=h3 j g hg
  exact ih j g0 v h4 hv h5
 | _=>cases hf
def lr:G→Bool
 | .val _=>true
 | .sl _ _=>true
 | .ptr _=>true
 | .fr _=>true
 | .agg gs=>go gs
 | .bl gs=>go gs
 | .aF _ gs=>go gs
 | _=>false
where go:List G→Bool
 | []=>true
 | g::r=>lr g&&go r
theorem qU {gs:List G}(h:lr.go gs=true):∀(j:Nat) (g:G),gs[j]?=some g→lr g=true:=by
 induction gs with
 | nil=>intro j g hg;simp at hg
 | cons x r ih=>
  simp only[lr.go,aj] at h
  intro j g hg
  cases j with
  | zero=>cases hg;exact h.1
  | succ j=>exact ih h.2 j g hg
theorem M9 {O O':Nat→Prop}{base base':Nat}{μ μ':Mu}{w:World}{g:G}{v:Value}(h:aY O base w μ g v) (hi:lr g=true) (hO:∀b,O' b→O b) (hb:∀b,b<base'→b<base):aY O' base' w μ' g v:=by
 induction h with
 | aH h=>exact .aH (h.mono (Kept.refl _ _) fun b _ hn ho=>hn (hO b ho))
 | fr h=>
  refine .fr (h.mono (Kept.refl _ _) ?_)
  rintro b _ hn (ho | ho)
  ·exact hn (.inl (hb b ho))
  ·exact hn (.inr (hO b ho))
 | agg cells us hl hr ih=>exact .agg cells us hl fun j g v hg hv=>ih j g v hg hv (qU hi j g hg)
 | bl cells us hl hr ih=>exact .bl cells us hl fun j g v hg hv=>ih j g v hg hv (qU hi j g hg)
 | aF f cells us hl hr ih=>exact .aF f cells us hl fun j g v hg hv=>ih j g v hg hv (qU hi j g hg)
 | _=>cases hi
section
variable {P:Program}{N:Nat}{cx:Cx}{s:St}
variable {ty:TypeId}{pos:String}{after:Array Edge}{guard:Option (Nat×Bool)}{W:List Nat}{d:Nat}
theorem Dl {f:FuncId}{vs:List Value}{gs gs':List G}{Q:G→List (Nat×ap)→Prop}{μ:Mu}{a:Act}{w:World}(hr:Rel N cx μ s a w) (hv:dY fS gs=some gs')
  (hvs:vs.length=gs.length) (hrep:∀(j:Nat) (g:G) (v:Value),gs[j]?=some g→vs[j]?=some v→aY (cx.O s.st μ) cx.base w μ g v)
  (hcon:GM P f gs' [] Q) (hres:∀r st',Q r st'→lr r=true∧st'=[]):
  Calls P f vs.toArray w fun e w'=>∃v r st',e=.returned v∧Q r st'∧Rel N cx μ s a w'∧aY (cx.O s.st μ) cx.base w' μ r v∧Step W s.st μ s.st μ w w':=by
 obtain⟨h1,h2⟩:=oR hv
 have hX:∀b,cx.O s.st μ b→b<w.heap.size:=fun b hb=>by
  rcases hb with hb | hb
  ·have:=hr.st.eg b hb;have:=hr.st.hb;omega
  ·exact ox hr.st hb
 refine(hcon.returned (cx.O s.st μ) (fun _=>none) w vs hX (yT hX) (by omega) fun j g v hg hv=>?_).mono ?_
 ·obtain⟨g0,h3,h4⟩:=h2 j g hg
  have:=Ku (base':=w.heap.size) (μ':=fun _=>none) (hrep j g0 v h3 hv) h4
  exact this.mono (Kept.refl _ _) (fun b _ hn ho=>ho.elim hn tA) (az _)
 ·rintro e w' ⟨v,r,st',μ',rfl,hq,hst,hrv⟩
  have hkeep:∀b,b<w.heap.size→w'.heap[b]?=w.heap[b]?:=fun b hb=>hst.da b hb tA
  obtain⟨hf,hs⟩:=hres r st' hq
  subst hs
  refine⟨v,r,[],rfl,hq,hr.kept hst.hb hkeep hst.os hst.tape hst.output,?_,⟨hst.hb,fun b hb _=>hkeep b hb,fun h k c m b hw h1 h2 hi=>.inl ⟨h,k,c,m,hw,h1,h2,hi⟩⟩⟩
  exact M9 hrv hf (fun b hb=>.inl hb) (fun b hb=>bW hb hr.st.hb)
theorem EF.SK {f:FuncId}{xs:Array Operand}{ts:Array TypeId}{gs gs':List G}{Q:G→List (Nat×ap)→Prop}(hc:∀args w,(callFunc f args).run P w=.ok (.enter f args) w)
  (hx:uf s xs.toList=some gs) (hv:dY fS gs=some gs') (hcon:GM P f gs' [] Q) (hres:∀r st',Q r st'→lr r=true∧st'=[]):
  bN P W s ⟨some d,.call ⟨.value (.func f),xs,ts⟩,ty,pos,after,guard⟩ (fun s'=>∃r st',Q r st'∧s'=s.put d r):=by
 refine⟨(fun _ h=>by cases h),?_⟩
 intro N cx μ a w hr hN K Q' hK
 obtain⟨h1,h2⟩:=mq hx
 have hcall:=Dl (vs:=xs.toList.map a.eval) (W:=W) hr hv (by simp[h1]) (fun j g v hg hv=>by
  obtain⟨x,hxj,he⟩:=h2 j g hg
  rw[ay,hxj] at hv
  cases hv
  exact hr.ev he) hcon hres
 unfold Oper.wp
 have:(execOp a.eval ⟨some d,.call ⟨.value (.func f),xs,ts⟩,ty,pos,after,guard⟩).run P w=.ok (.enter f (xs.toList.map a.eval).toArray) w:=by
  have e:xs.map a.eval=(xs.toList.map a.eval).toArray:=by rw[←en]
  simp[execOp,resolve,invoke,Deferred.ofValue,Act.eval,hc,e]
 rw[this]
 refine hcall.mono ?_
 rintro e w' ⟨v,r,st',rfl,hq,hr',hrv,hst⟩
 exact hK μ _ _ w' (hr'.put (hN d rfl) hrv) ⟨r,st',hq,rfl⟩ hst
end
end Go.AM
/-
 AM,part W:lists without references.
-/
namespace Go.AM
class Flat (α:Type) [aL α]:Prop where
 flat:∀(a:α) (g:G),g∈aL.cells a→∃v,g=.val v
instance:Flat Int:=⟨fun a g h=>by simp[aL.cells] at h;exact⟨_,h⟩⟩
instance:Flat Bool:=⟨fun a g h=>by simp[aL.cells] at h;exact⟨_,h⟩⟩
instance:Flat ByteArray:=⟨fun a g h=>by simp[aL.cells] at h;exact⟨_,h⟩⟩
section
variable {α:Type}[aL α] [Flat α]
variable {P:Program}{N:Nat}{cx:Cx}{Q:Exit→St→Prop}{s:St}{ops:Array Oper}{rest:List Oper}
theorem Rel.qH {μ:Mu}{a:Act}{w:World}(h:Rel N cx μ s a w){hh:Nat}{k:ap}{l:List α}(hk:aq s.st hh=some k) (hc:k.cells=c8 l) (hp:k.pure=true) (hlp:k.lp=none):
  Rel N cx μ {fr:=s.fr,st:=bD s.st hh {k with fresh:=true},df:=s.df} a w:=by
 refine h.vV hk rfl rfl rfl (az _) hlp hlp fun j g' hg'=>⟨g',hg',fun v hv=>?_⟩
 simp only at hg'
 rw[hc] at hg'
 obtain⟨x,_,hx⟩:=ib.1 (ar hg')
 obtain⟨u,rfl⟩:=Flat.flat x g' hx
 unfold cz at hv⊢
 simp only[hp] at hv⊢
 cases hv
 exact .val _
theorem GL.qH (hh:Nat){k:ap}{l:List α}(hk:aq s.st hh=some k) (hc:k.cells=c8 l) (hp:k.pure=true) (h:GL P N cx ops Q rest {fr:=s.fr,st:=bD s.st hh {k with fresh:=true},df:=s.df}) (hlp:k.lp=none:=by rfl):GL P N cx ops Q rest s:=
 fun μ a w hr=>h μ a w (hr.qH hk hc hp hlp)
theorem dS.qH {W:List Nat}{aK:Nat}{listed:Array Bool}(hh:Nat){k:ap}{l:List α}(hk:aq s.st hh=some k) (hc:k.cells=c8 l) (hp:k.pure=true)
  (h:dS P N cx ops Q W aK listed {fr:=s.fr,st:=bD s.st hh {k with fresh:=true},df:=s.df}) (hlp:k.lp=none:=by rfl):dS P N cx ops Q W aK listed s:=fun ws Wb μ a w hr hS hW=>
 h ws Wb μ a w (hr.qH hk hc hp hlp) hS fun x k' c m b h1 h2 h3 h4=>by
  rcases cI hk h2 with ⟨rfl,rfl⟩ | ⟨_,h2⟩
  ·exact hW x k c m b h1 hk h3 h4
  ·exact hW x k' c m b h1 h2 h3 h4
end
section
variable {P:Program}{N:Nat}{cx:Cx}{Q:Exit→St→Prop}{s:St}{ops:Array Oper}{rest:List Oper}
end
section
variable {P:Program}{N:Nat}{cx:Cx}{Q:Exit→St→Prop}{s:St}{ops:Array Oper}
def uA (P:Program) (N:Nat) (cx:Cx) (ops:Array Oper) (Q:Exit→St→Prop) (W:List Nat) (aK:Nat) (listed:Array Bool) (s:St) (i:Nat):Prop:=
 ∀(ws:World) (Wb:Nat→Prop) (μ:Mu) (a:Act) (w:World),Rel N cx μ s a w→Sw ws Wb w→(∀h k c m b,h∈W→aq s.st h=some k→μ h=some (c,m)→In b c m→Wb b∨ws.heap.size≤b)→
  wpOp P ops (lift N cx Q) i (fun a' w'=>Sw ws Wb w'∧wpAnyH P .any ops (lift N cx Q) (Sw ws Wb) aK (listed.setIfInBounds i true) a' w') a w
theorem uA.y {W:List Nat}{aK:Nat}{listed:Array Bool}(i:Nat){o:Oper}{d:Nat}{g:G}(hi:ops[i]?=some o) (hw:cY ops s o.guard=some true) (hd:o.dst=some d) (hN:d<N) (hy:fB P [] s o g)
  (h:dS P N cx ops Q W aK (listed.setIfInBounds i true) (s.put d g)):uA P N cx ops Q W aK listed s i:=by
 intro ws Wb μ a w hrel hS hW
 obtain⟨v,hv,hrun⟩:=hy N cx μ a w hrel
 have hrun:=hrun w (az _) (fun _ _ _=>rfl)
 unfold wpOp
 simp only[hi]
 rw[if_pos (dN hrel hw)]
 refine .inl ?_
 unfold Oper.wp
 rw[hrun]
 show Sw ws Wb w∧_
 refine⟨hS,?_⟩
 rw[hd]
 exact h ws Wb μ _ w (hrel.put hN hv) hS hW
theorem uA.e {W:List Nat}{aK:Nat}{listed:Array Bool}(i:Nat){o:Oper}{T:St→Prop}(hi:ops[i]?=some o) (hw:cY ops s o.guard=some true) (hN:∀d,o.dst=some d→d<N) (he:bN P W s o T)
  (h:∀s',T s'→dS P N cx ops Q W aK (listed.setIfInBounds i true) s'):uA P N cx ops Q W aK listed s i:=by
 intro ws Wb μ a w hrel hS hW
 unfold wpOp
 simp only[hi]
 rw[if_pos (dN hrel hw)]
 have:=he.2 N cx μ a w hrel hN (fun a' w'=>Sw ws Wb w'∧wpAnyH P .any ops (lift N cx Q) (Sw ws Wb) aK (listed.setIfInBounds i true) a' w') (lift N cx Q) ?_
 ·exact .inl this
 ·intro μ' s' a' w' hrel' ht hst
  have hS':Sw ws Wb w':=by
   refine⟨cB hS.size hst.size,fun b hb hn=>?_⟩
   rw[hst.block b (bW hb hS.size) ?_]
   ·exact hS.block b hb hn
   ·intro h k c m h1 h2 h3 hi
    rcases hW h k c m b h1 h2 h3 hi with h4 | h4
    ·exact hn h4
    ·omega
  refine⟨hS',h s' ht ws Wb μ' a' w' hrel' hS' ?_⟩
  intro h k' c m b h1 h2 h3 hi
  rcases hst.hand h k' c m b h1 h2 h3 hi with ⟨h0,k,c0,m0,hw0,h4,h5,h6⟩ | h4
  ·exact hW h0 k c0 m0 b hw0 h4 h5 h6
  ·exact .inr (cB hS.size h4)
theorem uA.eP {W:List Nat}{aK:Nat}{listed:Array Bool}(i:Nat){o:Oper}{T:St→Prop}{Tp:List PanicEntry→St→Prop}(hi:ops[i]?=some o) (hw:cY ops s o.guard=some true) (hN:∀d,o.dst=some d→d<N) (he:lz P W s o T Tp)
  (h:∀s',T s'→dS P N cx ops Q W aK (listed.setIfInBounds i true) s') (hp:∀ch s',Tp ch s'→Q (.panic ch) s'):uA P N cx ops Q W aK listed s i:=by
 intro ws Wb μ a w hrel hS hW
 unfold wpOp
 simp only[hi]
 rw[if_pos (dN hrel hw)]
 have:=he.2 N cx μ a w hrel hN (fun a' w'=>Sw ws Wb w'∧wpAnyH P .any ops (lift N cx Q) (Sw ws Wb) aK (listed.setIfInBounds i true) a' w') (lift N cx Q) ?_ (fun ch μ' s' w' hr' ht=>⟨μ',s',hr',hp ch s' ht⟩)
 ·exact .inl this
 ·intro μ' s' a' w' hrel' ht hst
  have hS':Sw ws Wb w':=by
   refine⟨cB hS.size hst.size,fun b hb hn=>?_⟩
   rw[hst.block b (bW hb hS.size) ?_]
   ·exact hS.block b hb hn
   ·intro h k c m h1 h2 h3 hi
    rcases hW h k c m b h1 h2 h3 hi with h4 | h4
    ·exact hn h4
    ·omega
  refine⟨hS',h s' ht ws Wb μ' a' w' hrel' hS' ?_⟩
  intro h k' c m b h1 h2 h3 hi
  rcases hst.hand h k' c m b h1 h2 h3 hi with ⟨h0,k,c0,m0,hw0,h4,h5,h6⟩ | h4
  ·exact hW h0 k c0 m0 b hw0 h4 h5 h6
  ·exact .inr (cB hS.size h4)
def Dy (P:Program) (N:Nat) (cx:Cx) (ops:Array Oper) (Q:Exit→St→Prop) (W:List Nat) (aK:Nat) (listed:Array Bool) (s:St):List Nat→Prop
 | []=>True
 | i::r=>uA P N cx ops Q W aK listed s i∧Dy P N cx ops Q W aK listed s r
theorem Dy.get {W:List Nat}{aK:Nat}{listed:Array Bool}:∀{rs:List Nat},Dy P N cx ops Q W aK listed s rs→∀i∈rs,uA P N cx ops Q W aK listed s i
 | [],_,_,h=>by cases h
 | j::r,⟨h1,h2⟩,i,h=>by
  rcases aZ.1 h with rfl | h
  ·exact h1
  ·exact Dy.get h2 i h
theorem dS.any {W:List Nat}{aK:Nat}{listed:Array Bool}(i:Nat) (r:List Nat) (hr:Region.ready .any ops listed=i::r) (h:Dy P N cx ops Q W aK listed s (i::r)):dS P N cx ops Q W (aK+1) listed s:=by
 intro ws Wb μ a w hrel hS hW
 refine wpAnyH_all hr (by simp) fun j hj=>h.get j hj ws Wb μ a w hrel hS hW
end
end Go.AM
/-
 AM,part X:calls to which blocks of the caller's own are lent:how handles are told anew,there and back.
-/
namespace Go.AM
def dx:List Nat→Nat→Option Nat
 | [],_=>none
 | x::r,h=>bif Nat.beq x h then some 0 else(dx r h).map (·+1)
theorem ej:∀{H:List Nat}{h i:Nat},dx H h=some i→H[i]?=some h
 | [],_,_,e=>by cases e
 | x::r,h,i,e=>by
  simp only[dx] at e
  cases hb:Nat.beq x h with
  | true=>rw[hb] at e;cases e;have:=aa hb;subst this;rfl
  | false=>
   rw[hb] at e
   obtain⟨n,h1,h2⟩:=av.1 e
   subst h2
   exact ej (H:=r) h1
theorem nk:∀{H:List Nat}{h:Nat},dx H h=none→h∉H
 | [],_,_=>fun h=>by cases h
 | x::r,h,e=>by
  simp only[dx] at e
  cases hb:Nat.beq x h with
  | true=>rw[hb] at e;cases e
  | false=>
   rw[hb] at e
   intro hm
   rcases aZ.1 hm with rfl | hm
   ·rw[aI] at hb;cases hb
   ·exact nk (Option.map_eq_none_iff.1 e) hm
def cj (H:List Nat) (stv:List (Nat×ap)):G→Option G
 | .loc h off=>match dx H h with
  | some i=>some (.loc (1000+i) off)
  | none=>view 4 stv (.loc h off)
 | .aR h sz off m=>match dx H h with
  | some i=>some (.aR (1000+i) sz off m)
  | none=>view 4 stv (.aR h sz off m)
 | .ct h=>match dx H h with
  | some i=>some (.ct (1000+i))
  | none=>none
 | .dV h=>match dx H h with
  | some i=>some (.dV (1000+i))
  | none=>none
 | .kp h j off=>match dx H h with
  | some i=>some (.kp (1000+i) j off)
  | none=>none
 | .ks h j sz n=>match dx H h with
  | some i=>some (.ks (1000+i) j sz n)
  | none=>none
 | .agg gs=>(go gs).map .agg
 | .aF f gs=>(go gs).map (.aF f)
 | .val v=>some (iE v)
 | .sl n cs=>some (.sl n cs)
 | .ptr cs=>some (.ptr cs)
 | .fr g=>some g
 | _=>none
where go:List G→Option (List G)
 | []=>some []
 | g::r=>match cj H stv g,go r with
  | some g',some r'=>some (g'::r')
  | _,_=>none
theorem lS {H:List Nat}{stv:List (Nat×ap)}:∀{gs gs':List G},cj.go H stv gs=some gs'→gs'.length=gs.length∧∀(j:Nat) (g':G),gs'[j]?=some g'→∃g,gs[j]?=some g∧cj H stv g=some g'
 | [],_,h=>by cases h;exact⟨rfl,fun j g h=>by simp at h⟩
 | g::r,gs',h=>by
  simp only[cj.go] at h
  cases h1:cj H stv g with
  | none=>rw[h1] at h;cases h
  | some g1=>
   rw[h1] at h
   cases h2:cj.go H stv r with
   | none=>rw[h2] at h;cases h
   | some r1=>
    rw[h2] at h
    cases h
    obtain⟨h3,h4⟩:=lS h2
    refine⟨by simp[h3],fun j g' hg'=>?_⟩
    cases j with
    | zero=>cases hg';exact⟨g,rfl,h1⟩
    | succ j=>exact h4 j g' hg'
def pZ (H:List Nat) (stv:List (Nat×ap)) (k:ap):Option ap:=
 bif k.pure then some {k with cw:=false,fresh:=false} else match cj.go H stv k.cells with
  | some cs=>some {k with cw:=false,fresh:=false,cells:=cs}
  | none=>none
theorem Lf {H:List Nat}{stv:List (Nat×ap)}{k k':ap}(h:pZ H stv k=some k'):k'.cw=false:=by
 unfold pZ at h
 cases hp:k.pure with
 | true=>rw[hp] at h;cases h;rfl
 | false=>
  rw[hp,cond_false] at h
  split at h
  ·cases h;rfl
  ·cases h
def fF (H:List Nat) (stv st:List (Nat×ap)):List Nat→Nat→Option (List (Nat×ap))
 | [],_=>some []
 | h::r,i=>match aq st h with
  | some k=>match pZ H stv k,fF H stv st r (i+1) with
   | some k',some r'=>some ((1000+i,k')::r')
   | _,_=>none
  | none=>none
theorem nO {H:List Nat}{stv st:List (Nat×ap)}:∀{r:List Nat}{i:Nat}{stC:List (Nat×ap)},fF H stv st r i=some stC→∀{j:Nat}{k':ap},aq stC j=some k'→
  ∃n h k,j=1000+(i+n)∧r[n]?=some h∧aq st h=some k∧pZ H stv k=some k'
 | [],_,_,e,_,_,h=>by cases e;cases h
 | x::r,i,stC,e,j,k',h=>by
  simp only[fF] at e
  cases hk:aq st x with
  | none=>rw[hk] at e;cases e
  | some k=>
   rw[hk] at e
   dsimp only at e
   cases h1:pZ H stv k with
   | none=>rw[h1] at e;cases e
   | some k1=>
    rw[h1] at e
    cases h2:fF H stv st r (i+1) with
    | none=>rw[h2] at e;cases e
    | some r'=>
     rw[h2] at e
     cases e
     simp only[aq] at h
     cases hb:Nat.beq (1000+i) j with
     | true=>
      rw[hb] at h
      cases h
      exact⟨0,x,k,(aa hb).symm,rfl,hk,h1⟩
     | false=>
      rw[hb] at h
      obtain⟨n,y,k2,e1,e2,e3,e4⟩:=nO h2 h
      exact⟨n+1,y,k2,by omega,e2,e3,e4⟩
theorem CT {H:List Nat}{stv st:List (Nat×ap)}:∀{r:List Nat}{i:Nat}{stC:List (Nat×ap)},fF H stv st r i=some stC→∀{n h:Nat},r[n]?=some h→(∃k',aq stC (1000+(i+n))=some k')∧∃k,aq st h=some k
 | [],_,_,_,_,_,h=>by cases h
 | x::r,i,stC,e,n,y,h=>by
  simp only[fF] at e
  cases hk:aq st x with
  | none=>rw[hk] at e;cases e
  | some k=>
   rw[hk] at e
   dsimp only at e
   cases h1:pZ H stv k with
   | none=>rw[h1] at e;cases e
   | some k1=>
    rw[h1] at e
    cases h2:fF H stv st r (i+1) with
    | none=>rw[h2] at e;cases e
    | some r'=>
     rw[h2] at e
     cases e
     cases n with
     | zero=>cases h;exact⟨⟨k1,by rw[dq,dv]⟩,k,hk⟩
     | succ n=>
      obtain⟨⟨k',h3⟩,h4⟩:=CT h2 (n:=n) (h:=y) h
      refine⟨⟨k',?_⟩,h4⟩
      rw[aD _ _ (by omega),show 1000+(i+(n+1))=1000+(i+1+n) by omega]
      exact h3
def jk (H:List Nat) (μ:Mu):Mu:=fun j=>bif pinned j then(H[j-1000]?).bind μ else none
theorem pO (i:Nat):pinned (1000+i)=true:=Nat.ble_eq_true_of_le (by omega)
theorem jj {H:List Nat}{μ:Mu}{i h:Nat}(e:H[i]?=some h):jk H μ (1000+i)=μ h:=by
 unfold jk
 rw[pO,cond_true,show 1000+i-1000=i by omega,e]
 rfl
def fA (H:List Nat):List (Nat×ap)→List (Nat×ap)
 | []=>[]
 | (h,k)::r=>match dx H h with
  | some _=>fA H r
  | none=>(h,k)::fA H r
theorem rX {H:List Nat}{h:Nat}{k:ap}:∀{st:List (Nat×ap)},aq (fA H st) h=some k→dx H h=none∧aq st h=some k
 | [],e=>by cases e
 | (x,k')::r,e=>by
  simp only[fA] at e
  cases hx:dx H x with
  | some i=>
   rw[hx] at e
   obtain⟨h1,h2⟩:=rX e
   refine⟨h1,?_⟩
   rw[aD _ _ fun e=>by subst e;rw[hx] at h1;cases h1]
   exact h2
  | none=>
   rw[hx] at e
   simp only[aq] at e⊢
   cases hb:Nat.beq x h with
   | true=>
    rw[hb] at e
    have:=aa hb
    subst this
    exact⟨hx,e⟩
   | false=>rw[hb] at e;exact rX e
theorem xc {H:List Nat}{h:Nat}{k:ap}(hi:dx H h=none):∀{st:List (Nat×ap)},aq st h=some k→aq (fA H st) h=some k
 | [],e=>by cases e
 | (x,k')::r,e=>by
  simp only[fA]
  simp only[aq] at e
  cases hb:Nat.beq x h with
  | true=>
   rw[hb] at e
   have:=aa hb
   subst this
   rw[hi]
   simp only[aq,aI]
   exact e
  | false=>
   rw[hb] at e
   have:=xc hi (st:=r) e
   split
   ·exact this
   ·simp only[aq,hb];exact this
def jd (cx:Cx) (st:List (Nat×ap)) (μ:Mu) (H:List Nat) (vw:Bool):Nat→Prop:=fun b=>cx.X b∨(vw=false∧Own (fA H st) μ b)
def ez (st:List (Nat×ap)) (H:List Nat) (vw:Bool):List (Nat×ap):=bif vw then fA H st else[]
section
variable {P:Program}{N:Nat}{cx:Cx}{s:St}
theorem jF {st stC stv:List (Nat×ap)}{H:List Nat}{μ:Mu}(hls:fF H stv st H 0=some stC){b:Nat}(ho:Own stC (jk H μ) b):∃(i h:Nat) (k:ap) (c:Nat) (m:Mm),H[i]?=some h∧aq st h=some k∧μ h=some (c,m)∧In b c m:=by
 obtain⟨j,k',c,m,h1,h2,hi⟩:=ho
 obtain⟨n,h,k,rfl,e2,e3,_⟩:=nO hls h1
 rw[bT,jj e2] at h2
 exact⟨n,h,k,c,m,e2,e3,h2,hi⟩
theorem wc {st:List (Nat×ap)}{H:List Nat}{μ:Mu}{b:Nat}(ho:Own (fA H st) μ b):∃h k c m,dx H h=none∧aq st h=some k∧μ h=some (c,m)∧In b c m:=by
 obtain⟨h,k,c,m,h1,h2,hi⟩:=ho
 obtain⟨h3,h4⟩:=rX h1
 exact⟨h,k,c,m,h3,h4,h2,hi⟩
theorem lR {H:List Nat}{i h:Nat}(e:H[i]?=some h):h∈H:=ar e
theorem qP {st:List (Nat×ap)}{H:List Nat}{μ:Mu}{w:World}(hst:cO cx μ st w){i h h' b c c':Nat}{m m':Mm}{k k':ap}(e:H[i]?=some h) (hk:aq st h=some k) (hm:μ h=some (c,m)) (hi:In b c m) (e':dx H h'=none) (hk':aq st h'=some k') (hm':μ h'=some (c',m')) (hi':In b c' m'):False:=by
 have:=hst.cE h h' k k' b c m c' m' hk hk' hm hm' hi hi'
 subst this
 exact nk e' (lR e)
theorem PE {st stC stv:List (Nat×ap)}{H:List Nat}{μ:Mu}(vw:Bool) (hls:fF H stv st H 0=some stC) (w:World) (b:Nat) (ho:(jz (jd cx st μ H vw) stC (jk H μ) w).O stC (jk H μ) b):cx.O st μ b:=by
 rcases ho with (ho | ⟨_,ho⟩) | ho
 ·exact .inl ho
 ·obtain⟨h,k,c,m,_,h2,h3,hi⟩:=wc ho;exact .inr ⟨h,k,c,m,h2,h3,hi⟩
 ·obtain⟨i,h,k,c,m,_,h2,h3,hi⟩:=jF hls ho;exact .inr ⟨h,k,c,m,h2,h3,hi⟩
theorem pY {st stC:List (Nat×ap)}{H:List Nat}{vw:Bool}{μ:Mu}{w:World}(hst:cO cx μ st w) (hls:fF H (ez st H vw) st H 0=some stC){g g':G}{v:Value}(hv:aY (cx.O st μ) cx.base w μ g v)
  (hg:cj H (ez st H vw) g=some g'):aY ((jz (jd cx st μ H vw) stC (jk H μ) w).O stC (jk H μ)) w.heap.size w (jk H μ) g' v:=by
 have hO:=PE (cx:=cx) (μ:=μ) vw hls w
 generalize hOd:(jz (jd cx st μ H vw) stC (jk H μ) w).O stC (jk H μ)=O' at hO
 have hstv:∀h k,aq (ez st H vw) h=some k→vw=true∧dx H h=none∧aq st h=some k:=by
  intro h k hk
  unfold ez at hk
  cases vw with
  | true=>exact⟨rfl,rX hk⟩
  | false=>cases hk
 have look:∀{g g':G}{v:Value},aY (cx.O st μ) cx.base w μ g v→view 4 (ez st H vw) g=some g'→bG O' w g' v:=by
  intro g g' v hv hg
  refine wR (fun h k hk=>hst.dc h k (hstv h k hk).2.2) (fun h k b m x hk hm hi' ho=>?_) hO 4 hv hg
  obtain⟨e0,e1,e2⟩:=hstv h k hk
  rw[←hOd] at ho
  rcases ho with (ho | ⟨ho,_⟩) | ho
  ·exact(hst.bU h k b m x e2 hm hi').1 ho
  ·rw[e0] at ho;cases ho
  ·obtain⟨i,h',k',c',m',h1,h2,h3,hi⟩:=jF hls ho
   exact qP hst h1 h2 h3 hi e1 e2 hm hi'
 have aH:∀{g:G}{v:Value},bG (cx.O st μ) w g v→∀{g'},cj H (ez st H vw) g=some g'→aY O' w.heap.size w (jk H μ) g' v:=by
  intro g v h
  induction h with
  | any v=>intro g' hg;cases hg
  | val v=>intro g' hg;cases hg;exact .aH (rO v)
  | nil=>intro g' hg;cases hg;exact .aH .nil
  | gQ a c=>intro g' hg;cases hg;exact .aH (.gQ a c)
  | sl n cells b off cap us h1 h2 h3 h4 h5 ih=>intro g' hg;cases hg;exact .aH ((bG.sl n cells b off cap us h1 h2 h3 h4 h5).mono (Kept.refl _ _) fun b _ hn ho=>hn (hO b ho))
  | ptr cells b off us h1 h2 h3 h4 ih=>intro g' hg;cases hg;exact .aH ((bG.ptr cells b off us h1 h2 h3 h4).mono (Kept.refl _ _) fun b _ hn ho=>hn (hO b ho))
  | agg cells us hl hr ih=>
   intro g' hg
   simp only[cj,av] at hg
   obtain⟨gs',h1,rfl⟩:=hg
   obtain⟨h2,h3⟩:=lS h1
   refine .agg gs' us (by omega) fun j g v hg hv=>?_
   obtain⟨g0,h4,h5⟩:=h3 j g hg
   exact ih j g0 v h4 hv h5
 induction hv generalizing g' with
 | aH h=>exact aH h hg
 | fr h=>cases hg;exact .aH (h.rY.mono (Kept.refl _ _) fun b _ hn ho=>hn (hO b ho))
 | loc h off b m hm=>
  simp only[cj] at hg
  cases hi:dx H h with
  | some i=>rw[hi] at hg;cases hg;exact .loc _ _ b m (by rw[jj (ej hi)];exact hm)
  | none=>rw[hi] at hg;exact .aH (look (.loc h off b m hm) hg)
 | eQ h sz hm=>
  simp only[cj] at hg
  cases hi:dx H h with
  | some i=>rw[hi] at hg;cases hg;exact .eQ _ _ (by rw[jj (ej hi)];exact hm)
  | none=>rw[hi] at hg;exact .aH (look (.eQ h sz hm) hg)
 | aR h sz off n b m cap hm hn hc=>
  simp only[cj] at hg
  cases hi:dx H h with
  | some i=>rw[hi] at hg;cases hg;exact .aR _ _ _ _ b m cap (by rw[jj (ej hi)];exact hm) hn hc
  | none=>rw[hi] at hg;exact .aH (look (.aR h sz off n b m cap hm hn hc) hg)
 | dJ h sz off0 b m hm hpos=>
  simp only[cj] at hg
  cases hi:dx H h with
  | some i=>rw[hi] at hg;cases hg;exact .dJ _ _ off0 b m (by rw[jj (ej hi)];exact hm) hpos
  | none=>rw[hi] at hg;exact .aH (look (.dJ h sz off0 b m hm hpos) hg)
 | agg cells us hl hr ih=>
  simp only[cj,av] at hg
  obtain⟨gs',h1,rfl⟩:=hg
  obtain⟨h2,h3⟩:=lS h1
  refine .agg gs' us (by omega) fun j g v hg hv=>?_
  obtain⟨g0,h4,h5⟩:=h3 j g hg
  exact ih j g0 v h4 hv h5
 | bl cells us hl hr ih=>cases hg
 | aF f caps us hl hr ih=>
  simp only[cj,av] at hg
  obtain⟨gs',h1,rfl⟩:=hg
  obtain⟨h2,h3⟩:=lS h1
  refine .aF f gs' us (by omega) fun j g v hg hv=>?_
  obtain⟨g0,h4,h5⟩:=h3 j g hg
  exact ih j g0 v h4 hv h5
 | ct h b m hm=>
  simp only[cj] at hg
  cases hi:dx H h with
  | some i=>rw[hi] at hg;cases hg;exact .ct _ b m (by rw[jj (ej hi)];exact hm)
  | none=>rw[hi] at hg;cases hg
 | dV h b m hm=>
  simp only[cj] at hg
  cases hi:dx H h with
  | some i=>rw[hi] at hg;cases hg;exact .dV _ b m (by rw[jj (ej hi)];exact hm)
  | none=>rw[hi] at hg;cases hg
 | kp h j off b m c n hm hk=>
  simp only[cj] at hg
  cases hi:dx H h with
  | some i=>rw[hi] at hg;cases hg;exact .kp _ j off b m c n (by rw[jj (ej hi)];exact hm) hk
  | none=>rw[hi] at hg;cases hg
 | g9 h j sz x cap hb=>
  simp only[cj] at hg
  cases hi:dx H h with
  | some i=>rw[hi] at hg;cases hg;exact .g9 _ j sz x cap hb
  | none=>rw[hi] at hg;cases hg
 | ks h j sz n b m c k cap hm hk hn hc=>
  simp only[cj] at hg
  cases hi:dx H h with
  | some i=>rw[hi] at hg;cases hg;exact .ks _ j sz n b m c k cap (by rw[jj (ej hi)];exact hm) hk hn hc
  | none=>rw[hi] at hg;cases hg
theorem HL {st stC:List (Nat×ap)}{H:List Nat}{vw:Bool}{μ:Mu}{w:World}(hst:cO cx μ st w) (hls:fF H (ez st H vw) st H 0=some stC) (cR:H.Nodup):
  cO (jz (jd cx st μ H vw) stC (jk H μ) w) (jk H μ) stC w:=by
 have hO:=PE (cx:=cx) (μ:=μ) vw hls w
 refine {dc:=?_,cE:=?_,bU:=?_,ei:=fun _ _ _ _=>.inl rfl,eg:=?_,hb:=az _,os:=rfl,tape:=rfl,output:=rfl,da:=fun _ _ _=>rfl}
 ·intro j k' hk'
  obtain⟨n,h,k,rfl,e2,e3,e4⟩:=nO hls hk'
  rw[bT,jj e2]
  have hb:=hst.dc h k e3
  unfold pZ at e4
  cases hp:k.pure with
  | true=>
   rw[hp] at e4
   cases e4
   cases hm:μ h with
   | none=>rw[hm] at hb;exact hb.tS rfl rfl hp.symm
   | some bm=>
    obtain⟨b,m⟩:=bm
    rw[hm] at hb
    cases hl:k.lp with
    | none=>
     obtain⟨cs,h1,h2,h3,h4,h5,h6⟩:=hb.cells hl
     refine .mk rfl (hb.kn hl) ⟨cs,h1,h2,h3,(fun h=>by cases h),h5,fun j g hg=>?_⟩
     obtain⟨v,hv,hrv⟩:=h6 j g hg
     refine⟨v,hv,?_⟩
     unfold cz at hrv⊢
     simp only[hp] at hrv⊢
     have hrv:=hrv.flag (f':=false) (fun h=>by cases h)
     exact bG.mono hrv (Kept.refl _ _) fun b _ hn ho=>hn (hO b ho)
    | some kd=>
     cases kd with
     | loop lp=>
      obtain⟨D,vs,_,_,_,h4,_⟩:=(aQ.loop hl).1 hb
      rw[hp] at h4;cases h4
     | deep d=>
      obtain⟨h1,h2,h3,h4⟩:=(aQ.deep hl).1 hb
      refine(aQ.deep rfl).2 ⟨d.mono h1 (Kept.refl _ _) (fun x _ hn ho=>hn ?_) (fun _ _=>rfl),rfl,h3,fun h=>by cases h⟩
      cases k.fresh with
      | false=>exact hO x ho
      | true=>exact .inr (hO x ho)
  | false=>
   rw[hp,cond_false] at e4
   cases hgo:cj.go H (ez st H vw) k.cells with
   | none=>rw[hgo] at e4;cases e4
   | some cs'=>
    rw[hgo] at e4
    cases e4
    obtain⟨q1,q2⟩:=lS hgo
    cases hm:μ h with
    | none=>
     rw[hm] at hb
     obtain⟨hb1,hb2⟩:=hb
     refine⟨bp (by simp only;rw[q1,hb1];rfl),?_⟩
     dsimp only
     split at hb2
     ·trivial
     ·exact hb2.elim
     ·rw[hp] at hb2;cases hb2.2
    | some bm=>
     obtain⟨b,m⟩:=bm
     rw[hm] at hb
     cases hl:k.lp with
     | none=>
      obtain⟨cs,h1,h2,h3,h4,h5,h6⟩:=hb.cells hl
      refine .mk rfl (hb.kn hl) ⟨cs,h1,h2,by simp only;omega,(fun h=>by cases h),h5,fun j g hg=>?_⟩
      obtain⟨g0,q3,q4⟩:=q2 j g hg
      obtain⟨v,hv,hrv⟩:=h6 j g0 q3
      refine⟨v,hv,?_⟩
      unfold cz at hrv⊢
      simp only[hp] at hrv⊢
      exact pY hst hls hrv q4
     | some kd=>
      cases kd with
      | deep d=>have:=((aQ.deep hl).1 hb).2.1;rw[hp] at this;cases this
      | loop lp=>
       obtain⟨D,vs,h1,h2,h3,h4,h5⟩:=(aQ.loop hl).1 hb
       refine(aQ.loop rfl).2 ⟨D,vs,h1,h2,rfl,rfl,fun j t g ht hg=>?_⟩
       obtain⟨g0,q3,q4⟩:=q2 j g hg
       obtain⟨v,hv,hrv⟩:=h5 j t g0 ht q3
       exact⟨v,hv,pY hst hls hrv q4⟩
 ·intro j j' k1 k2 y b m b' m' h1 h2 h3 h4 hi hi'
  obtain⟨n,h,k,rfl,e2,e3,_⟩:=nO hls h1
  obtain⟨n',h',k',rfl,e2',e3',_⟩:=nO hls h2
  rw[bT,jj e2] at h3
  rw[bT,jj e2'] at h4
  have:=hst.cE h h' k k' y b m b' m' e3 e3' h3 h4 hi hi'
  subst this
  have:=(List.getElem?_inj (al.1 e2).1 cR).1 (e2.trans e2'.symm)
  subst this
  rfl
 ·intro j k1 b m y h1 h2 hi
  obtain⟨n,h,k,rfl,e2,e3,e4⟩:=nO hls h1
  have hA:Own stC (jk H μ) y:=⟨_,_,_,_,h1,h2,hi⟩
  rw[bT,jj e2] at h2
  refine⟨?_,.inr hA,(hst.bU h k b m y e3 h2 hi).2.2.1,fun hm=>?_⟩
  ·rintro(ho | ⟨_,ho⟩)
   ·exact(hst.bU h k b m y e3 h2 hi).1 ho
   ·obtain⟨h',k',c',m',q1,q2,q3,q4⟩:=wc ho
    exact qP hst e2 e3 h2 hi q1 q2 q3 q4
  ·rw[Lf e4] at hm;cases hm
 ·rintro b (ho | ⟨_,ho⟩)
  ·have:=hst.eg b ho;have:=hst.hb;show b<w.heap.size;omega
  ·obtain⟨h',k',c',m',q1,q2,q3,q4⟩:=wc ho
   exact ox hst ⟨h',k',c',m',q2,q3,q4⟩
end
end Go.AM
/-
 AM,part Y:plain facts of partial functions.
-/
namespace Go.AM
theorem uX {σ ρ:Type}{body:σ→Option (σ⊕ρ)}(I:σ→Prop) (m:σ→Nat) (R:ρ→Prop)
  (hstep:∀x,I x→(∃x',body x=some (.inl x')∧I x'∧m x'<m x)∨∃r,body x=some (.inr r)∧R r):
  ∀(n:Nat) (x:σ),I x→m x<n→∃r,aB body n x=some r∧R r:=by
 intro n
 induction n with
 | zero=>intro x _ h;omega
 | succ n ih=>
  intro x hI hm
  rcases hstep x hI with ⟨x',h1,h2,h3⟩ | ⟨r,h1,h2⟩
  ·obtain⟨r,h4,h5⟩:=ih x' h2 (by omega)
   exact⟨r,by simp only[aB,h1];exact h4,h5⟩
  ·exact⟨r,by simp only[aB,h1],h2⟩
theorem MX {σ ρ:Type}{body:σ→Option (σ⊕ρ)}(I:σ→Prop) (m:σ→Nat) (v:ρ)
  (hstep:∀x,I x→(∃x',body x=some (.inl x')∧I x'∧m x'<m x)∨body x=some (.inr v)) (n:Nat) (x:σ) (hI:I x) (hm:m x<n):aB body n x=some v:=by
 obtain⟨r,h1,h2⟩:=uX I m (·=v) (fun x hx=>(hstep x hx).imp id fun h=>⟨v,h,rfl⟩) n x hI hm
 rw[h1,h2]
theorem bM {α:Type}{l:List α}{i:Nat}{x:α}(h:l[i]?=some x):idx l (i:Int)=some x:=by
 unfold idx
 rw[if_pos (by omega)]
 simpa using h
theorem bJ {p:Prop}[Decidable p] (h:p):bo p=some ():=by unfold bo;rw[if_pos h]
theorem i64 {n:Int}(h0:-9223372036854775808≤n) (h1:n≤9223372036854775807):IntKind.i64.wrap n=n:=IntWalk.i64_in n ⟨h0,h1⟩
theorem u64 {n:Int}(h0:0≤n) (h1:n≤18446744073709551615):IntKind.u64.wrap n=n:=IntWalk.u64_in n ⟨h0,h1⟩
def jx {σ α ρ:Type}(g:σ→α→Option (σ⊕ρ)) (e:σ→ρ):σ→List α→Option ρ
 | s,[]=>some (e s)
 | s,x::r=>match g s x with
  | some (.inl s')=>jx g e s' r
  | some (.inr v)=>some v
  | none=>none
def eo {σ τ ρ:Type}(f:σ→τ):Option (σ⊕ρ)→Option (τ⊕ρ)
 | some (.inl s)=>some (.inl (f s))
 | some (.inr r)=>some (.inr r)
 | none=>none
theorem jT {σ τ α ρ:Type}{body:τ→Option (τ⊕ρ)}(l:List α) (st:σ→Int→τ) (g:σ→α→Option (σ⊕ρ)) (e:σ→ρ)
  (hbody:∀(s:σ) (k:Nat) (x:α),l[k]?=some x→body (st s k)=eo (fun s'=>st s' ((k+1:Nat):Int)) (g s x)) (hend:∀s:σ,body (st s (l.length:Int))=some (.inr (e s)))
  (n:Nat) (hn:l.length<n) (s:σ):aB body n (st s 0)=jx g e s l:=by
 have key:∀(m k n:Nat) (s:σ),m=l.length-k→k≤l.length→m<n→aB body n (st s (k:Int))=jx g e s (l.drop k):=by
  intro m
  induction m with
  | zero=>
   intro k n s hm hk hn
   obtain rfl:k=l.length:=by omega
   cases n with
   | zero=>omega
   | succ n=>simp only[aB,hend,nB,jx]
  | succ m ih=>
   intro k n s hm hk hn
   cases n with
   | zero=>omega
   | succ n=>
    have hlt:k<l.length:=by omega
    have hx:l[k]?=some l[k]:=ag hlt
    rw[bY hlt]
    simp only[aB,hbody s k _ hx,jx]
    cases hg:g s l[k] with
    | none=>simp only[eo]
    | some o=>
     cases o with
     | inl s'=>simp only[eo];exact ih (k+1) n s' (by omega) (by omega) (by omega)
     | inr v=>simp only[eo]
 have:=key l.length 0 n s (by omega) (by omega) hn
 simpa using this
theorem dh {k n:Nat}(h:k<n) (hn:n≤9223372036854775807):IntKind.i64.wrap ((k:Int)+1)=((k+1:Nat):Int):=by
 rw[i64 (by omega) (by omega)];omega
theorem ep {α:Type}{l:List α}{k:Nat}{x:α}(h:l[k]?=some x):k<l.length:=(al.1 h).1
theorem dec_lt {α:Type}{l:List α}{k:Nat}{x:α}(h:l[k]?=some x):decide ((k:Int)<(l.length:Int))=true:=by have:=ep h;simp;omega
theorem eF {α:Type}(l:List α):decide ((l.length:Int)<(l.length:Int))=false:=by simp
section
variable {α:Type}[DecidableEq α]
theorem LB (a b:List α) (hl:a.length=b.length) (h63:a.length≤9223372036854775807) (n:Nat) (hn:a.length<n):
  aB (fun i:Int=>cond (decide (i<(List.length a:Int))) ((idx a i).bind fun x2=>(idx b i).bind fun x3=>cond (x2 !=x3) (some (.inr (.ret false))) (some (.inl (IntKind.i64.wrap (i+1))))) (some (.inr (.dW ())))) n 0=
   some (if a=b then Ex.dW () else Ex.ret false):=by
 have h1:=jT (σ:=Unit) (body:=fun i:Int=>cond (decide (i<(List.length a:Int))) ((idx a i).bind fun x2=>(idx b i).bind fun x3=>cond (x2 !=x3) (some (.inr (.ret false))) (some (.inl (IntKind.i64.wrap (i+1))))) (some (.inr (.dW ()))))
  (a.zip b) (fun _ i=>i) (fun _ p=>cond (p.1 !=p.2) (some (.inr (Ex.ret false))) (some (.inl ()))) (fun _=>Ex.dW ()) ?_ ?_ n (by simp[hl];omega) ()
 ·rw[h1]
  clear h1 hn h63
  induction a generalizing b with
  | nil=>cases b with
   | nil=>simp[jx]
   | cons _ _=>simp at hl
  | cons x a ih=>cases b with
   | nil=>simp at hl
   | cons y b=>
    simp only[List.zip_cons_cons,jx]
    by_cases h:x=y
    ·subst h
     simp only[bne_self_eq_false,cond_false,List.cons.injEq,true_and]
     exact ih b (by simpa using hl)
    ·have:(x !=y)=true:=by simpa using h
     simp[this,h]
 ·intro _ k p hp
  have hk:=ep hp
  rw[List.length_zip,hl,Nat.min_self] at hk
  rw[List.getElem?_zip_eq_some] at hp
  have hw:=dh (k:=k) (n:=a.length) (by omega) h63
  simp only[dec_lt hp.1,cond_true,bM hp.1,bM hp.2,ae,hw]
  cases p.1 !=p.2 <;> simp[eo]
 ·intro _
  have:(a.zip b).length=a.length:=by simp[hl]
  simp only[this,eF,cond_false]
theorem AO {β:Type}(s:List β) (f:β→Option Bool) (p:β→Bool) (hf:∀x,f x=some (p x)) (h63:s.length≤9223372036854775807) (n:Nat) (hn:s.length<n):
  ∃r,aB (fun i:Int=>cond (decide (i<(List.length s:Int))) ((idx s i).bind fun x2=>(f x2).bind fun r3=>cond r3 (some (.inr (Ex.ret i))) (some (.inl (IntKind.i64.wrap (i+1))))) (some (.inr (.dW ())))) n 0=some r∧
   (match r with | .dW _=>s.any p=false | .ret i=>0≤i∧s.any p=true):=by
 refine uX (fun i:Int=>∃k:Nat,i=(k:Int)∧k≤s.length∧(s.take k).any p=false) (fun i:Int=>s.length-i.toNat) _ ?_ n 0 ⟨0,rfl,by omega,by simp⟩ (by simpa using hn)
 rintro i ⟨k,rfl,hk,hv⟩
 by_cases h:k<s.length
 ·have hx:s[k]?=some s[k]:=ag h
  cases hv':p s[k] with
  | true=>
   right
   refine⟨.ret k,?_,by omega,?_⟩
   ·simp only[dec_lt hx,cond_true,bM hx,ae,hf,hv']
   ·rw[List.any_eq_true];exact⟨s[k],dE h,hv'⟩
  | false=>
   left
   refine⟨((k+1:Nat):Int),?_,⟨k+1,rfl,by omega,?_⟩,by simp only[bc];omega⟩
   ·simp only[dec_lt hx,cond_true,bM hx,ae,dh h h63,hf,hv',cond_false]
   ·rw[kC,hx]
    simp only[Option.toList_some,List.any_append,List.any_cons,List.any_nil,hv,hv',Bool.or_self]
 ·right
  obtain rfl:k=s.length:=by omega
  refine⟨.dW (),by simp only[eF,cond_false],?_⟩
  simpa using hv
end
end Go.AM
