/-
  AM, second part.
-/
import Derived.Test.YtmhbeopldeccmaaDoorMgA
import Derived.Laws.Tables
import Derived.WalkSpells
import Derived.Laws.Slices
import Derived.Laws.Strings2
import Derived.IntWalk
set_option linter.unusedSectionVars false
set_option linter.unusedSimpArgs false
set_option linter.unusedVariables false
/-
 AM,part L:a dM from a walk;calls by dM.
-/
namespace Go.AM
def pC (P:Program) (fn:Func) (Q:G→List (Nat×aq)→Prop):Exit→St→Prop:=fun e s=>
 (e=.ret∨e=.normal)∧s.df=[]∧∃gs r st',ua P s fn.results.toList gs∧pc s.st st'∧hZ s.st st' (pack gs)=some r∧Q r st'
def QT (P:Program) (fn:Func) (Q:G→List (Nat×aq)→Prop) (Qp:List PanicEntry→List (Nat×aq)→Prop):Exit→St→Prop:=fun e s=>
 pC P fn Q e s∨∃c,e=.panic c∧s.df=[]∧∃st',pc s.st st'∧Qp c st'
theorem iX.refl (Z:Nat→Prop) (w:World):iX Z w w:=⟨rfl,fun _=>.inl rfl,rfl,rfl,rfl⟩
theorem iX.put {Z:Nat→Prop}{w:World}{D:Nat}{o:Obj}(o':Obj) (hz:Z D) (ho:w.heap[D]?=some o) (hc:Oe o=false):iX Z w (w.putObj D o'):=by
 refine⟨by simp[World.putObj],fun b=>?_,rfl,rfl,rfl⟩
 by_cases e:b=D
 ·subst e;exact .inr ⟨hz,o,ho,hc⟩
 ·exact .inl (World.putObj_heap_other e)
theorem iX.cells {Z:Nat→Prop}{w w':World}(h:iX Z w w'){b:Nat}{cs:Array Value}{e:TypeId}{f:Nat×Nat}(hb:w.heap[b]?=some (.cells cs e f)):w'.heap[b]?=some (.cells cs e f):=by
 rcases h.block b with h1 | ⟨_,x,h1,h2⟩
 ·exact h1.trans hb
 ·rw[hb] at h1;cases h1;cases h2
theorem iX.cell {Z:Nat→Prop}{w w':World}(h:iX Z w w'){b j:Nat}{v:Value}(hb:w.cell? ⟨b,j,none⟩=some v):w'.cell? ⟨b,j,none⟩=some v:=by
 rcases h.block b with h1 | ⟨_,x,h1,h2⟩
 ·rw[World.cell?_of_block (w:=w) h1];exact hb
 ·cases x with
  | cells cs e f=>cases h2
  | _=>simp[World.cell?,h1] at hb
theorem bp.shut {O Z:Nat→Prop}{w w':World}{g:G}{v:Value}(hr:bp O w g v) (h:iX Z w w'):bp O w' g v:=by
 induction hr with
 | any v=>exact .any v
 | val v=>exact .val v
 | cQ b v h=>exact .cQ b v h
 | nil=>exact .nil
 | iw a cap=>exact .iw a cap
 | sl n cells b off cap us hn hO1 hb1 hc hr ih=>exact .sl n cells b off cap us hn hO1 (by rw[h.size];exact hb1) (fun j hj=>h.cell (hc j hj)) ih
 | ptr cells b off us hO1 hb1 hc hr ih=>exact .ptr cells b off us hO1 (by rw[h.size];exact hb1) (fun j hj=>h.cell (hc j hj)) ih
 | agg cells us hl hr ih=>exact .agg cells us hl ih
theorem aN.shut {O Z:Nat→Prop}{base:Nat}{w w':World}{μ:Mu}{g:G}{v:Value}(hr:aN O base w μ g v) (h:iX Z w w'):aN O base w' μ g v:=by
 induction hr with
 | aD hr=>exact .aD (hr.shut h)
 | fr hr=>exact .fr (hr.shut h)
 | loc h off b m hm=>exact .loc h off b m hm
 | gX h sz hm=>exact .gX h sz hm
 | aM h sz off n b m cap hm hn hc=>exact .aM h sz off n b m cap hm hn hc
 | fL h sz off0 b m hm hpos=>exact .fL h sz off0 b m hm hpos
 | agg cells us hl hr ih=>exact .agg cells us hl ih
 | aT cells us hl hr ih=>exact .aT cells us hl ih
 | aR f caps us hl hr ih=>exact .aR f caps us hl ih
 | cT h b m hm=>exact .cT h b m hm
 | kp h i off b m c n hm hk=>exact .kp h i off b m c n hm hk
 | k7 h i sz x cap hi=>exact .k7 h i sz x cap hi
 | ks h i sz n b m c k cap hm hk hn hc=>exact .ks h i sz n b m c k cap hm hk hn hc
 | eY h b m hm=>exact .eY h b m hm
theorem aS.shut {O Z:Nat→Prop}{base:Nat}{w w':World}{μ:Mu}{k:aq}{x:Option (Nat×Mm)}(hr:aS O base w μ k x) (h:iX Z w w') (hz:∀b m,x=some (b,m)→k.lp≠none→∀y,In y b m→¬Z y):aS O base w' μ k x:=by
 cases x with
 | none=>exact hr
 | some bm=>
  obtain⟨b,m⟩:=bm
  cases hl:k.lp with
  | none=>
   obtain⟨cs,h2,h3,h4,h6,h8,h5⟩:=hr.cells hl
   refine .mk hl (hr.mn hl) ⟨cs,h.cells h2,h3,h4,h6,h8,fun j g hg=>?_⟩
   obtain⟨v,hv,hrv⟩:=h5 j g hg
   refine⟨v,hv,?_⟩
   unfold cF at hrv⊢
   cases hp:k.pure with
   | true=>rw[hp] at hrv;exact hrv.shut h
   | false=>rw[hp] at hrv;exact hrv.shut h
  | some kd=>
   have hz:=hz b m rfl (by rw[hl];exact fun h=>by cases h)
   cases kd with
   | loop lp=>
    obtain⟨D,vs,h2,h3,h4,h5,h6⟩:=(aS.loop hl).1 hr
    refine(aS.loop hl).2 ⟨D,vs,?_,h3,h4,h5,fun j t g ht hg=>let ⟨v,hv,hrv⟩:=h6 j t g ht hg;⟨v,hv,hrv.shut h⟩⟩
    rcases h.block b with h7 | ⟨h7,_⟩
    ·exact h7.trans h2
    ·exact absurd h7 (hz b (.self _ _))
   | deep d=>
    obtain⟨h1,h2,h3,h4⟩:=(aS.deep hl).1 hr
    exact(aS.deep hl).2 ⟨d.shut h1 h hz,h2,h3,h4⟩
theorem cd.shut {cx:Cx}{μ:Mu}{st:List (Nat×aq)}{w w' w0:World}{Z:Nat→Prop}(hr:cd cx μ st w) (h:iX Z w w') (hz:∀x k b m,ay st x=some k→μ x=some (b,m)→k.lp≠none→∀y,In y b m→¬Z y)
  (h0:w0.os=cx.w0.os∧w0.tape=cx.w0.tape∧w0.output=cx.w0.output) (hk:∀b,b<cx.base→¬cx.A b→w'.heap[b]?=w0.heap[b]?):cd {cx with w0:=w0} μ st w':=
 {ey:=fun x k hx=>(hr.ey x k hx).shut h fun b m hm hl=>hz x k b m hx hm hl,dA:=hr.dA,cv:=fun x k b m y h1 h2 h3=>by rw[h.size];exact hr.cv x k b m y h1 h2 h3,fK:=hr.fK,fo:=hr.fo,hb:=by rw[h.size];exact hr.hb,
  os:=(h.os.trans hr.os).trans h0.1.symm,tape:=(h.tape.trans hr.tape).trans h0.2.1.symm,output:=(h.output.trans hr.output).trans h0.2.2.symm,ec:=hk,
  gl:=fun p hp=>by
   obtain⟨h1,h2,cs,e,f,h3,h4⟩:=hr.gl p hp
   refine⟨h1,h2,cs,e,f,?_,h4⟩
   rw[←hk p.1 h1 h2]
   rcases h.block p.1 with h5 | ⟨_,o,h5,h6⟩
   ·exact h5.trans ((hr.ec p.1 h1 h2).trans h3)
   ·rw[hr.ec p.1 h1 h2,h3] at h5;cases h5;cases h6}
theorem jK.shut {O Z:Nat→Prop}{base:Nat}{w w':World}{μ:Mu}{ds:List Deferred}{gs:List G}(hr:jK O base w μ ds gs) (h:iX Z w w') (hz:∀d∈ds,∀D,d.target=.collected D→¬Z D):jK O base w' μ ds gs:=by
 induction hr with
 | nil=>exact .nil
 | mark h1 h2 h3 h4 h5 h6 ih=>
  refine .mark h1 h2 (by rw[h.size];exact h3) ?_ h5 (ih fun d hd=>hz d (aw _ hd))
  rcases h.block _ with h7 | ⟨h7,_⟩
  ·exact h7.trans h4
  ·exact absurd h7 (hz _ aC _ rfl)
 | aR h1 h2 ih=>exact .aR (h1.shut h) (ih fun d hd=>hz d (aw _ hd))
theorem lT {F:Fence}{n:Nat}{P:Program}{fn:Func}{tmps:Array Value}{R:Ending→World→Prop}{u:FrameMode}(hu:u≠.run){O:Nat→Prop}{base:Nat}{μ:Mu}:
  ∀{ds:List Deferred}{w:World},jK O base w μ ds []→(∀w',iX (fun b=>¬O b∧base≤b) w w'→LeavesIn F n P fn tmps R [] u w')→LeavesInM F n P fn tmps R ds u w
 | [],w,_,K=>K w (iX.refl _ _)
 | d::ds,w,h,K=>by
  cases h with
  | mark h1 h2 h3 h4 h5 h6=>
   rename_i D
   refine⟨hu,.inl ⟨D,_,rfl,run_takeDeferred h4,?_⟩⟩
   have hs:iX (fun b=>¬O b∧base≤b) w (w.putObj D (.deferred none)):=iX.put _ ⟨h1,h2⟩ h4 rfl
   have hs1:iX (fun b=>b=D) w (w.putObj D (.deferred none)):=iX.put _ rfl h4 rfl
   refine lT hu (O:=O) (base:=base) (μ:=μ) (w:=w.putObj D (.deferred none)) (h6.shut hs1 fun d hd D' e e'=>h5 d hd (by rw[e,e'])) fun w' hw'=>K w' ⟨hw'.size.trans hs.size,fun b=>?_,hw'.os.trans hs.os,hw'.tape.trans hs.tape,hw'.output.trans hs.output⟩
   by_cases e:b=D
   ·subst e;exact .inr ⟨⟨h1,h2⟩,_,h4,rfl⟩
   ·rcases hw'.block b with h7 | ⟨h7,o,h8,h9⟩
    ·exact .inl (h7.trans (World.putObj_heap_other e))
    ·exact .inr ⟨h7,o,by rw[←World.putObj_heap_other (o:=.deferred none) e];exact h8,h9⟩
theorem cd.sU {cx:Cx}{μ:Mu}{st:List (Nat×aq)}{w w':World}(hr:cd cx μ st w) (h:iX (fun b=>¬cx.O st μ b∧cx.base≤b) w w'):cd cx μ st w':=
 hr.shut (w0:=cx.w0) h (fun x k b m h1 h2 _ y hy hz=>hz.1 (.inr ⟨x,k,b,m,h1,h2,hy⟩)) ⟨rfl,rfl,rfl⟩ fun b hb hA=>by
  rcases h.block b with h1 | ⟨⟨_,h1⟩,_⟩
  ·exact h1.trans (hr.ec b hb hA)
  ·omega
section
variable {P:Program}{N:Nat}{cx:Cx}{s:St}
theorem Fp {O:Nat→Prop}{base:Nat}{w:World}{μ:Mu}{gs:List G}{vs:List Value}(hl:vs.length=gs.length) (hr:∀(j:Nat) (g:G) (v:Value),gs[j]?=some g→vs[j]?=some v→aN O base w μ g v):
  aN O base w μ (pack gs) (if h:vs.toArray.size=1 then vs.toArray[0] else .tuple vs.toArray):=by
 match gs,vs,hl,hr with
 | [],[],_,hr=>exact .aT [] [] rfl hr
 | [g],[v],_,hr=>exact hr 0 g v rfl rfl
 | g::g'::gs,v::v'::vs,hl,hr=>
  rw[dif_neg (by simp)]
  exact .aT _ _ hl hr
theorem vQ (fn:Func) (a:Act):results fn a.tmps=(do let vs ←fn.results.mapM (vc a);pure (if h:vs.size=1 then vs[0] else .tuple vs)):=rfl
theorem qX {α:Type}(f:α→Sem Value) (xs:Array α) (w w':World) (vs:List Value) (h:(xs.toList.mapM f).run P w=.ok vs w'):(xs.mapM f).run P w=.ok vs.toArray w':=by
 rw[Array.mapM_eq_mapM_toList]
 simp[Sem.run_map,h]
theorem GP.of {f : FuncId} {fn : Func} {c : Code} {args : List G} {st : List (Nat × aq)} {Q : G → List (Nat × aq) → Prop} {Qp : List PanicEntry → List (Nat × aq) → Prop} (hf : P.funcs[f]? = some fn) (hb : fn.body = some c) (hN : fn.ntmps = N) (hle : Nat.ble args.length N = true)
    (h : ∀ cx, cx.ro = none → GW P N cx c (QT P fn Q Qp) { fr := jZ args 0, st := st, df := [] }) : GP P f args st Q Qp := by
  intro X μ w vs hX hst hl ha
  have hle := eN hle
  have hrel : Rel N (eg X st μ w) μ { fr := jZ args 0, st := st, df := [] } { tmps := vs.toArray ++ Array.replicate (fn.ntmps - vs.toArray.size) undef, defers := [] } w := by
    refine { st := hst, nd := .nil, sz := by simp; omega, fr := fun t g hg => ?_ }
    obtain ⟨_, h2⟩ := uZ hg
    simp only [Nat.sub_zero] at h2
    have ht : t < vs.length := by have := (av.1 h2).1; omega
    refine ⟨vs[t], ?_, ha t g vs[t] h2 (ao ht)⟩
    rw [Array.getElem?_append_left (by simpa using ht)]
    simp [ht]
  refine mw.1 (callsIn_of_wp_marks (F := FF none) (n := 0) hf hb trivial ?_)
  refine wpIn_mono (h (eg X st μ w) rfl μ _ w hrel) fun e a' w' hl => ?_
  have fin : ∀ (μ' : Mu) (s' : St), Rel N (eg X st μ w) μ' s' a' w' → QT P fn Q Qp e s' → (e = .ret ∨ e = .normal) → LeavesInM (FF none) 0 P fn a'.tmps (qO X st μ w Q Qp) a'.defers .returning w' := by
    rintro μ' s' hr' hq he
    have hq : pC P fn Q e s' := by
      rcases hq with hq | ⟨c, h1, _⟩
      · exact hq
      · subst h1; rcases he with he | he <;> cases he
    obtain ⟨_, hdf, gs, r, st', h1, h2, h3, h4⟩ := hq
    have cZ := hr'.nd
    rw [hdf] at cZ
    refine lT (fun h => by cases h) cZ fun w'' hs => ?_
    have hr'' : Rel N (eg X st μ w) μ' { s' with df := [] } { a' with defers := [] } w'' :=
      { st := hr'.st.sU hs, nd := .nil, sz := hr'.sz, fr := fun t g hg => let ⟨v, hv, hrv⟩ := hr'.fr t g hg; ⟨v, hv, hrv.shut hs⟩ }
    have h1' : ua P { s' with df := [] } fn.results.toList gs := by
      have : ({ s' with df := [] } : St) = s' := by cases s'; simp only at hdf; subst hdf; rfl
      rw [this]; exact h1
    obtain ⟨vs', hl', hvs, hrun⟩ := h1'.run hr''
    have hp := Fp hl' hvs
    refine ⟨_, ?_, .inl ⟨_, r, st', μ', rfl, h4, hr''.st.sub h2, zT hr''.st (fun h k hk => ⟨k, h2.get hk⟩) hp h3⟩⟩
    have e1 : results fn a'.tmps = results fn ({ a' with defers := [] } : Act).tmps := rfl
    rw [e1, vQ]
    simp only [Sem.run_bind, qX _ _ _ _ _ hrun, Result.andThen_ok, Sem.run_pure]
  cases e with
  | normal => obtain ⟨μ', s', hr', hq⟩ := hl; exact fin μ' s' hr' hq (.inr rfl)
  | ret => obtain ⟨μ', s', hr', hq⟩ := hl; exact fin μ' s' hr' hq (.inl rfl)
  | panic ch =>
    obtain ⟨μ', s', hr', hq⟩ := hl
    have h1 := hr'.st
    have h2 := hr'.nd
    rcases hq with ⟨hq, _⟩ | ⟨c', h4, hdf, st', h5, h6⟩
    · rcases hq with hq | hq <;> cases hq
    · cases h4
      rw [hdf] at h2
      refine lT (fun h => by cases h) h2 fun w'' hs => ?_
      exact .inr ⟨_, st', μ', rfl, h6, (h1.sU hs).sub h5⟩
  | outgrown => exact hl.elim
  | exit id =>
    obtain ⟨μ', s', hr', hq⟩ := hl
    rcases hq with ⟨hq, _⟩ | ⟨c, hq, _⟩
    · rcases hq with hq | hq <;> cases hq
    · cases hq
  | goto l =>
    obtain ⟨μ', s', hr', hq⟩ := hl
    rcases hq with ⟨hq, _⟩ | ⟨c, hq, _⟩
    · rcases hq with hq | hq <;> cases hq
    · cases hq
theorem GM.of {f : FuncId} {fn : Func} {c : Code} {args : List G} {st : List (Nat × aq)} {Q : G → List (Nat × aq) → Prop} (hf : P.funcs[f]? = some fn) (hb : fn.body = some c) (hN : fn.ntmps = N) (hle : Nat.ble args.length N = true)
  (h : ∀ cx, cx.ro = none → GW P N cx c (pC P fn Q) { fr := jZ args 0, st := st, df := [] }) : GM P f args st Q :=
 GP.of hf hb hN hle fun cx hro => (h cx hro).mono fun _ _ hq => .inl hq
def dT (f:G→Option G):List G→Option (List G)
 | []=>some []
 | g::r=>match f g,dT f r with
  | some g',some r'=>some (g'::r')
  | _,_=>none
theorem pn {f:G→Option G}:∀{gs gs':List G},dT f gs=some gs'→gs'.length=gs.length∧∀(j:Nat) (g':G),gs'[j]?=some g'→∃g,gs[j]?=some g∧f g=some g'
 | [],_,h=>by cases h;exact⟨rfl,fun j g h=>by simp at h⟩
 | g::r,gs',h=>by
  simp only[dT] at h
  cases h1:f g with
  | none=>rw[h1] at h;cases h
  | some g1=>
   rw[h1] at h
   cases h2:dT f r with
   | none=>rw[h2] at h;cases h
   | some r1=>
    rw[h2] at h
    cases h
    obtain⟨h3,h4⟩:=pn h2
    refine⟨by simp[h3],fun j g' hg'=>?_⟩
    cases j with
    | zero=>cases hg';exact⟨g,rfl,h1⟩
    | succ j=>exact h4 j g' hg'
def ny:Value→G
 | .slice none 0 0=>.sl 0 []
 | v=>.val v
theorem xk {O:Nat→Prop}{w:World}(v:Value):bp O w (ny v) v:=by
 unfold ny
 split
 ·exact .nil
 ·exact .val _
def view:Nat→List (Nat×aq)→G→Option G
 | 0,_,_=>none
 | n+1,st,g=>match g with
  | .val v=>some (ny v)
  | .cQ b=>some (.cQ b)
  | .sl n cs=>some (.sl n cs)
  | .ptr cs=>some (.ptr cs)
  | .fr g=>some g
  | .aM h sz off m=>match ay st h with
   | some k=>match k.lp with
    | some _=>none
    | none=>match k.pure with
     | true=>some (.sl m ((k.cells.drop off).take (m*sz)))
     | false=>match dT (view n st) ((k.cells.drop off).take (m*sz)) with
      | some cs=>some (.sl m cs)
      | none=>none
   | none=>none
  | .loc h off=>match ay st h with
   | some k=>match k.lp with
    | some _=>none
    | none=>match k.pure with
     | true=>some (.ptr (k.cells.drop off))
     | false=>match dT (view n st) (k.cells.drop off) with
      | some cs=>some (.ptr cs)
      | none=>none
   | none=>none
  | .agg gs=>match dT (view n st) gs with
   | some gs'=>some (.agg gs')
   | none=>none
  | .ks h i sz m=>bif Nat.beq m 0&&Nat.beq i CN then some (.sl 0 []) else match ay st h with
   | some k=>match k.lp with
    | some (.deep d)=>match d.row i with
     | some gs=>bif Nat.beq gs.length (m*sz) then some (.sl m gs) else none
     | none=>none
    | _=>none
   | none=>none
  | _=>none
theorem vH {st:List (Nat×aq)}{O X:Nat→Prop}{base:Nat}{μ:Mu}{w:World}(hblk:∀h k,ay st h=some k→aS O base w μ k (μ h)) (hout:∀h k b m x,ay st h=some k→μ h=some (b,m)→In x b m→¬X x) (hXO:∀b,X b→O b):
  ∀(n:Nat){g g':G}{v:Value},aN O base w μ g v→view n st g=some g'→bp X w g' v
 | 0,_,_,_,_,h=>by cases h
 | n+1,g,g',v,hv,h=>by
  have hX:∀{g v},bp O w g v→bp X w g v:=fun h=>h.mono (Kept.refl _ _) fun b _ hn hx=>hn (hXO b hx)
  have cells:∀(hh off cnt:Nat) (k:aq) (b:Nat) (m:Mm) (cs:List G),ay st hh=some k→k.lp=none→μ hh=some (b,m)→(match k.pure with | true=>some ((k.cells.drop off).take cnt) | false=>dT (view n st) ((k.cells.drop off).take cnt))=some cs→
    ∃us:Nat→Value,¬X b∧b<w.heap.size∧(∀j,j<cs.length→w.cell? ⟨b,off+j,none⟩=some (us j))∧(∀(j:Nat) (g:G),cs[j]?=some g→bp X w g (us j))∧cs.length≤m.1-off:=by
   intro hh off cnt k b m cs hk hlp hm hcs
   have hb:=hblk hh k hk
   rw[hm] at hb
   obtain⟨vs,h1,h2,h3,h4,h5,h6⟩:=hb.cells hlp
   have rd:cs.length≤m.1-off∧∀(j:Nat) (g:G),cs[j]?=some g→∃v,vs[off+j]?=some v∧bp X w g v:=by
    cases hp:k.pure with
    | true=>
     rw[hp] at hcs
     cases hcs
     refine⟨by rw[bH,dF];omega,fun j g hg=>?_⟩
     rw[bg] at hg
     split at hg
     ·rw[bn] at hg
      obtain⟨v,hv,hrv⟩:=h6 _ g hg
      refine⟨v,hv,?_⟩
      unfold cF at hrv
      rw[hp] at hrv
      exact hX (hrv.flag (f':=false) (fun h=>by cases h))
     ·cases hg
    | false=>
     rw[hp] at hcs
     obtain⟨h7,h8⟩:=pn hcs
     refine⟨by rw[h7,bH,dF];omega,fun j g hg=>?_⟩
     obtain⟨g0,h9,h10⟩:=h8 j g hg
     rw[bg] at h9
     split at h9
     ·rw[bn] at h9
      obtain⟨v,hv,hrv⟩:=h6 _ g0 h9
      refine⟨v,hv,?_⟩
      unfold cF at hrv
      rw[hp] at hrv
      exact vH hblk hout hXO n hrv h10
     ·cases h9
   refine⟨fun j=>vs.getD (off+j) undef,hout hh k b m b hk hm (.self _ _),dU h1,fun j hj=>?_,fun j g hg=>?_,rd.1⟩
   ·obtain⟨v,hv,_⟩:=rd.2 j _ (ao hj)
    rw[cell_of h1,hv]
    simp[hv]
   ·obtain⟨v,hv,hrv⟩:=rd.2 j g hg
    simpa[hv] using hrv
  cases g with
  | val u=>cases h;cases hv with | aD hv=>cases hv;exact xk _
  | sl m cs=>cases h;cases hv with | aD hv=>exact hX hv
  | ptr cs=>cases h;cases hv with | aD hv=>exact hX hv
  | fr g=>cases h;cases hv with
   | aD hv=>cases hv
   | fr hv=>exact hX hv.Hv
  | cQ b=>cases h;cases hv with
   | aD hv=>exact hX hv
  | aM hh sz off m=>
   simp only[view] at h
   cases hk:ay st hh with
   | none=>rw[hk] at h;cases h
   | some k=>
    rw[hk] at h
    dsimp only at h
    cases hlp:k.lp with
    | some lp=>rw[hlp] at h;cases h
    | none=>
    rw[hlp] at h
    dsimp only at h
    have key:∃cs,g'=.sl m cs∧(match k.pure with | true=>some ((k.cells.drop off).take (m*sz)) | false=>dT (view n st) ((k.cells.drop off).take (m*sz)))=some cs:=by
     cases hp:k.pure with
     | true=>rw[hp] at h;cases h;exact⟨_,rfl,rfl⟩
     | false=>
      rw[hp] at h
      dsimp only at h⊢
      cases hq:dT (view n st) ((k.cells.drop off).take (m*sz)) with
      | none=>rw[hq] at h;cases h
      | some cs=>rw[hq] at h;cases h;exact⟨_,rfl,rfl⟩
    obtain⟨cs,rfl,hcs⟩:=key
    have len0:∀{cs},m*sz=0→(match k.pure with | true=>some ((k.cells.drop off).take (m*sz)) | false=>dT (view n st) ((k.cells.drop off).take (m*sz)))=some cs→cs=[]:=by
     intro cs h0 h
     rw[h0,kH] at h
     cases hp:k.pure with
     | true=>rw[hp] at h;cases h;rfl
     | false=>rw[hp] at h;cases h;rfl
    cases hv with
    | aD hv=>cases hv
    | gX _ _ hm=>
     rw[len0 (jE _) hcs]
     exact .nil
    | aM _ _ _ _ b m0 cap hm hn hc=>
     obtain⟨us,h1,h2,h3,h4,_⟩:=cells hh off (m*sz) k b m0 cs hk hlp hm hcs
     exact .sl m cs b off cap us hn h1 h2 h3 h4
    | fL _ _ off0 b _ hm hpos=>
     rw[len0 (jE _) hcs]
     obtain⟨us,h1,h2,_⟩:=cells hh off (0*sz) k b _ cs hk hlp hm hcs
     exact .sl 0 [] b off0 0 us (ar _) h1 h2 (fun j hj=>by simp at hj) (fun j g hg=>by simp at hg)
  | loc hh off=>
   simp only[view] at h
   cases hk:ay st hh with
   | none=>rw[hk] at h;cases h
   | some k=>
    rw[hk] at h
    dsimp only at h
    cases hlp:k.lp with
    | some lp=>rw[hlp] at h;cases h
    | none=>
    rw[hlp] at h
    dsimp only at h
    have tk:(k.cells.drop off).take (k.cells.length)=k.cells.drop off:=dz (by rw[dF];omega)
    have key:∃cs,g'=.ptr cs∧(match k.pure with | true=>some ((k.cells.drop off).take k.cells.length) | false=>dT (view n st) ((k.cells.drop off).take k.cells.length))=some cs:=by
     rw[tk]
     cases hp:k.pure with
     | true=>rw[hp] at h;cases h;exact⟨_,rfl,rfl⟩
     | false=>
      rw[hp] at h
      dsimp only at h⊢
      cases hq:dT (view n st) (k.cells.drop off) with
      | none=>rw[hq] at h;cases h
      | some cs=>rw[hq] at h;cases h;exact⟨_,rfl,rfl⟩
    obtain⟨cs,rfl,hcs⟩:=key
    cases hv with
    | aD hv=>cases hv
    | loc _ _ b m0 hm=>
     obtain⟨us,h1,h2,h3,h4,_⟩:=cells hh off _ k b m0 cs hk hlp hm hcs
     exact .ptr cs b off us h1 h2 h3 h4
  | agg gs=>
   simp only[view] at h
   cases hq:dT (view n st) gs with
   | none=>rw[hq] at h;cases h
   | some gs'=>
    rw[hq] at h
    cases h
    obtain⟨h1,h2⟩:=pn hq
    have key:∃us:List Value,v=.agg us.toArray∧us.length=gs.length∧∀(j:Nat) (g:G) (v:Value),gs[j]?=some g→us[j]?=some v→aN O base w μ g v:=by
     cases hv with
     | aD hv=>cases hv with
      | agg _ us hl hr=>exact⟨us,rfl,hl,fun j g v h1 h2=>.aD (hr j g v h1 h2)⟩
     | agg _ us hl hr=>exact⟨us,rfl,hl,hr⟩
    obtain⟨us,rfl,hl,hr⟩:=key
    refine .agg gs' us (by omega) fun j g v hg hv=>?_
    obtain⟨g0,h3,h4⟩:=h2 j g hg
    exact vH hblk hout hXO n (hr j g0 v h3 hv) h4
  | ks hh i sz m=>
   simp only[view] at h
   cases hb0:Nat.beq m 0&&Nat.beq i CN with
   | true=>
    rw[hb0] at h
    cases h
    simp only[ah] at hb0
    have hm0:=ab hb0.1
    have hi0:=ab hb0.2
    subst hm0
    cases hv with
    | aD hv=>cases hv
    | k7 _ _ _ x cap hi=>obtain⟨rfl,rfl⟩:=hi hi0;exact .nil
    | ks _ _ _ _ b m' c k cap hm hk hn hc=>exact .iw _ _
   | false=>
   rw[hb0,cond_false] at h
   cases hk:ay st hh with
   | none=>rw[hk] at h;cases h
   | some k=>
    rw[hk] at h
    dsimp only at h
    split at h
    ·rename_i d hl
     split at h
     ·rename_i gs hrow
      cases hlen:Nat.beq gs.length (m*sz) with
      | false=>rw[hlen] at h;cases h
      | true=>
       rw[hlen] at h
       cases h
       have hl0:=ab hlen
       cases hmu:μ hh with
       | none=>
        cases hv with
        | aD hv=>cases hv
        | k7 _ _ _ x cap hi=>exact absurd (aX (by rw[hl0,jE])) (d.E7 hrow)
        | ks _ _ _ _ b m' c kk cap hm=>rw[hmu] at hm;cases hm
       | some bm=>
        obtain⟨b,mm⟩:=bm
        have hb:=hblk hh k hk
        rw[hmu] at hb
        have hφ:=((aS.deep hl).1 hb).1
        obtain⟨c,kk,cs,bs,h1,h2,h3⟩:=d.IC hφ hrow
        have hXi:∀{g v},bp (bif k.fresh then gm O base else O) w g v→bp X w g v:=fun {g v} h=>by
         cases hkf:k.fresh with
         | false=>rw[hkf] at h;exact hX h
         | true=>rw[hkf] at h;exact hX h.Hv
        have hsl:∀cap,m≤cap→bp X w (.sl m gs) (.slice (some ⟨c,0,none⟩) m cap):=fun cap hcap=>
         .sl m gs c 0 cap (fun j=>cs.getD j undef) hcap (hout hh k b mm c hk hmu (.inr ⟨kk,aQ h1⟩)) (dU h2) (fun j hj=>by
          obtain⟨v,hv,_⟩:=h3 j _ (ao hj)
          rw[cell_of h2,cN,hv]
          simp[hv]) fun j g hg=>by
          obtain⟨v,hv,hrv⟩:=h3 j g hg
          have:=hXi hrv
          simpa[hv] using this
        cases hv with
        | aD hv=>cases hv
        | k7 _ _ _ x cap hi=>exact absurd (aX (by rw[hl0,jE])) (d.E7 hrow)
        | ks _ _ _ _ b' m' c' kk' cap hm hk' hn hc=>
         rw[hmu] at hm
         cases hm
         rw[h1] at hk'
         cases hk'
         exact hsl cap hn
     ·cases h
    ·cases h
  | _=>cases h
theorem CX {st:List (Nat×aq)}{μ:Mu}{w:World}(hst:cd cx μ st w) (n:Nat){g g':G}{v:Value}(hv:aN (cx.O st μ) cx.base w μ g v) (h:view n st g=some g'):bp cx.X w g' v:=
 vH hst.ey (fun h k b m x h1 h2 h3=>(hst.cv h k b m x h1 h2 h3).1) (fun _ h=>.inl h) n hv h
def kh:G→Bool
 | .val _=>true
 | .cQ _=>true
 | .fr _=>true
 | .agg gs=>go gs
 | .aT gs=>go gs
 | _=>false
where go:List G→Bool
 | []=>true
 | g::r=>kh g&&go r
theorem xR {gs:List G}(h:kh.go gs=true):∀(j:Nat) (g:G),gs[j]?=some g→kh g=true:=by
 induction gs with
 | nil=>intro j g hg;simp at hg
 | cons x r ih=>
  simp only[kh.go,ah] at h
  intro j g hg
  cases j with
  | zero=>cases hg;exact h.1
  | succ j=>exact ih h.2 j g hg
end
end Go.AM
/-
 AM,part M:calls of functions by their contracts.
-/
namespace Go.AM
def rA (n:Nat) (st:List (Nat×aq)):G→Option G
 | .aR f caps=>match dT (view n st) caps with
  | some c=>some (.aR f c)
  | none=>none
 | g=>view n st g
def tI (s:St):List Operand→Option (List G)
 | []=>some []
 | x::r=>match ev s x,tI s r with
  | some g,some gs=>some (g::gs)
  | _,_=>none
section
variable {P:Program}{N:Nat}{cx:Cx}{s:St}
theorem mX:∀{xs:List Operand}{gs:List G},tI s xs=some gs→gs.length=xs.length∧∀(j:Nat) (g:G),gs[j]?=some g→∃x,xs[j]?=some x∧ev s x=some g
 | [],_,h=>by cases h;exact⟨rfl,fun j g h=>by simp at h⟩
 | x::r,gs,h=>by
  simp only[tI] at h
  cases h1:ev s x with
  | none=>rw[h1] at h;cases h
  | some g1=>
   rw[h1] at h
   cases h2:tI s r with
   | none=>rw[h2] at h;cases h
   | some r1=>
    rw[h2] at h
    cases h
    obtain⟨h3,h4⟩:=mX h2
    refine⟨by simp[h3],fun j g' hg'=>?_⟩
    cases j with
    | zero=>cases hg';exact⟨x,rfl,h1⟩
    | succ j=>exact h4 j g' hg'
theorem Ic {O:Nat→Prop}{base:Nat}{st:List (Nat×aq)}{μ μ':Mu}{w:World}(hst:cd cx μ st w) (n:Nat){g g':G}{v:Value}(hv:aN (cx.O st μ) cx.base w μ g v) (h:rA n st g=some g')
  (hO:∀b,b<w.heap.size→¬cx.X b→¬O b):aN O base w μ' g' v:=by
 have up:∀{g v},bp cx.X w g v→aN O base w μ' g v:=fun h=>.aD (h.mono (Kept.refl _ _) hO)
 cases g with
 | aR f caps=>
  simp only[rA] at h
  cases hq:dT (view n st) caps with
  | none=>rw[hq] at h;cases h
  | some c=>
   rw[hq] at h
   cases h
   obtain⟨h1,h2⟩:=pn hq
   cases hv with
   | aD hv=>cases hv
   | aR _ _ us hl hr=>
    refine .aR f c us (by omega) fun j g v hg hv=>?_
    obtain⟨g0,h3,h4⟩:=h2 j g hg
    exact up (CX hst n (hr j g0 v h3 hv) h4)
 | _=>exact up (CX hst n hv h)
theorem cd.kept {μ:Mu}{st:List (Nat×aq)}{w w':World}(h:cd cx μ st w) (hsz:w.heap.size≤w'.heap.size) (hb:∀b,b<w.heap.size→w'.heap[b]?=w.heap[b]?) (hos:w'.os=w.os) (htape:w'.tape=w.tape) (hout:w'.output=w.output):cd cx μ st w':=by
 have hk:∀O,Kept O w w':=fun O=>⟨hsz,fun b h _=>hb b h⟩
 refine {ey:=?_,dA:=h.dA,cv:=fun x k b m y h1 h2 h3=>let ⟨a1,a2,a3,a4⟩:=h.cv x k b m y h1 h2 h3;⟨a1,a2,cm a3 hsz,a4⟩,fK:=h.fK,fo:=h.fo,hb:=cR h.hb hsz,os:=hos.trans h.os,tape:=htape.trans h.tape,output:=hout.trans h.output,gl:=h.gl,ec:=fun b h1 h2=>?_}
 ·intro x k hx
  exact(h.ey x k hx).mono (fun b m hm y hy=>hb y (h.cv x k b m y hx hm hy).2.2.1) (hk _) (fun _ _ h=>h)
 ·rw[hb b (by have:=h.hb;omega)];exact h.ec b h1 h2
theorem Rel.kept {μ:Mu}{a:Act}{w w':World}(h:Rel N cx μ s a w) (hsz:w.heap.size≤w'.heap.size) (hb:∀b,b<w.heap.size→w'.heap[b]?=w.heap[b]?) (hos:w'.os=w.os) (htape:w'.tape=w.tape) (hout:w'.output=w.output):Rel N cx μ s a w':=
 {st:=h.st.kept hsz hb hos htape hout,nd:=h.nd.mono ⟨hsz,fun b h _=>hb b h⟩ (fun _ _ h=>h),sz:=h.sz,fr:=fun t g hg=>let ⟨v,hv,hr⟩:=h.fr t g hg;⟨v,hv,hr.mono ⟨hsz,fun b h _=>hb b h⟩ (fun _ _ h=>h) (ar _)⟩}
theorem rQ {μ:Mu}{st:List (Nat×aq)}{w:World}(h:cd cx μ st w){b:Nat}(ho:Own st μ b):b<w.heap.size:=by
 obtain⟨x,k,c,m,h1,h2,h3⟩:=ho
 exact(h.cv x k c m b h1 h2 h3).2.2.1
theorem mV {μ:Mu}{b:Nat}:¬Own [] μ b:=fun ⟨_,_,_,_,h,_⟩=>by cases h
theorem xA {X:Nat→Prop}{μ:Mu}{w:World}(hX:∀b,X b→b<w.heap.size) (hgl:CU (Own [] μ) w.heap.size w):cd (eg X [] μ w) μ [] w:=
 {ey:=fun _ _ h=>(by cases h),dA:=fun _ _ _ _ _ _ _ _ _ h=>(by cases h),cv:=fun _ _ _ _ _ h=>(by cases h),fK:=fun _ _ h=>(by cases h),fo:=hX,hb:=ar _,os:=rfl,tape:=rfl,output:=rfl,gl:=hgl,ec:=fun _ _ _=>rfl}
variable {ty:TypeId}{pos:String}{after:Array Edge}{guard:Option (Nat×Bool)}{W:List Nat}{d:Nat}
theorem DM {f:FuncId}{vs:List Value}{gs gs':List G}{Q:G→List (Nat×aq)→Prop}(n:Nat){μ:Mu}{a:Act}{w:World}(hr:Rel N cx μ s a w) (hv:dT (rA n s.st) gs=some gs')
  (hvs:vs.length=gs.length) (hrep:∀(j:Nat) (g:G) (v:Value),gs[j]?=some g→vs[j]?=some v→aN (cx.O s.st μ) cx.base w μ g v)
  (hcon:GM P f gs' [] Q) (hres:∀r st',Q r st'→kh r=true):
  Calls P f vs.toArray w fun e w'=>∃v r st',e=.returned v∧Q r st'∧Rel N cx μ s a w'∧aN (cx.O s.st μ) cx.base w' μ r v∧Step W s.st μ s.st μ w w':=by
 obtain⟨h1,h2⟩:=pn hv
 have hX:∀b,cx.X b→b<w.heap.size:=fun b hb=>by have:=hr.st.fo b hb;have:=hr.st.hb;omega
 refine(hcon.returned cx.X (fun _=>none) w vs hX (xA hX (hr.st.Oj fun _ h=>(mV h).elim)) (by omega) fun j g v hg hv=>?_).mono ?_
 ·obtain⟨g0,h3,h4⟩:=h2 j g hg
  exact Ic hr.st n (hrep j g0 v h3 hv) h4 fun b _ hn ho=>ho.elim hn mV
 ·rintro e w' ⟨v,r,st',μ',rfl,hq,hst,hrv⟩
  have hkeep:∀b,b<w.heap.size→w'.heap[b]?=w.heap[b]?:=fun b hb=>hst.ec b hb mV
  refine⟨v,r,st',rfl,hq,hr.kept hst.hb hkeep hst.os hst.tape hst.output,?_,⟨hst.hb,fun b hb _=>hkeep b hb,fun h k c m b hw h1 h2 hi=>.inl ⟨h,k,c,m,hw,h1,h2,hi⟩⟩⟩
  have hf:=hres r st' hq
  have hb:=hr.st.hb
  have hxl:=hr.st.fo
  have hol:∀b,Own s.st μ b→b<w.heap.size:=fun b ho=>rQ hr.st ho
  generalize hO:(eg cx.X [] (fun _=>none) w).O st' μ'=O at hrv
  have aD:∀{g:G}{v:Value},bp O w' g v→kh g=true→aN (cx.O s.st μ) cx.base w' μ g v:=by
   intro g v h
   induction h with
   | any v=>intro hf;cases hf
   | val v=>intro _;exact .aD (.val v)
   | cQ b v h=>intro _;exact .aD (.cQ b v h)
   | nil=>intro hf;cases hf
   | iw _ _=>intro hf;cases hf
   | sl _ _ _ _ _ _ _ _ _ _ _=>intro hf;cases hf
   | ptr _ _ _ _ _ _ _ _=>intro hf;cases hf
   | agg cells us hl hr ih=>intro hf;exact .agg cells us hl fun j g v hg hv=>ih j g v hg hv (xR hf j g hg)
  clear hq
  induction hrv with
  | aD h=>exact aD h hf
  | fr h=>
   refine .fr (h.mono (Kept.refl _ _) ?_)
   rintro b hb1 hn (ho | ho | ho)
   ·exact hn (.inl (by show b<w.heap.size;omega))
   ·exact hn (.inl (by have:=hxl b ho;show b<w.heap.size;omega))
   ·exact hn (.inl (hol b ho))
  | agg cells us hl hr ih=>exact .agg cells us hl fun j g v hg hv=>ih j g v hg hv (xR hf j g hg)
  | aT cells us hl hr ih=>exact .aT cells us hl fun j g v hg hv=>ih j g v hg hv (xR hf j g hg)
  | _=>cases hf
theorem EF.call {f:FuncId}{xs:Array Operand}{ts:Array TypeId}{gs gs':List G}{Q:G→List (Nat×aq)→Prop}(n:Nat) (hc:∀args w,(callFunc f args).run P w=.ok (.enter f args) w)
  (hx:tI s xs.toList=some gs) (hv:dT (rA n s.st) gs=some gs') (hcon:GM P f gs' [] Q) (hres:∀r st',Q r st'→kh r=true):
  bW P W s ⟨some d,.call ⟨.value (.func f),xs,ts⟩,ty,pos,after,guard⟩ (fun s'=>∃r st',Q r st'∧s'=s.put d r):=by
 refine⟨(fun _ h=>by cases h),?_⟩
 intro N cx μ a w hr hN K Q' hK
 obtain⟨h1,h2⟩:=mX hx
 have hcall:=DM (vs:=xs.toList.map a.eval) (W:=W) n hr hv (by simp[h1]) (fun j g v hg hv=>by
  obtain⟨x,hxj,he⟩:=h2 j g hg
  rw[ak,hxj] at hv
  cases hv
  exact hr.ev he) hcon hres
 unfold Oper.wp
 have:(execOp a.eval ⟨some d,.call ⟨.value (.func f),xs,ts⟩,ty,pos,after,guard⟩).run P w=.ok (.enter f (xs.toList.map a.eval).toArray) w:=by
  have e:xs.map a.eval=(xs.toList.map a.eval).toArray:=by rw[←hG]
  simp[execOp,resolve,invoke,Deferred.ofValue,Act.eval,hc,e]
 rw[this]
 refine hcall.mono ?_
 rintro e w' ⟨v,r,st',rfl,hq,hr',hrv,hst⟩
 exact hK μ _ _ w' (hr'.put (hN d rfl) hrv) ⟨r,st',hq,rfl⟩ hst
theorem um {P:Program}{a:Act}{w:World}{d:Nat}{ty:TypeId}{pos:String}{after:Array Edge}{guard:Option (Nat×Bool)}{f:FuncId}{x:Operand}{xs:Array Operand}{ts:Array TypeId}{us:List Value}(hb:rH f xs.toList=true) (hc:∀args w,(callFunc f args).run P w=.ok (.enter f args) w)
  (hav:a.eval x=qB f us):(execOp a.eval ⟨some d,.call ⟨.value x,xs,ts⟩,ty,pos,after,guard⟩).run P w=.ok (.enter f (xs.toList.map a.eval++us).toArray) w:=by
 obtain⟨A,B,e1,e2,e3,e4⟩:=yQ f us
 rw[e1] at hav
 have e:A++xs.map a.eval++B=(xs.toList.map a.eval++us).toArray:=by
  cases hb':qK.contains f with
  | false=>
   rw[e3 hb',Array.empty_append] at e2⊢
   rw[e2,←List.append_toArray,←hG]
  | true=>
   have hx:xs=#[]:=by
    cases xs with
    | mk l=>cases l with
     | nil=>rfl
     | cons y r=>simp[rH] at hb;exact absurd hb' (by simp[hb])
   subst hx
   rw[e4 hb'] at e2⊢
   simpa using e2
 simp[execOp,resolve,invoke,Deferred.ofValue,hav,hc,e]
theorem EF.Ro {f:FuncId}{x:Operand}{xs:Array Operand}{ts:Array TypeId}{gs caps gs':List G}{Q:G→List (Nat×aq)→Prop}(n:Nat) (hb:rH f xs.toList=true) (hc:∀args w,(callFunc f args).run P w=.ok (.enter f args) w)
  (hf:ev s x=some (.aR f caps)) (hx:tI s xs.toList=some gs) (hv:dT (rA n s.st) (gs++caps)=some gs') (hcon:GM P f gs' [] Q) (hres:∀r st',Q r st'→kh r=true):
  bW P W s ⟨some d,.call ⟨.value x,xs,ts⟩,ty,pos,after,guard⟩ (fun s'=>∃r st',Q r st'∧s'=s.put d r):=by
 refine⟨(fun _ h=>by cases h),?_⟩
 intro N cx μ a w hr hN K Q' hK
 obtain⟨h1,h2⟩:=mX hx
 have hcl:=hr.ev hf
 generalize hav:a.eval x=vf at hcl
 cases hcl with
 | aD h=>cases h
 | aR _ _ us hl hrc=>
  have hcall:=DM (vs:=xs.toList.map a.eval++us) (W:=W) n hr hv (by simp[h1,hl]) (fun j g v hg hv=>by
   rw[bC] at hg hv
   rw[aU,←h1] at hv
   split at hg
   ·rename_i hj
    rw[if_pos hj] at hv
    obtain⟨x,hxj,he⟩:=h2 j g hg
    rw[ak,hxj] at hv
    cases hv
    exact hr.ev he
   ·rename_i hj
    rw[if_neg hj] at hv
    exact hrc _ g v hg hv) hcon hres
  unfold Oper.wp
  have:=um (P:=P) (w:=w) (d:=d) (ty:=ty) (pos:=pos) (after:=after) (guard:=guard) (ts:=ts) hb hc hav
  rw[this]
  refine hcall.mono ?_
  rintro e w' ⟨v,r,st',rfl,hq,hr',hrv,hst⟩
  exact hK μ _ _ w' (hr'.put (hN d rfl) hrv) ⟨r,st',hq,rfl⟩ hst
end
end Go.AM
/-
 AM,part N:the steps in the form in which a walk takes them;encodings.
-/
namespace Go.AM
section
variable {P:Program}{N:Nat}{cx:Cx}{Q:Exit→St→Prop}{s:St}{ops:Array Oper}{rest:List Oper}
variable {d:Nat}{op:Op}{ty:TypeId}{pos:String}{after:Array Edge}{guard:Option (Nat×Bool)}
theorem GL.py {g:G}(hy:PY P s ⟨some d,op,ty,pos,after,guard⟩ g) (hw:dq ops s guard=some true) (hN:Nat.blt d N=true) (h:GL P N cx ops Q rest (s.put d g)):
  GL P N cx ops Q (⟨some d,op,ty,pos,after,guard⟩::rest) s:=GL.yield hw rfl (by simpa[fU] using hN) (hy.yield []) h
theorem GL.y {g:G}(hy:fO P [] s ⟨some d,op,ty,pos,after,guard⟩ g) (hw:dq ops s guard=some true) (hN:Nat.blt d N=true) (h:GL P N cx ops Q rest (s.put d g)):
  GL P N cx ops Q (⟨some d,op,ty,pos,after,guard⟩::rest) s:=GL.yield hw rfl (by simpa[fU] using hN) hy h
theorem GL.e {W:List Nat}{T:St→Prop}(he:bW P W s ⟨some d,op,ty,pos,after,guard⟩ T) (hw:dq ops s guard=some true) (hN:Nat.blt d N=true) (h:∀s',T s'→GL P N cx ops Q rest s'):
  GL P N cx ops Q (⟨some d,op,ty,pos,after,guard⟩::rest) s:=GL.effect hw (fun d' e=>by cases e;simpa[fU] using hN) he h
theorem GL.e1 {W:List Nat}{s1:St}(he:bW P W s ⟨some d,op,ty,pos,after,guard⟩ (·=s1)) (hw:dq ops s guard=some true) (hN:Nat.blt d N=true) (h:GL P N cx ops Q rest s1):
  GL P N cx ops Q (⟨some d,op,ty,pos,after,guard⟩::rest) s:=GL.e he hw hN fun _ e=>e▸h
theorem GL.e0 {W:List Nat}{s1:St}(he:bW P W s ⟨none,op,ty,pos,after,guard⟩ (·=s1)) (hw:dq ops s guard=some true) (h:GL P N cx ops Q rest s1):
  GL P N cx ops Q (⟨none,op,ty,pos,after,guard⟩::rest) s:=GL.effect hw (fun d' e=>by cases e) he fun _ e=>e▸h
end
def ints (l:List Int):List G:=l.map fun n=>.val (.int .i64 n)
@[simp] theorem QX (l:List Int):(ints l).length=l.length:=by simp[ints]
end Go.AM
/-
 AM,part O:data as Lean data:encodings;loops and joins as partial functions.
-/
namespace Go.AM
inductive Ex (β γ:Type) where
 | bw (b:β)
 | ret (r:γ)
def br {β γ ο:Type}(inj:γ→ο) (m:Option (Ex β γ)) (k:β→Option ο):Option ο:=
 match m with
 | some (.bw b)=>k b
 | some (.ret r)=>some (inj r)
 | none=>none
def aW {σ ρ:Type}(body:σ→Option (σ⊕ρ)):Nat→σ→Option ρ
 | 0,_=>none
 | n+1,x=>match body x with
  | some (.inl x')=>aW body n x'
  | some (.inr r)=>some r
  | none=>none
def idx {α:Type}(l:List α) (i:Int):Option α:=if 0≤i then l[i.toNat]? else none
def qL (l:ByteArray) (i:Int):Option UInt8:=if 0≤i then l[i.toNat]? else none
theorem LH {l:ByteArray}{i:Int}{x:UInt8}(h:qL l i=some x):0≤i∧l[i.toNat]?=some x:=by
 unfold qL at h
 split at h
 ·rename_i h0;exact⟨h0,h⟩
 ·cases h
def cj (p:Prop) [Decidable p]:Option Unit:=if p then some () else none
theorem zR {α:Type}{l:List α}{i:Int}{x:α}(h:idx l i=some x):0≤i∧i<(l.length:Int)∧l[i.toNat]?=some x:=by
 unfold idx at h
 split at h
 ·rename_i h0
  have:=(av.1 h).1
  exact⟨h0,by omega,h⟩
 ·cases h
theorem cO {p:Prop}[Decidable p]{u:Unit}(h:cj p=some u):p:=by
 unfold cj at h
 split at h
 ·assumption
 ·cases h
theorem bind_some {α β:Type}{m:Option α}{k:α→Option β}{r:β}(h:m.bind k=some r):∃x,m=some x∧k x=some r:=Option.bind_eq_some_iff.1 h
theorem BO {β γ ο:Type}{inj:γ→ο}{m:Option (Ex β γ)}{k:β→Option ο}{r:ο}(h:br inj m k=some r):∃e,m=some e∧(∀b,e=.bw b→k b=some r)∧(∀r',e=.ret r'→inj r'=r):=by
 unfold br at h
 split at h
 ·exact⟨_,rfl,fun b e=>(by cases e;exact h),fun r' e=>(by cases e)⟩
 ·exact⟨_,rfl,fun b e=>(by cases e),fun r' e=>(by cases e;cases h;rfl)⟩
 ·cases h
section
variable {P:Program}{N:Nat}{cx:Cx}{Q:Exit→St→Prop}
theorem pC.mk {fn:Func}{Qf:G→List (Nat×aq)→Prop}{s:St}{e:Exit}(he:e=.ret∨e=.normal) (gs:List G) (r:G) (st':List (Nat×aq)) (h1:ua P s fn.results.toList gs) (h2:pc s.st st') (h3:hZ s.st st' (pack gs)=some r) (h4:Qf r st') (hdf:s.df=[]:=by rfl):pC P fn Qf e s:=
 ⟨he,hdf,gs,r,st',h1,h2,h3,h4⟩
end
def ss (n:Int):Prop:=-9223372036854775808≤n∧n≤9223372036854775807
def Ry (s:ByteArray):Prop:=s.size≤9223372036854775807
class aO (α:Type) where
 sz:Nat
 cells:α→List G
 len:∀a,(cells a).length=sz
 pos:0<sz
 one:∀a g,g∈cells a→g.one=true
def ed {α:Type}[aO α] (l:List α):List G:=l.flatMap aO.cells
instance:aO Int:=⟨1,fun n=>[.val (.int .i64 n)],fun _=>rfl,by decide,fun a g h=>by simp at h;subst h;rfl⟩
instance:aO Bool:=⟨1,fun n=>[.val (.bool n)],fun _=>rfl,by decide,fun a g h=>by simp at h;subst h;rfl⟩
instance:aO ByteArray:=⟨1,fun n=>[.val (.string n)],fun _=>rfl,by decide,fun a g h=>by simp at h;subst h;rfl⟩
instance {α:Type}[aO α]:aO (List α):=⟨1,fun l=>[.sl l.length (ed l)],fun _=>rfl,by decide,fun a g h=>by simp at h;subst h;rfl⟩
section
variable {α:Type}[aO α]
theorem iA (l:List α):(ed l).length=l.length*aO.sz α:=by
 unfold ed
 induction l with
 | nil=>simp
 | cons x r ih=>rw[cP,al,ih,aO.len,bl,fA];omega
theorem Nk (l:List α):∀g,g∈ed l→g.one=true:=by
 intro g hg
 obtain⟨a,_,h⟩:=ob.1 hg
 exact aO.one a g h
theorem tJ {l:List α}{i:Nat}{x:α}(h:l[i]?=some x){j:Nat}(hj:j<aO.sz α):(ed l)[i*aO.sz α+j]?=(aO.cells x)[j]?:=by
 unfold ed
 rw[rE aO.cells (aO.sz α) aO.pos l (fun a _=>aO.len a)]
 have h1:(i*aO.sz α+j)/aO.sz α=i:=by
  rw[p5,Nat.mul_add_div aO.pos,Nat.div_eq_of_lt hj];rfl
 have h2:(i*aO.sz α+j)%aO.sz α=j:=by
  rw[p5,Nat.mul_add_mod,Nat.mod_eq_of_lt hj]
 rw[h1,h2,h]
 rfl
theorem D7 {l:List α}{i:Nat}{x:α}(h:l[i]?=some x){j:Nat}(hj:j<aO.sz α):((ed l).drop (i*aO.sz α))[j]?=(aO.cells x)[j]?:=by
 rw[bn];exact tJ h hj
theorem zj (l m:List α):ed (l++m)=ed l++ed m:=by simp[ed]
theorem Ll (x:α) (l:List α):ed (x::l)=aO.cells x++ed l:=rfl
theorem xW (l:List α) (n:Nat):(ed l).take (n*aO.sz α)=ed (l.take n):=by
 unfold ed
 induction l generalizing n with
 | nil=>simp
 | cons x r ih=>
  cases n with
  | zero=>simp
  | succ n=>
   rw[List.take_succ_cons,cP,cP,List.take_append,aO.len,←ih n]
   have h1:(n+1)*aO.sz α-aO.sz α=n*aO.sz α:=by rw[fA];omega
   rw[h1,dz (by rw[aO.len,fA];omega)]
theorem xX (l:List α) (n:Nat):(ed l).drop (n*aO.sz α)=ed (l.drop n):=by
 unfold ed
 induction l generalizing n with
 | nil=>simp
 | cons x r ih=>
  cases n with
  | zero=>simp
  | succ n=>
   rw[List.drop_succ_cons,cP,List.drop_append,aO.len,←ih n]
   have h1:(n+1)*aO.sz α-aO.sz α=n*aO.sz α:=by rw[fA];omega
   rw[h1,List.drop_of_length_le (by rw[aO.len,fA];omega),jd]
end
end Go.AM
/-
 AM,part P:the steps over encoded data.
-/
namespace Go.AM
section
variable {α:Type}[aO α]
variable {P:Program}{N:Nat}{cx:Cx}{s:St}{W:List Nat}
variable {dst:Option Tmp}{ty:TypeId}{pos:String}{after:Array Edge}{guard:Option (Nat×Bool)}
theorem Gi {l:List α}{i:Int}{x:α}(h:idx l i=some x):((ed l).drop (i.toNat*aO.sz α)).take (aO.sz α)=aO.cells x:=by
 apply jT
 intro j
 rw[bg]
 split
 ·rename_i hj
  exact D7 (zR h).2.2 hj
 ·rename_i hj
  rw[mZ]
  rw[aO.len];omega
variable {d:Nat}
theorem ET.append {l m:List α}{t e:TypeId}{xo yo:Operand}{h bt:Nat}{k:aq}{gy:G}{f:Bool}{z:Value}(hx:ev s xo=some (.aM h (aO.sz α) 0 l.length)) (hy:ev s yo=some gy) (hk:ay s.st h=some k) (hc:k.cells=ed l)
  (hp:k.pure=true) (hety:k.bs=e) (hksz:k.sz=aO.sz α) (hsrc:wu s.st (aO.sz α) gy=some (ed m,m.length,f)) (hap:gy.bR h=false) (ht:P.underlying t=some (.slice e))
  (hi:(P.info? e).map (fun i=>(i.zero,i.size,i.bytes))=some (some z,aO.sz α,bt)) (hzs:z.cells.size=aO.sz α) (uY:l.length+m.length≤maxLen) (hbound:(l.length+m.length)*bt≤140737488355328) (hW:W.contains h=true) (hlp:k.lp=none:=by rfl) (hpn:pinned h=false:=by rfl) (hdf:oE h s.df=true:=by rfl):
  bW P W s ⟨some d,.call ⟨.builtin .append,#[xo,yo],#[t,t]⟩,ty,pos,after,guard⟩
   (·={fr:=(d,.aM h (aO.sz α) 0 (l++m).length)::lU h s.fr,st:=(h,{k with fresh:=k.fresh&&f,cells:=ed (l++m)})::fp h s.st,df:=s.df}):=by
 have:=EF.append (P:=P) (d:=d) (W:=W) (ty:=ty) (pos:=pos) (after:=after) (guard:=guard) hx hy hk hp hety hksz (by rw[hc,iA]) hsrc (by rw[iA]) (fun g hg=>Nk m g hg) hap ht hi hzs aO.pos uY hbound hW hlp hpn hdf
 rw[zj,al,←hc]
 exact this
end
end Go.AM
/-
 AM,part Q:a slot whose value is known;two loads of which either may come up first.
-/
namespace Go.AM
section
variable {P:Program}{N:Nat}{cx:Cx}{Q:Exit→St→Prop}{s:St}{ops:Array Oper}{rest:List Oper}
theorem Rel.dup {μ:Mu}{a:Act}{w:World}{t:Nat}{g:G}(hr:Rel N cx μ s a w) (hg:get s.fr t=some g):Rel N cx μ {fr:=(t,g)::s.fr,st:=s.st,df:=s.df} a w:=
 {st:=hr.st,nd:=hr.nd,sz:=hr.sz,fr:=fun t' g' h=>by
   simp only[get] at h
   cases e:t.beq t' with
   | true=>
    rw[e,cond_true] at h
    cases h
    have e:=ab e
    subst e
    exact hr.fr _ _ hg
   | false=>
    rw[e,cond_false] at h
    exact hr.fr _ _ h}
theorem GL.lit (t:Nat){b v:Bool}(hg:get s.fr t=some (.val (.bool b))) (hb:b=v) (h:GL P N cx ops Q rest {fr:=(t,.val (.bool v))::s.fr,st:=s.st,df:=s.df}):GL P N cx ops Q rest s:=fun μ a w hr=>by
 subst hb
 exact h μ a w (hr.dup hg)
theorem pZ.lit {W:List Nat}{bi:Nat}{listed:Array Bool}(t:Nat){b v:Bool}(hg:get s.fr t=some (.val (.bool b))) (hb:b=v) (h:pZ P N cx ops Q W bi listed {fr:=(t,.val (.bool v))::s.fr,st:=s.st,df:=s.df}):pZ P N cx ops Q W bi listed s:=fun μ a w hr=>by
 subst hb
 exact h μ a w (hr.dup hg)
theorem eX.lit {W:List Nat}{bi:Nat}{listed:Array Bool}(t:Nat){b v:Bool}(hg:get s.fr t=some (.val (.bool b))) (hb:b=v) (h:eX P N cx ops Q W bi listed {fr:=(t,.val (.bool v))::s.fr,st:=s.st,df:=s.df}):eX P N cx ops Q W bi listed s:=fun ws Wb μ a w hr=>by
 subst hb
 exact h ws Wb μ a w (hr.dup hg)
end
section
variable {α:Type}[aO α]
variable {P:Program}{N:Nat}{cx:Cx}{s:St}{W:List Nat}
variable {dst:Option Tmp}{ty:TypeId}{pos:String}{after:Array Edge}{guard:Option (Nat×Bool)}
end
end Go.AM
/-
 AM,part R:struct values put together;an empty slice written out;operations that were skipped.
-/
namespace Go.AM
section
variable {P:Program}{N:Nat}{cx:Cx}{Q:Exit→St→Prop}{s:St}{ops:Array Oper}{rest:List Oper}
theorem Rel.undef {μ:Mu}{a:Act}{w:World}{d:Nat}(h:Rel N cx μ s a w) (hN:d<N):Rel N cx μ (s.put d (.aT [])) (a.put (some d) Go.undef) w:=
 h.put hN (.aT [] [] rfl fun j g v hg=>by cases hg)
theorem GL.R8 {d:Nat}{op:Op}{ty:TypeId}{pos:String}{after:Array Edge}{guard:Option (Nat×Bool)}(hw:dq ops s guard=some false) (hN:Nat.blt d N=true) (h:GL P N cx ops Q rest (s.put d (.aT []))):
  GL P N cx ops Q (⟨some d,op,ty,pos,after,guard⟩::rest) s:=by
 intro μ a w hr
 unfold wpListIn
 rw[if_neg (by rw[eF hr hw];simp)]
 refine⟨fun _ _=>trivial,?_⟩
 exact h μ _ w (hr.undef (by simpa[fU] using hN))
theorem pZ.yA {W:List Nat}{bi:Nat}{listed:Array Bool}(i:Nat){o:Oper}{d:Nat}(hp:GS Q (tL ops)) (hi:ops[i]?=some o) (hs:Region.noSelect ops=true) (hf:Region.free .any ops listed i=true)
  (hr:(Region.ready .any ops listed).contains i=true) (hw:dq ops s o.guard=some false) (hd:o.dst=some d) (hN:d<N)
  (h:pZ P N cx ops Q W bi (listed.setIfInBounds i true) (s.put d (.aT []))):pZ P N cx ops Q W (bi+1) listed s:=by
 intro μ a w hrel
 refine wpAnyH_take (v:=undef) hi hs hf hr (fun c a' w' h=>sI hp (vZ hi hd) (hd▸h)) (.inr ⟨eF hrel hw,rfl⟩) ⟨ar _,fun _ _ _=>rfl⟩ ?_
 rw[hd]
 exact h μ _ w (hrel.undef hN)
theorem eX.yA {W:List Nat}{bi:Nat}{listed:Array Bool}(i:Nat){o:Oper}{d:Nat}(hp:GS Q (tL ops)) (hi:ops[i]?=some o) (hs:Region.noSelect ops=true) (hf:Region.free .any ops listed i=true)
  (hr:(Region.ready .any ops listed).contains i=true) (hw:dq ops s o.guard=some false) (hd:o.dst=some d) (hN:d<N)
  (h:eX P N cx ops Q W bi (listed.setIfInBounds i true) (s.put d (.aT []))):eX P N cx ops Q W (bi+1) listed s:=by
 intro ws Wb μ a w hrel hS hW
 refine wpAnyH_take (v:=undef) hi hs hf hr (fun c a' w' h=>sI hp (vZ hi hd) (hd▸h)) (.inr ⟨eF hrel hw,rfl⟩) hS ?_
 rw[hd]
 exact h ws Wb μ _ w (hrel.undef hN) hS hW
end
section
variable {P:Program}{N:Nat}{cx:Cx}{s:St}{W:List Nat}{d:Nat}
variable {dst:Option Tmp}{ty:TypeId}{pos:String}{after:Array Edge}{guard:Option (Nat×Bool)}
theorem EF.Hd {t e:TypeId}{sz:Nat}{z:Value}{bt:Nat}(hd:Nat) (ht:P.underlying t=some (.slice e))
  (hi:(P.info? e).map (fun i=>(i.zero,i.size,i.bytes))=some (some z,sz,bt)) (hfr:fresh s hd=true):
  bW P W s ⟨some d,.buildSlice t 0 #[],ty,pos,after,guard⟩ (·={fr:=(d,.aM hd sz 0 0)::s.fr,st:=(hd,⟨e,true,true,true,sz,[],none⟩)::s.st,df:=s.df}):=by
 refine bW.of (s1:={fr:=s.fr,st:=(hd,⟨e,true,true,true,sz,[],none⟩)::s.st,df:=s.df}) (g:=.aM hd sz 0 0) rfl (fun _ h=>by cases h) ?_
 intro N cx μ a w hr
 obtain⟨i,hi1,hi2⟩:=au.1 hi
 simp only[Prod.mk.injEq] at hi2
 obtain⟨hz,hs1,hb1⟩:=hi2
 obtain⟨μ',w',rfl,h1,h2,h3⟩:=hr.tY (k:=⟨e,true,true,true,sz,[],none⟩) (cs:=#[]) hfr rfl (by simp) (fun _=>by simp) (fun j g' hg'=>by simp at hg') (fun _ g' hg'=>by simp at hg') W
 refine⟨_,μ',_,?_,h1,.aM hd sz 0 0 _ _ 0 h2 (ar _) (by simp),h3⟩
 have hrun:(Instr.buildSlice t 0 #[]).run P w=.ok (.slice (some ⟨w.heap.size,0,none⟩) 0 0) (w.alloc (.cells #[] e)):=by
  have e0:(Array.range 0).map (fun _=>(default:Value))=#[]:=by apply Array.eq_empty_of_size_eq_zero;simp
  simp[Instr.buildSlice,run_underlying ht,sizeOf,typeInfo,hi1,Instr.fill,newRow]
  rw[e0]
 simp[execOp,hrun]
def setAt {α:Type}(cs:List α) (off:Nat):List α→List α
 | []=>cs
 | x::r=>setAt (cs.set off x) (off+1) r
def yK (place:Nat→Option (Nat×Nat)) (cells:List G):List (Nat×G)→Option (List G)
 | []=>some cells
 | (i,g)::r=>match place i with
  | some (off,size)=>match A8 g&&(Nat.beq (cC g).length size&&Nat.ble (off+size) cells.length) with
   | true=>yK place (setAt cells off (cC g)) r
   | false=>none
  | none=>none
def Gd (s:St):List (Nat×Operand)→Option (List (Nat×G))
 | []=>some []
 | (i,x)::r=>match ev s x,Gd s r with
  | some g,some gs=>some ((i,g)::gs)
  | _,_=>none
def sn (O:Nat→Prop) (base:Nat) (w:World) (μ:Mu) (gs:List G) (vs:List Value):Prop:=vs.length=gs.length∧∀(j:Nat) (g:G) (v:Value),gs[j]?=some g→vs[j]?=some v→aN O base w μ g v
theorem sn.set {O:Nat→Prop}{base:Nat}{w:World}{μ:Mu}{gs:List G}{vs:List Value}(h:sn O base w μ gs vs) (off:Nat){g:G}{v:Value}(hv:aN O base w μ g v):sn O base w μ (gs.set off g) (vs.set off v):=by
 refine⟨by simp[h.1],fun j g' v' h1 h2=>?_⟩
 rw[gD] at h1 h2
 by_cases e:off=j
 ·subst e
  rw[if_pos rfl] at h1 h2
  split at h1
  ·split at h2
   ·cases h1;cases h2;exact hv
   ·cases h2
  ·cases h1
 ·rw[if_neg e] at h1 h2
  exact h.2 j g' v' h1 h2
theorem sn.setAt {O:Nat→Prop}{base:Nat}{w:World}{μ:Mu}:∀(gp:List G) (vp:List Value) (off:Nat){gs:List G}{vs:List Value},sn O base w μ gs vs→sn O base w μ gp vp→sn O base w μ (AM.setAt gs off gp) (AM.setAt vs off vp)
 | [],[],_,_,_,h,_=>h
 | [],_::_,_,_,_,_,h=>by cases h.1
 | _::_,[],_,_,_,_,h=>by cases h.1
 | g::gp,v::vp,off,_,_,h,hp=>sn.setAt gp vp (off+1) (h.set off (hp.2 0 g v rfl rfl)) ⟨by have:=hp.1;simpa using this,fun j g' v' h1 h2=>hp.2 (j+1) g' v' h1 h2⟩
theorem ze (off:Nat):∀(l:List Value) (k:Nat) (cs:Array Value),((l.zipIdx k).foldl (fun cs (x:Value×Nat)=>cs.setIfInBounds (off+x.2) x.1) cs).toList=setAt cs.toList (off+k) l
 | [],_,_=>rfl
 | x::r,k,cs=>by
  simp only[List.zipIdx_cons,List.foldl_cons,setAt]
  rw[ze off r (k+1)]
  simp[Nat.add_assoc]
theorem Ba {O:Nat→Prop}{base:Nat}{w:World}{μ:Mu}{place:Nat→Option (Nat×Nat)}:∀(gp:List (Nat×G)) (vp:List (Nat×Value)) (gs:List G) (vs:Array Value) (out:List G),
  yK place gs gp=some out→sn O base w μ gs vs.toList→vp.length=gp.length→(∀(j:Nat) (x:Nat×G) (y:Nat×Value),gp[j]?=some x→vp[j]?=some y→x.1=y.1∧aN O base w μ x.2 y.2)→
  ∃cs,Instr.fill place vs vp=some cs∧sn O base w μ out cs.toList
 | [],[],gs,vs,out,h,hr,_,_=>by cases h;exact⟨vs,rfl,hr⟩
 | [],_::_,_,_,_,_,_,hl,_=>by cases hl
 | _::_,[],_,_,_,_,_,hl,_=>by cases hl
 | (i,g)::gp,(i',v)::vp,gs,vs,out,h,hr,hl,hp=>by
  obtain⟨e,hv⟩:=hp 0 _ _ rfl rfl
  simp only at e hv
  subst e
  simp only[yK] at h
  cases hpl:place i with
  | none=>rw[hpl] at h;cases h
  | some os=>
   obtain⟨off,size⟩:=os
   rw[hpl] at h
   simp only at h
   cases hc:A8 g&&(Nat.beq (cC g).length size&&Nat.ble (off+size) gs.length) with
   | false=>rw[hc] at h;cases h
   | true=>
    rw[hc] at h
    simp only[ah] at hc
    obtain⟨c1,c2,c3⟩:=hc
    have c2:=ab c2
    have c3:=eN c3
    obtain⟨d1,d2⟩:=hv.cells c1
    have hrl:sn O base w μ (cC g) v.cells.toList:=by
     refine⟨by rw[bE];exact d1,fun j g' v' h1 h2=>?_⟩
     obtain⟨u,hu,hru⟩:=d2 j g' h1
     rw[ba,hu] at h2
     cases h2
     exact hru
    have hrs:=sn.setAt _ _ off hr hrl
    have hvl:vs.size=gs.length:=by rw[←hr.1,bE]
    have hstep:Instr.fill place vs ((i,v)::vp)=Instr.fill place (v.cells.zipIdx.foldl (fun cs (x:Value×Nat)=>cs.setIfInBounds (off+x.2) x.1) vs) vp:=by
     simp only[Instr.fill,hpl]
     rw[if_neg (by simp;omega)]
    rw[hstep]
    have hfold:(v.cells.zipIdx.foldl (fun cs (x:Value×Nat)=>cs.setIfInBounds (off+x.2) x.1) vs).toList=AM.setAt vs.toList off v.cells.toList:=by
     rw[←Array.foldl_toList,Array.toList_zipIdx]
     exact ze off v.cells.toList 0 vs
    refine Ba gp vp _ _ out h (by rw[hfold];exact hrs) (by simpa using hl) fun j x y h1 h2=>hp (j+1) x y h1 h2
theorem Gc {μ:Mu}{a:Act}{w:World}(h:Rel N cx μ s a w):∀(l:List (Nat×Operand)) (gp:List (Nat×G)),Gd s l=some gp→
  (l.map fun x=>(x.1,a.eval x.2)).length=gp.length∧∀(j:Nat) (x:Nat×G) (y:Nat×Value),gp[j]?=some x→(l.map fun x=>(x.1,a.eval x.2))[j]?=some y→x.1=y.1∧aN (cx.O s.st μ) cx.base w μ x.2 y.2
 | [],gp,he=>by cases he;exact⟨rfl,fun j x y h=>by cases h⟩
 | (i,x)::r,gp,he=>by
  simp only[Gd] at he
  cases hx:AM.ev s x with
  | none=>rw[hx] at he;cases he
  | some g=>
   rw[hx] at he
   cases hr:Gd s r with
   | none=>rw[hr] at he;cases he
   | some gs=>
    rw[hr] at he
    cases he
    obtain⟨h1,h2⟩:=Gc h r gs hr
    refine⟨by simpa using h1,fun j x' y h3 h4=>?_⟩
    cases j with
    | zero=>cases h3;cases h4;exact⟨rfl,h.ev hx⟩
    | succ j=>exact h2 j x' y h3 h4
theorem PY.build {t:TypeId}{parts:Array (Nat×Operand)}{fs:Array Field}{z:Value}{places:List (Nat×Nat)}{gp:List (Nat×G)}{out:List G}(ht:P.underlying t=some (.struct fs)) (hz:(P.info? t).map (·.zero)=some (some z))
  (hp:fs.toList.mapM (fun f=>(P.info? f.type).map fun i=>(f.offset,i.size))=some places) (he:Gd s parts.toList=some gp) (hf:yK (places[·]?) (z.cells.toList.map .val) gp=some out):
  PY P s ⟨dst,.build t parts,ty,pos,after,guard⟩ (.agg out):=fun N cx μ a w hr=>by
 obtain⟨it,h1,h2⟩:=au.1 hz
 obtain⟨h3,h4⟩:=Gc hr _ _ he
 obtain⟨cs,h5,h6⟩:=Ba (O:=cx.O s.st μ) (base:=cx.base) (w:=w) (μ:=μ) gp _ _ z.cells out hf ⟨by simp,fun j g v hg hv=>by
  rw[ak,hv] at hg
  cases hg
  exact .aD (.val _)⟩ h3 h4
 have hb:∀w',(Instr.build t (parts.map fun (x:Nat×Operand)=>(x.1,a.eval x.2))).run P w'=.ok (.agg cs) w':=fun w'=>by
  refine Go.run_build w' t _ cs ?_
  unfold Program.built
  simp only[h1,ht,h2,hp]
  rw[hG]
  have e:(fun x:Nat=>places.toArray[x]?)=(fun x:Nat=>places[x]?):=by funext x;simp
  rw[e]
  exact h5
 refine⟨.agg cs,?_,fun w'=>?_⟩
 ·have:=aN.agg (O:=cx.O s.st μ) (base:=cx.base) (w:=w) (μ:=μ) out cs.toList h6.1 h6.2
  simpa using this
 ·simp[execOp,hb]
theorem run_equal_bool {t:TypeId}(ht:P.underlying t=some .bool) (a b:Bool) (w:World):(Op.equal t (.bool a) (.bool b)).run P w=.ok (a==b) w:=by
 have e:∃n,Op.maxDepth=n+1:=⟨_,rfl⟩
 obtain⟨n,e⟩:=e
 unfold Op.equal
 rw[e]
 simp[Op.equalIn,run_underlying ht]
theorem PY.Se {t t':TypeId}{x y:Operand}{a b:Bool}(hx:ev s x=some (.val (.bool a))) (hy:ev s y=some (.val (.bool b))) (ht:P.underlying t=some .bool):
  PY P s ⟨dst,.binOp .eql t x y t',ty,pos,after,guard⟩ (.val (.bool (a==b))):=fun _ _ _ _ _ hrel=>by
 refine⟨_,.aD (.val _),fun w'=>?_⟩
 simp[execOp,hrel.val hx,hrel.val hy,eqGuard,binOp,run_equal_bool ht]
theorem PY.R9 {t t':TypeId}{x y:Operand}{a b:Bool}(hx:ev s x=some (.val (.bool a))) (hy:ev s y=some (.val (.bool b))) (ht:P.underlying t=some .bool):
  PY P s ⟨dst,.binOp .neq t x y t',ty,pos,after,guard⟩ (.val (.bool (!(a==b)))):=fun _ _ _ _ _ hrel=>by
 refine⟨_,.aD (.val _),fun w'=>?_⟩
 simp[execOp,hrel.val hx,hrel.val hy,eqGuard,binOp,run_equal_bool ht]
end
end Go.AM
/-
 AM,part S:is a slice nil?
-/
namespace Go.AM
noncomputable def IM {ρ:Type}(n:Int) (m1 m2:Option ρ):Option ρ:=open Classical in if n=0 then(if m1=m2 then m1 else none) else m2
theorem Df {ρ:Type}{n:Int}{m1 m2:Option ρ}{r:ρ}(h:IM n m1 m2=some r):(n=0→m1=some r)∧m2=some r:=by
 unfold IM at h
 split at h
 ·split at h
  ·rename_i e;exact⟨fun _=>h,e▸h⟩
  ·cases h
 ·exact⟨fun e=>absurd e (by assumption),h⟩
section
variable {P:Program}{N:Nat}{cx:Cx}{Q:Exit→St→Prop}{s:St}{ops:Array Oper}{rest:List Oper}
theorem aN.Mr {O:Nat→Prop}{base:Nat}{w:World}{μ:Mu}{g:G}{v:Value}{n:Int}(h:aN O base w μ g v) (hn:I7 g=some n):∃b m c,v=.slice b m c∧(m:Int)=n∧(b=none→n=0):=by
 have sl:∀(O:Nat→Prop) (n:Nat) (cells:List G) (v:Value),bp O w (.sl n cells) v→∃b m c,v=.slice b m c∧m=n∧(b=none→n=0):=by
  intro O n cells v h
  cases h with
  | nil=>exact⟨none,0,0,rfl,rfl,fun _=>rfl⟩
  | iw a cap=>exact⟨some a,0,cap,rfl,rfl,fun h=>rfl⟩
  | sl _ _ b off cap=>exact⟨_,n,cap,rfl,rfl,fun h=>by cases h⟩
 cases g with
 | sl n' cells=>
  cases hn
  cases h with
  | aD h=>obtain⟨b,m,c,e1,e2,e3⟩:=sl _ _ _ _ h;exact⟨b,m,c,e1,by rw[e2],fun h=>by rw[e3 h];rfl⟩
 | fr g=>
  cases h with
  | aD h=>cases h
  | fr h=>
   cases g with
   | sl n' cells=>cases hn;obtain⟨b,m,c,e1,e2,e3⟩:=sl _ _ _ _ h;exact⟨b,m,c,e1,by rw[e2],fun h=>by rw[e3 h];rfl⟩
   | _=>cases hn
 | aM h' sz off n'=>
  cases hn
  cases h with
  | aD h=>cases h
  | gX=>exact⟨none,0,0,rfl,rfl,fun _=>rfl⟩
  | aM _ _ _ _ b m cap=>exact⟨_,n',cap,rfl,rfl,fun h=>by cases h⟩
  | fL _ _ off0 b m _ _=>exact⟨_,0,0,rfl,rfl,fun _=>rfl⟩
 | ks h' i sz n'=>
  cases hn
  cases h with
  | aD h=>cases h
  | k7 _ _ _ x cap=>exact⟨x,0,cap,rfl,rfl,fun _=>rfl⟩
  | ks _ _ _ _ b m c k cap=>exact⟨_,n',cap,rfl,rfl,fun h=>by cases h⟩
 | val v0=>
  cases h with
  | aD h=>
   cases h
   cases v with
   | slice b m c=>
    cases b with
    | none=>cases m with
     | zero=>cases c with
      | zero=>cases hn;exact⟨none,0,0,rfl,rfl,fun _=>rfl⟩
      | succ c=>cases hn
     | succ m=>cases hn
    | some b=>cases hn
   | _=>cases hn
 | _=>cases hn
theorem Kq {t e:TypeId}(ht:P.underlying t=some (.slice e)) (xo yo:Operand) (b:Option Addr) (m c:Nat) (w:World):
  (do eqGuard .eql t xo yo (.slice b m c) (.slice none 0 0);binOp .eql t (.slice b m c) (.slice none 0 0):Sem Value).run P w=.ok (.bool b.isNone) w:=by
 have h:=Lib.run_eql_slice_nil (P:=P) w t e b m c 0 0 ht
 have hg:(eqGuard .eql t xo yo (.slice b m c) (.slice none 0 0)).run P w=.ok () w:=by simp[eqGuard]
 simp only[Sem.run_bind,hg,Result.andThen_ok,h]
theorem Kp {t e:TypeId}(ht:P.underlying t=some (.slice e)) (xo yo:Operand) (b:Option Addr) (m c:Nat) (w:World):
  (do eqGuard .neq t xo yo (.slice b m c) (.slice none 0 0);binOp .neq t (.slice b m c) (.slice none 0 0):Sem Value).run P w=.ok (.bool (!b.isNone)) w:=by
 have h:=run_neq_slice_nil_any (P:=P) w t e b m c 0 0 ht
 have hg:(eqGuard .neq t xo yo (.slice b m c) (.slice none 0 0)).run P w=.ok () w:=by simp[eqGuard]
 simp only[Sem.run_bind,hg,Result.andThen_ok,h]
end
end Go.AM
/-
 AM,part T:a block said in other words;slices given out of hand;a nil slice in a box taken in hand;lists written out.
-/
namespace Go.AM
section
variable {P:Program}{N:Nat}{cx:Cx}{Q:Exit→St→Prop}{s:St}{ops:Array Oper}{rest:List Oper}
theorem Rel.B9 {μ:Mu}{a:Act}{w:World}(h:Rel N cx μ s a w){hh:Nat}{k k':aq}(hk:ay s.st hh=some k) (he:k'.bs=k.bs) (hmine:k'.dC=k.dC) (hsz:k'.sz=k.sz) (hl:k'.cells.length≤k.cells.length) (hlp:k.lp=none) (hlp':k'.lp=none)
  (hc:∀(j:Nat) (g':G),k'.cells[j]?=some g'→∃g,k.cells[j]?=some g∧∀v,cF (cx.O s.st μ) cx.base w μ k g v→cF (cx.O s.st μ) cx.base w μ k' g' v):
  Rel N cx μ {fr:=s.fr,st:=eb s.st hh k',df:=s.df} a w:=by
 have hb:=h.st.ey hh k hk
 cases hm:μ hh with
 | some bm=>
  obtain⟨b,m⟩:=bm
  rw[hm] at hb
  obtain⟨cs,h1,h2,h3,h4,h5,h6⟩:=hb.cells hlp
  exact(h.write hk hm (by rw[he];exact h1) h2 rfl (fun _ _=>rfl) rfl rfl rfl (fun e=>hmine▸e) (cR hl h3) (by rw[hsz];exact h5) (fun j g' hg'=>by
   obtain⟨g,hg,hr⟩:=hc j g' hg'
   obtain⟨v,hv,hrv⟩:=h6 j g hg
   exact⟨v,hv,hr v hrv⟩) [hh] (by simp) hlp').1
 | none=>
  rw[hm] at hb
  obtain⟨hb,_⟩:=hb
  have hb':k'.cells=[]:=aX (by rw[hb] at hl;simpa using hl)
  have hOO:∀b,cx.O (eb s.st hh k') μ b↔cx.O s.st μ b:=fun b=>or_congr Iff.rfl (Own.eb hk)
  have hO:∀b,b<w.heap.size→¬cx.O s.st μ b→¬cx.O (eb s.st hh k') μ b:=fun b _ hn ho=>hn ((hOO b).1 ho)
  have f:∀x k1,ay (eb s.st hh k') x=some k1→∃k1,ay s.st x=some k1:=fun x k1 h1=>by
   rcases dy hk h1 with ⟨rfl,rfl⟩ | ⟨_,h1⟩
   ·exact⟨k,hk⟩
   ·exact⟨_,h1⟩
  refine {st:={ey:=?_,dA:=?_,cv:=?_,fK:=?_,fo:=h.st.fo,hb:=h.st.hb,os:=h.st.os,tape:=h.st.tape,output:=h.st.output,gl:=h.st.gl,ec:=h.st.ec},nd:=h.nd.mono (Kept.refl _ _) hO,sz:=h.sz,fr:=fun t g hg=>?_}
  ·intro x k1 h1
   rcases dy hk h1 with ⟨rfl,rfl⟩ | ⟨_,h1⟩
   ·rw[hm];exact .nil hb' hlp'
   ·exact(h.st.ey x k1 h1).mono (fun _ _ _ _ _=>rfl) (Kept.refl _ _) hO
  ·intro x x' k1 k2 y b1 m1 b2 m2 h1 h2
   obtain⟨k1',h1'⟩:=f x k1 h1
   obtain⟨k2',h2'⟩:=f x' k2 h2
   exact h.st.dA x x' k1' k2' y b1 m1 b2 m2 h1' h2'
  ·intro x k1 b1 m1 y h1 h2
   intro hi
   rcases dy hk h1 with ⟨rfl,rfl⟩ | ⟨_,h1⟩
   ·obtain⟨a1,a2,a3,a4⟩:=h.st.cv x k b1 m1 y hk h2 hi
    exact⟨a1,a2,a3,fun hm=>a4 (hmine▸hm)⟩
   ·exact h.st.cv x k1 b1 m1 y h1 h2 hi
  ·intro x k1 h1 h2
   obtain⟨k1',h1'⟩:=f x k1 h1
   exact h.st.fK x k1' h1' h2
  ·obtain⟨v,hv,hr⟩:=h.fr t g hg
   exact⟨v,hv,hr.mono (Kept.refl _ _) hO (ar _)⟩
theorem Rel.AP {μ : Mu} {a : Act} {w : World} (h : Rel N cx μ s a w) (hd : Nat) (k : aq) (hf : fresh s hd = true) (hk : k.cells = []) (hlp : k.lp = none) : Rel N cx (mJ μ hd none) { fr := s.fr, st := (hd, k) :: s.st, df := s.df } a w := by
 obtain ⟨h1, h2, h3, h5, h6⟩ := iL hf
 obtain ⟨h4, hO⟩ := h.st.AP h1 h3 (lr h6) hk hlp
 refine { st := h4, nd := (h.nd.mono (Kept.refl _ _) (fun b _ => hO b)).jg (fun g hg y hy => bh fun e => by subst e; rw [rq h5 hg] at hy; cases hy), sz := h.sz, fr := fun t' g hg' => ?_ }
 obtain ⟨v, hv, hr⟩ := h.fr t' g hg'
 refine ⟨v, hv, (hr.mono (Kept.refl _ _) (fun b _ => hO b) (ar _)).jg fun y hy => bh ?_⟩
 intro e
 subst e
 rw [pq h2 hg'] at hy
 cases hy
end
end Go.AM
/-
 AM,part U:parts of slices and of texts.
-/
namespace Go.AM
section
variable {α:Type}[aO α]
variable {P:Program}{N:Nat}{cx:Cx}{s:St}{W:List Nat}
variable {dst:Option Tmp}{ty:TypeId}{pos:String}{after:Array Edge}{guard:Option (Nat×Bool)}
theorem CE {t e:TypeId}(ht:P.underlying t=some (.slice e)):P.underlying t=some (.slice (P.elem t)):=by
 have:P.elem t=e:=by unfold Program.elem;rw[ht]
 rw[this];exact ht
def iJ (l:List α) (i j:Int):List α:=(l.drop i.toNat).take (j.toNat-i.toNat)
omit [aO α] in
theorem tC {l:List α}{i j:Int}(_:0≤i) (h1:i≤j) (h2:j≤(l.length:Int)):(iJ l i j).length=j.toNat-i.toNat:=by
 unfold iJ;rw[bH,dF];omega
theorem bp.part {O:Nat→Prop}{w:World}{l:List α}{v:Value}{i j:Int}(h:bp O w (.sl l.length (ed l)) v) (h0:0≤i) (h1:i≤j) (h2:j≤(l.length:Int)):
  ∃(a:Option Addr) (len cap:Nat),v=.slice a len cap∧(len:Int)=l.length∧j≤cap∧(len:Int)≤cap∧∀m:Nat,(m:Int)=cap→bp O w (.sl (iJ l i j).length (ed (iJ l i j))) (sliced a i.toNat j.toNat m (aO.sz α)):=by
 have zero:l=[]→iJ l i j=[]:=fun e=>by subst e;simp[iJ]
 generalize hn:l.length=n at h
 generalize hc:ed l=cs at h
 cases h with
 | nil=>
  have hl:l=[]:=aX hn
  refine⟨none,0,0,rfl,by omega,by omega,by omega,fun m hm=>?_⟩
  rw[zero hl]
  obtain rfl:m=0:=by omega
  obtain rfl:i=0:=by omega
  obtain rfl:j=0:=by omega
  exact .nil
 | iw a cap=>
  have hl:l=[]:=aX hn
  refine⟨some a,0,cap,rfl,by omega,by omega,by omega,fun m hm=>?_⟩
  rw[zero hl]
  obtain rfl:i=0:=by omega
  obtain rfl:j=0:=by omega
  unfold sliced
  split
  ·exact .iw _ _
  ·exact .iw _ _
 | sl _ _ b off cap us hle hO hb hcell hr=>
  subst hn
  subst hc
  refine⟨_,_,cap,rfl,rfl,by omega,by omega,fun m hm=>?_⟩
  obtain rfl:m=cap:=by omega
  unfold sliced
  by_cases e:m=i.toNat
  ·have:(iJ l i j).length=0:=by rw[tC h0 h1 h2];omega
   have e2:iJ l i j=[]:=aX this
   rw[e2,if_pos e]
   have e3:j.toNat-i.toNat=0:=by omega
   rw[e3]
   exact .iw _ _
  ·rw[if_neg e,bY,Addr.l3,tC h0 h1 h2]
   have hsub:ed (iJ l i j)=((ed l).drop (i.toNat*aO.sz α)).take ((j.toNat-i.toNat)*aO.sz α):=by
    unfold iJ
    rw[←xW,←xX]
   have hlen:(ed (iJ l i j)).length=(j.toNat-i.toNat)*aO.sz α:=by rw[iA,tC h0 h1 h2]
   have hbig:i.toNat*aO.sz α+(j.toNat-i.toNat)*aO.sz α≤l.length*aO.sz α:=by
    rw[←fA];exact cJ _ (by omega)
   refine .sl _ _ b (off+i.toNat*aO.sz α) (m-i.toNat) (fun q=>us (i.toNat*aO.sz α+q)) (by omega) hO hb (fun q hq=>?_) (fun q g hg=>?_)
   ·rw[hlen] at hq
    have:=hcell (i.toNat*aO.sz α+q) (by rw[iA];omega)
    rw[←this]
    congr 2
    omega
   ·have hq:=(av.1 hg).1
    rw[hlen] at hq
    rw[hsub,bg,if_pos hq,bn] at hg
    exact hr _ g hg
theorem E6 {t e:TypeId}(ht:P.underlying t=some (.slice e)) (hsz:∀w,(sizeOf e).run P w=.ok (aO.sz α) w){k k':IntKind}{i j:Int}(a:Option Addr) (len cap:Nat) (h0:0≤i) (h1:i≤j) (h2:j≤cap) (w:World):
  (Instr.sliceAt t (.slice a len cap) (some (.int k i)) (some (.int k' j)) none).run P w=.ok (sliced a i.toNat j.toNat cap (aO.sz α)) w:=by
 have he:=CE ht
 have e:P.elem t=e:=by unfold Program.elem;rw[ht]
 rw[run_sliceAt_slice w t _ _ _ _ he,run_slice_lh w t a len cap he k k' i j h0 h1 h2,e,hsz w]
 rfl
theorem Ay {t e:TypeId}(ht:P.underlying t=some (.slice e)) (hsz:∀w,(sizeOf e).run P w=.ok (aO.sz α) w){k:IntKind}{i:Int}(a:Option Addr) (len cap:Nat) (h0:0≤i) (h1:i≤len) (w:World):
  (Instr.sliceAt t (.slice a len cap) (some (.int k i)) none none).run P w=.ok (sliced a i.toNat len cap (aO.sz α)) w:=by
 have he:=CE ht
 have e:P.elem t=e:=by unfold Program.elem;rw[ht]
 rw[run_sliceAt_slice w t _ _ _ _ he,run_slice_l w t a len cap he k i h0 h1,e,hsz w]
 rfl
theorem Az {t e:TypeId}(ht:P.underlying t=some (.slice e)) (hsz:∀w,(sizeOf e).run P w=.ok (aO.sz α) w){k:IntKind}{j:Int}(a:Option Addr) (len cap:Nat) (h0:0≤j) (h1:j≤cap) (w:World):
  (Instr.sliceAt t (.slice a len cap) none (some (.int k j)) none).run P w=.ok (sliced a 0 j.toNat cap (aO.sz α)) w:=by
 have he:=CE ht
 have e:P.elem t=e:=by unfold Program.elem;rw[ht]
 rw[run_sliceAt_slice w t _ _ _ _ he,run_slice_h w t a len cap he k j h0 h1,e,hsz w]
 rfl
def Au (f:Bool) (l:List α):G:=bif f then .fr (.sl l.length (ed l)) else .sl l.length (ed l)
theorem aN.part {O:Nat→Prop}{base:Nat}{w:World}{μ:Mu}{f:Bool}{l:List α}{v:Value}{i j:Int}(h:aN O base w μ (Au f l) v) (h0:0≤i) (h1:i≤j) (h2:j≤(l.length:Int)):
  ∃(a:Option Addr) (len cap:Nat),v=.slice a len cap∧(len:Int)=l.length∧j≤cap∧(len:Int)≤cap∧aN O base w μ (Au f (iJ l i j)) (sliced a i.toNat j.toNat cap (aO.sz α)):=by
 cases f with
 | false=>
  cases h with
  | aD h=>obtain⟨a,len,cap,e1,e2,e3,e4,e5⟩:=h.part h0 h1 h2;exact⟨a,len,cap,e1,e2,e3,e4,.aD (e5 cap rfl)⟩
 | true=>
  cases h with
  | aD h=>cases h
  | fr h=>obtain⟨a,len,cap,e1,e2,e3,e4,e5⟩:=h.part h0 h1 h2;exact⟨a,len,cap,e1,e2,e3,e4,.fr (e5 cap rfl)⟩
theorem PY.slice {t e:TypeId}{x lo hi:Operand}{f:Bool}{l:List α}{k k':IntKind}{i j:Int}(hx:ev s x=some (Au f l)) (hl:ev s lo=some (.val (.int k i))) (hh:ev s hi=some (.val (.int k' j))) (ht:P.underlying t=some (.slice e)) (hsz:∀w,(sizeOf e).run P w=.ok (aO.sz α) w)
  (h0:0≤i) (h1:i≤j) (h2:j≤(l.length:Int)):PY P s ⟨dst,.slice t x (some lo) (some hi) none,ty,pos,after,guard⟩ (Au f (iJ l i j)):=fun N cx μ a w hr=>by
 obtain⟨ad,len,cap,e1,e2,e3,e4,e5⟩:=(hr.ev hx).part h0 h1 h2
 refine⟨_,e5,fun w'=>?_⟩
 simp[execOp,e1,hr.val hl,hr.val hh,E6 ht hsz ad len cap h0 h1 e3]
theorem PY.P2 {t e:TypeId}{x lo:Operand}{f:Bool}{l:List α}{k:IntKind}{i:Int}(hx:ev s x=some (Au f l)) (hl:ev s lo=some (.val (.int k i))) (ht:P.underlying t=some (.slice e)) (hsz:∀w,(sizeOf e).run P w=.ok (aO.sz α) w)
  (h0:0≤i) (h1:i≤(l.length:Int)):PY P s ⟨dst,.slice t x (some lo) none none,ty,pos,after,guard⟩ (Au f (iJ l i (l.length:Int))):=fun N cx μ a w hr=>by
 obtain⟨ad,len,cap,e1,e2,e3,e4,e5⟩:=(hr.ev hx).part h0 h1 (Int.le_refl _)
 have e6:len=((l.length:Int)).toNat:=by omega
 refine⟨_,e5,fun w'=>?_⟩
 have:=Ay (α:=α) (P:=P) ht hsz (k:=k) ad len cap h0 (by omega) w'
 rw[←e6]
 simp[execOp,e1,hr.val hl,this]
theorem PY.P3 {t e:TypeId}{x hi:Operand}{f:Bool}{l:List α}{k:IntKind}{j:Int}(hx:ev s x=some (Au f l)) (hh:ev s hi=some (.val (.int k j))) (ht:P.underlying t=some (.slice e)) (hsz:∀w,(sizeOf e).run P w=.ok (aO.sz α) w)
  (h0:0≤j) (h2:j≤(l.length:Int)):PY P s ⟨dst,.slice t x none (some hi) none,ty,pos,after,guard⟩ (Au f (iJ l 0 j)):=fun N cx μ a w hr=>by
 obtain⟨ad,len,cap,e1,e2,e3,e4,e5⟩:=(hr.ev hx).part (Int.le_refl 0) h0 h2
 refine⟨_,e5,fun w'=>?_⟩
 have:=Az (α:=α) (P:=P) ht hsz (k:=k) ad len cap h0 e3 w'
 simp[execOp,e1,hr.val hh,this]
theorem PY.PZ {t : TypeId} {x lo hi : Operand} {b : ByteArray} {k k' : IntKind} {i j : Int} (hx : ev s x = some (.val (.string b))) (hl : ev s lo = some (.val (.int k i))) (hh : ev s hi = some (.val (.int k' j))) (ht : P.underlying t = some .string)
  (h0 : 0 ≤ i) (h1 : i ≤ j) (h2 : j ≤ (b.size : Int)) : PY P s ⟨dst, .slice t x (some lo) (some hi) none, ty, pos, after, guard⟩ (.val (.string (b.extract i.toNat j.toNat))) := fun N cx μ a w hr => by
 refine ⟨_, .aD (.val _), fun w' => ?_⟩
 have eh : (j.toNat : Int) = j := Int.toNat_of_nonneg (by omega)
 have : (Instr.slice t (.string b) (some (.int k i)) (some (.int k' j)) none).run P w' = .ok (.string (b.extract i.toNat j.toNat)) w' := by
  simp [Instr.slice, run_underlying ht, Instr.sliceBounds, run_sliceBound, *, eh, (by omega : 0 ≤ i), (by omega : 0 ≤ j)]
 simp [execOp, hr.val hx, hr.val hl, hr.val hh, run_sliceAt_string w' t _ _ _ _ ht, this]
theorem PY.OJ {t:TypeId}{x lo:Operand}{b:ByteArray}{k:IntKind}{i:Int}(hx:ev s x=some (.val (.string b))) (hl:ev s lo=some (.val (.int k i))) (ht:P.underlying t=some .string)
  (h0:0≤i) (h1:i≤(b.size:Int)):PY P s ⟨dst,.slice t x (some lo) none none,ty,pos,after,guard⟩ (.val (.string (b.extract i.toNat b.size))):=fun N cx μ a w hr=>by
 refine⟨_,.aD (.val _),fun w'=>?_⟩
 simp[execOp,hr.val hx,hr.val hl,run_sliceAt_string w' t _ _ _ _ ht,run_slice_string_l w' t b ht k i h0 h1]
theorem PY.OK {t:TypeId}{x hi:Operand}{b:ByteArray}{k:IntKind}{j:Int}(hx:ev s x=some (.val (.string b))) (hh:ev s hi=some (.val (.int k j))) (ht:P.underlying t=some .string)
  (h0:0≤j) (h2:j≤(b.size:Int)):PY P s ⟨dst,.slice t x none (some hi) none,ty,pos,after,guard⟩ (.val (.string (b.extract 0 j.toNat))):=fun N cx μ a w hr=>by
 refine⟨_,.aD (.val _),fun w'=>?_⟩
 simp[execOp,hr.val hx,hr.val hh,run_sliceAt_string w' t _ _ _ _ ht,run_slice_string_h w' t b ht k j h0 h2]
end
end Go.AM
/-
 AM,part V:results that lean on what was handed in;calls that hand in nothing of the call's own.
-/
namespace Go.AM
def J8:G→G
 | .fr g=>g
 | .agg gs=>.agg (go gs)
 | .aT gs=>.aT (go gs)
 | .aR f gs=>.aR f (go gs)
 | g=>g
where go:List G→List G
 | []=>[]
 | g::r=>J8 g::go r
def fI:G→Option G
 | .val v=>some (ny v)
 | .cQ b=>some (.cQ b)
 | .sl n cs=>some (.sl n cs)
 | .ptr cs=>some (.ptr cs)
 | .fr g=>some g
 | .agg gs=>(go gs).map .agg
 | .aR f caps=>(go caps).map (.aR f)
 | _=>none
where go:List G→Option (List G)
 | []=>some []
 | g::r=>match fI g,go r with
  | some g',some r'=>some (g'::r')
  | _,_=>none
theorem pf:∀{gs gs':List G},fI.go gs=some gs'→gs'.length=gs.length∧∀(j:Nat) (g':G),gs'[j]?=some g'→∃g,gs[j]?=some g∧fI g=some g'
 | [],_,h=>by cases h;exact⟨rfl,fun j g h=>by simp at h⟩
 | g::r,gs',h=>by
  simp only[fI.go] at h
  cases h1:fI g with
  | none=>rw[h1] at h;cases h
  | some g1=>
   rw[h1] at h
   cases h2:fI.go r with
   | none=>rw[h2] at h;cases h
   | some r1=>
    rw[h2] at h
    cases h
    obtain⟨h3,h4⟩:=pf h2
    refine⟨by simp[h3],fun j g' hg'=>?_⟩
    cases j with
    | zero=>cases hg';exact⟨g,rfl,h1⟩
    | succ j=>exact h4 j g' hg'
theorem JU {O:Nat→Prop}{base:Nat}{μ:Mu}{w:World}{g g':G}{v:Value}(h:bp O w g v) (hf:fI g=some g'):aN O base w μ g' v:=by
 induction h generalizing g' with
 | any v=>cases hf
 | val v=>
  cases hf
  unfold ny
  split
  ·exact .aD .nil
  ·exact .aD (.val _)
 | cQ b v h=>cases hf;exact .aD (.cQ b v h)
 | nil=>cases hf;exact .aD .nil
 | iw a c=>cases hf;exact .aD (.iw a c)
 | sl n cells b off cap us h1 h2 h3 h4 h5 ih=>cases hf;exact .aD (.sl n cells b off cap us h1 h2 h3 h4 h5)
 | ptr cells b off us h1 h2 h3 h4 ih=>cases hf;exact .aD (.ptr cells b off us h1 h2 h3 h4)
 | agg cells us hl hr ih=>
  simp only[fI,au] at hf
  obtain⟨gs',h1,rfl⟩:=hf
  obtain⟨h2,h3⟩:=pf h1
  refine .agg gs' us (by omega) fun j g v hg hv=>?_
  obtain⟨g0,h4,h5⟩:=h3 j g hg
  exact ih j g0 v h4 hv h5
theorem Ia {O:Nat→Prop}{base base':Nat}{μ μ':Mu}{w:World}{g g':G}{v:Value}(h:aN O base w μ g v) (hf:fI g=some g'):aN O base' w μ' g' v:=by
 induction h generalizing g' with
 | aD h=>exact JU h hf
 | fr h=>cases hf;exact .aD h.Hv
 | agg cells us hl hr ih=>
  simp only[fI,au] at hf
  obtain⟨gs',h1,rfl⟩:=hf
  obtain⟨h2,h3⟩:=pf h1
  refine .agg gs' us (by omega) fun j g v hg hv=>?_
  obtain⟨g0,h4,h5⟩:=h3 j g hg
  exact ih j g0 v h4 hv h5
 | aR f caps us hl hr ih=>
  simp only[fI,au] at hf
  obtain⟨gs',h1,rfl⟩:=hf
  obtain⟨h2,h3⟩:=pf h1
  refine .aR f gs' us (by omega) fun j g v hg hv=>?_
  obtain⟨g0,h4,h5⟩:=h3 j g hg
  exact ih j g0 v h4 hv h5
 | _=>cases hf
def lV:G→Bool
 | .val _=>true
 | .cQ _=>true
 | .sl _ _=>true
 | .ptr _=>true
 | .fr _=>true
 | .agg gs=>go gs
 | .aT gs=>go gs
 | .aR _ gs=>go gs
 | _=>false
where go:List G→Bool
 | []=>true
 | g::r=>lV g&&go r
theorem rj {gs:List G}(h:lV.go gs=true):∀(j:Nat) (g:G),gs[j]?=some g→lV g=true:=by
 induction gs with
 | nil=>intro j g hg;simp at hg
 | cons x r ih=>
  simp only[lV.go,ah] at h
  intro j g hg
  cases j with
  | zero=>cases hg;exact h.1
  | succ j=>exact ih h.2 j g hg
theorem K2 {O O':Nat→Prop}{base base':Nat}{μ μ':Mu}{w:World}{g:G}{v:Value}(h:aN O base w μ g v) (hi:lV g=true) (hO:∀b,O' b→O b) (hb:∀b,b<base'→b<base):aN O' base' w μ' g v:=by
 induction h with
 | aD h=>exact .aD (h.mono (Kept.refl _ _) fun b _ hn ho=>hn (hO b ho))
 | fr h=>
  refine .fr (h.mono (Kept.refl _ _) ?_)
  rintro b _ hn (ho | ho)
  ·exact hn (.inl (hb b ho))
  ·exact hn (.inr (hO b ho))
 | agg cells us hl hr ih=>exact .agg cells us hl fun j g v hg hv=>ih j g v hg hv (rj hi j g hg)
 | aT cells us hl hr ih=>exact .aT cells us hl fun j g v hg hv=>ih j g v hg hv (rj hi j g hg)
 | aR f cells us hl hr ih=>exact .aR f cells us hl fun j g v hg hv=>ih j g v hg hv (rj hi j g hg)
 | _=>cases hi
section
variable {P:Program}{N:Nat}{cx:Cx}{s:St}
variable {ty:TypeId}{pos:String}{after:Array Edge}{guard:Option (Nat×Bool)}{W:List Nat}{d:Nat}
theorem Bx {f:FuncId}{vs:List Value}{gs gs':List G}{Q:G→List (Nat×aq)→Prop}{μ:Mu}{a:Act}{w:World}(hr:Rel N cx μ s a w) (hv:dT fI gs=some gs')
  (hvs:vs.length=gs.length) (hrep:∀(j:Nat) (g:G) (v:Value),gs[j]?=some g→vs[j]?=some v→aN (cx.O s.st μ) cx.base w μ g v)
  (hcon:GM P f gs' [] Q) (hres:∀r st',Q r st'→lV r=true∧st'=[]):
  Calls P f vs.toArray w fun e w'=>∃v r st',e=.returned v∧Q r st'∧Rel N cx μ s a w'∧aN (cx.O s.st μ) cx.base w' μ r v∧Step W s.st μ s.st μ w w':=by
 obtain⟨h1,h2⟩:=pn hv
 have hX:∀b,cx.O s.st μ b→b<w.heap.size:=fun b hb=>by
  rcases hb with hb | hb
  ·have:=hr.st.fo b hb;have:=hr.st.hb;omega
  ·exact rQ hr.st hb
 refine(hcon.returned (cx.O s.st μ) (fun _=>none) w vs hX (xA hX (hr.st.Oj fun _ h=>(mV h).elim)) (by omega) fun j g v hg hv=>?_).mono ?_
 ·obtain⟨g0,h3,h4⟩:=h2 j g hg
  have:=Ia (base':=w.heap.size) (μ':=fun _=>none) (hrep j g0 v h3 hv) h4
  exact this.mono (Kept.refl _ _) (fun b _ hn ho=>ho.elim hn mV) (ar _)
 ·rintro e w' ⟨v,r,st',μ',rfl,hq,hst,hrv⟩
  have hkeep:∀b,b<w.heap.size→w'.heap[b]?=w.heap[b]?:=fun b hb=>hst.ec b hb mV
  obtain⟨hf,hs⟩:=hres r st' hq
  subst hs
  refine⟨v,r,[],rfl,hq,hr.kept hst.hb hkeep hst.os hst.tape hst.output,?_,⟨hst.hb,fun b hb _=>hkeep b hb,fun h k c m b hw h1 h2 hi=>.inl ⟨h,k,c,m,hw,h1,h2,hi⟩⟩⟩
  exact K2 hrv hf (fun b hb=>.inl hb) (fun b hb=>cm hb hr.st.hb)
theorem EF.Rp {f:FuncId}{xs:Array Operand}{ts:Array TypeId}{gs gs':List G}{Q:G→List (Nat×aq)→Prop}(hc:∀args w,(callFunc f args).run P w=.ok (.enter f args) w)
  (hx:tI s xs.toList=some gs) (hv:dT fI gs=some gs') (hcon:GM P f gs' [] Q) (hres:∀r st',Q r st'→lV r=true∧st'=[]):
  bW P W s ⟨some d,.call ⟨.value (.func f),xs,ts⟩,ty,pos,after,guard⟩ (fun s'=>∃r st',Q r st'∧s'=s.put d r):=by
 refine⟨(fun _ h=>by cases h),?_⟩
 intro N cx μ a w hr hN K Q' hK
 obtain⟨h1,h2⟩:=mX hx
 have hcall:=Bx (vs:=xs.toList.map a.eval) (W:=W) hr hv (by simp[h1]) (fun j g v hg hv=>by
  obtain⟨x,hxj,he⟩:=h2 j g hg
  rw[ak,hxj] at hv
  cases hv
  exact hr.ev he) hcon hres
 unfold Oper.wp
 have:(execOp a.eval ⟨some d,.call ⟨.value (.func f),xs,ts⟩,ty,pos,after,guard⟩).run P w=.ok (.enter f (xs.toList.map a.eval).toArray) w:=by
  have e:xs.map a.eval=(xs.toList.map a.eval).toArray:=by rw[←hG]
  simp[execOp,resolve,invoke,Deferred.ofValue,Act.eval,hc,e]
 rw[this]
 refine hcall.mono ?_
 rintro e w' ⟨v,r,st',rfl,hq,hr',hrv,hst⟩
 exact hK μ _ _ w' (hr'.put (hN d rfl) hrv) ⟨r,st',hq,rfl⟩ hst
end
end Go.AM
/-
 AM,part W:lists without references.
-/
namespace Go.AM
class Flat (α:Type) [aO α]:Prop where
 flat:∀(a:α) (g:G),g∈aO.cells a→∃v,g=.val v
instance:Flat Int:=⟨fun a g h=>by simp[aO.cells] at h;exact⟨_,h⟩⟩
instance:Flat Bool:=⟨fun a g h=>by simp[aO.cells] at h;exact⟨_,h⟩⟩
instance:Flat ByteArray:=⟨fun a g h=>by simp[aO.cells] at h;exact⟨_,h⟩⟩
section
variable {α:Type}[aO α] [Flat α]
variable {P:Program}{N:Nat}{cx:Cx}{Q:Exit→St→Prop}{s:St}{ops:Array Oper}{rest:List Oper}
theorem Rel.OQ {μ:Mu}{a:Act}{w:World}(h:Rel N cx μ s a w){hh:Nat}{k:aq}{l:List α}(hk:ay s.st hh=some k) (hc:k.cells=ed l) (hp:k.pure=true) (hlp:k.lp=none):
  Rel N cx μ {fr:=s.fr,st:=eb s.st hh {k with fresh:=true},df:=s.df} a w:=by
 refine h.B9 hk rfl rfl rfl (ar _) hlp hlp fun j g' hg'=>⟨g',hg',fun v hv=>?_⟩
 simp only at hg'
 rw[hc] at hg'
 obtain⟨x,_,hx⟩:=ob.1 (aQ hg')
 obtain⟨u,rfl⟩:=Flat.flat x g' hx
 unfold cF at hv⊢
 simp only[hp] at hv⊢
 cases hv
 exact .val _
end
section
variable {P:Program}{N:Nat}{cx:Cx}{Q:Exit→St→Prop}{s:St}{ops:Array Oper}{rest:List Oper}
end
section
variable {P:Program}{N:Nat}{cx:Cx}{Q:Exit→St→Prop}{s:St}{ops:Array Oper}
def tZ (P:Program) (N:Nat) (cx:Cx) (ops:Array Oper) (Q:Exit→St→Prop) (W:List Nat) (bi:Nat) (listed:Array Bool) (s:St) (i:Nat):Prop:=
 ∀(ws:World) (Wb:Nat→Prop) (μ:Mu) (a:Act) (w:World),Rel N cx μ s a w→Sw ws Wb w→(∀h k c m b,h∈W→ay s.st h=some k→μ h=some (c,m)→In b c m→Wb b∨ws.heap.size≤b)→
  wpOp P ops (lift N cx Q) i (fun a' w'=>Sw ws Wb w'∧wpAnyH P .any ops (lift N cx Q) (Sw ws Wb) bi (listed.setIfInBounds i true) a' w') a w
theorem tZ.y {W:List Nat}{bi:Nat}{listed:Array Bool}(i:Nat){o:Oper}{d:Nat}{g:G}(hi:ops[i]?=some o) (hw:dq ops s o.guard=some true) (hd:o.dst=some d) (hN:d<N) (hy:fO P [] s o g)
  (h:eX P N cx ops Q W bi (listed.setIfInBounds i true) (s.put d g)):tZ P N cx ops Q W bi listed s i:=by
 intro ws Wb μ a w hrel hS hW
 obtain⟨v,hv,hrun⟩:=hy N cx μ a w hrel
 have hrun:=hrun w (ar _) (fun _ _ _=>rfl)
 unfold wpOp
 simp only[hi]
 rw[if_pos (eF hrel hw)]
 refine .inl ?_
 unfold Oper.wp
 rw[hrun]
 show Sw ws Wb w∧_
 refine⟨hS,?_⟩
 rw[hd]
 exact h ws Wb μ _ w (hrel.put hN hv) hS hW
theorem tZ.e {W:List Nat}{bi:Nat}{listed:Array Bool}(i:Nat){o:Oper}{T:St→Prop}(hi:ops[i]?=some o) (hw:dq ops s o.guard=some true) (hN:∀d,o.dst=some d→d<N) (he:bW P W s o T)
  (h:∀s',T s'→eX P N cx ops Q W bi (listed.setIfInBounds i true) s'):tZ P N cx ops Q W bi listed s i:=by
 intro ws Wb μ a w hrel hS hW
 unfold wpOp
 simp only[hi]
 rw[if_pos (eF hrel hw)]
 have:=he.2 N cx μ a w hrel hN (fun a' w'=>Sw ws Wb w'∧wpAnyH P .any ops (lift N cx Q) (Sw ws Wb) bi (listed.setIfInBounds i true) a' w') (lift N cx Q) ?_
 ·exact .inl this
 ·intro μ' s' a' w' hrel' ht hst
  have hS':Sw ws Wb w':=by
   refine⟨cR hS.size hst.size,fun b hb hn=>?_⟩
   rw[hst.block b (cm hb hS.size) ?_]
   ·exact hS.block b hb hn
   ·intro h k c m h1 h2 h3 hi
    rcases hW h k c m b h1 h2 h3 hi with h4 | h4
    ·exact hn h4
    ·omega
  refine⟨hS',h s' ht ws Wb μ' a' w' hrel' hS' ?_⟩
  intro h k' c m b h1 h2 h3 hi
  rcases hst.hand h k' c m b h1 h2 h3 hi with ⟨h0,k,c0,m0,hw0,h4,h5,h6⟩ | h4
  ·exact hW h0 k c0 m0 b hw0 h4 h5 h6
  ·exact .inr (cR hS.size h4)
theorem tZ.eP {W:List Nat}{bi:Nat}{listed:Array Bool}(i:Nat){o:Oper}{T:St→Prop}{Tp:List PanicEntry→St→Prop}(hi:ops[i]?=some o) (hw:dq ops s o.guard=some true) (hN:∀d,o.dst=some d→d<N) (he:j6 P W s o T Tp)
  (h:∀s',T s'→eX P N cx ops Q W bi (listed.setIfInBounds i true) s') (hp:∀ch s',Tp ch s'→Q (.panic ch) s'):tZ P N cx ops Q W bi listed s i:=by
 intro ws Wb μ a w hrel hS hW
 unfold wpOp
 simp only[hi]
 rw[if_pos (eF hrel hw)]
 have:=he.2 N cx μ a w hrel hN (fun a' w'=>Sw ws Wb w'∧wpAnyH P .any ops (lift N cx Q) (Sw ws Wb) bi (listed.setIfInBounds i true) a' w') (lift N cx Q) ?_ (fun ch μ' s' w' hr' ht=>⟨μ',s',hr',hp ch s' ht⟩)
 ·exact .inl this
 ·intro μ' s' a' w' hrel' ht hst
  have hS':Sw ws Wb w':=by
   refine⟨cR hS.size hst.size,fun b hb hn=>?_⟩
   rw[hst.block b (cm hb hS.size) ?_]
   ·exact hS.block b hb hn
   ·intro h k c m h1 h2 h3 hi
    rcases hW h k c m b h1 h2 h3 hi with h4 | h4
    ·exact hn h4
    ·omega
  refine⟨hS',h s' ht ws Wb μ' a' w' hrel' hS' ?_⟩
  intro h k' c m b h1 h2 h3 hi
  rcases hst.hand h k' c m b h1 h2 h3 hi with ⟨h0,k,c0,m0,hw0,h4,h5,h6⟩ | h4
  ·exact hW h0 k c0 m0 b hw0 h4 h5 h6
  ·exact .inr (cR hS.size h4)
def BR (P:Program) (N:Nat) (cx:Cx) (ops:Array Oper) (Q:Exit→St→Prop) (W:List Nat) (bi:Nat) (listed:Array Bool) (s:St):List Nat→Prop
 | []=>True
 | i::r=>tZ P N cx ops Q W bi listed s i∧BR P N cx ops Q W bi listed s r
theorem BR.get {W:List Nat}{bi:Nat}{listed:Array Bool}:∀{rs:List Nat},BR P N cx ops Q W bi listed s rs→∀i∈rs,tZ P N cx ops Q W bi listed s i
 | [],_,_,h=>by cases h
 | j::r,⟨h1,h2⟩,i,h=>by
  rcases bU.1 h with rfl | h
  ·exact h1
  ·exact BR.get h2 i h
theorem eX.any {W:List Nat}{bi:Nat}{listed:Array Bool}(i:Nat) (r:List Nat) (hr:Region.ready .any ops listed=i::r) (h:BR P N cx ops Q W bi listed s (i::r)):eX P N cx ops Q W (bi+1) listed s:=by
 intro ws Wb μ a w hrel hS hW
 refine wpAnyH_all hr (by simp) fun j hj=>h.get j hj ws Wb μ a w hrel hS hW
end
end Go.AM
/-
 AM,part X:calls to which blocks of the caller's own are lent:how handles are told anew,there and back.
-/
namespace Go.AM
def dm:List Nat→Nat→Option Nat
 | [],_=>none
 | x::r,h=>bif Nat.beq x h then some 0 else(dm r h).map (·+1)
theorem ep:∀{H:List Nat}{h i:Nat},dm H h=some i→H[i]?=some h
 | [],_,_,e=>by cases e
 | x::r,h,i,e=>by
  simp only[dm] at e
  cases hb:Nat.beq x h with
  | true=>rw[hb] at e;cases e;have:=ab hb;subst this;rfl
  | false=>
   rw[hb] at e
   obtain⟨n,h1,h2⟩:=au.1 e
   subst h2
   exact ep (H:=r) h1
theorem rT:∀{H:List Nat}{h:Nat},dm H h=none→h∉H
 | [],_,_=>fun h=>by cases h
 | x::r,h,e=>by
  simp only[dm] at e
  cases hb:Nat.beq x h with
  | true=>rw[hb] at e;cases e
  | false=>
   rw[hb] at e
   intro hm
   rcases bU.1 hm with rfl | hm
   ·rw[aK] at hb;cases hb
   ·exact rT (Option.map_eq_none_iff.1 e) hm
def bV (H:List Nat) (stv:List (Nat×aq)):G→Option G
 | .loc h off=>match dm H h with
  | some i=>some (.loc (1000+i) off)
  | none=>view 4 stv (.loc h off)
 | .aM h sz off m=>match dm H h with
  | some i=>some (.aM (1000+i) sz off m)
  | none=>view 4 stv (.aM h sz off m)
 | .cT h=>match dm H h with
  | some i=>some (.cT (1000+i))
  | none=>none
 | .eY h=>match dm H h with
  | some i=>some (.eY (1000+i))
  | none=>none
 | .kp h j off=>match dm H h with
  | some i=>some (.kp (1000+i) j off)
  | none=>none
 | .ks h j sz n=>match dm H h with
  | some i=>some (.ks (1000+i) j sz n)
  | none=>none
 | .agg gs=>(go gs).map .agg
 | .aR f gs=>(go gs).map (.aR f)
 | .val v=>some (ny v)
 | .cQ b=>some (.cQ b)
 | .sl n cs=>some (.sl n cs)
 | .ptr cs=>some (.ptr cs)
 | .fr g=>some g
 | _=>none
where go:List G→Option (List G)
 | []=>some []
 | g::r=>match bV H stv g,go r with
  | some g',some r'=>some (g'::r')
  | _,_=>none
theorem po {H:List Nat}{stv:List (Nat×aq)}:∀{gs gs':List G},bV.go H stv gs=some gs'→gs'.length=gs.length∧∀(j:Nat) (g':G),gs'[j]?=some g'→∃g,gs[j]?=some g∧bV H stv g=some g'
 | [],_,h=>by cases h;exact⟨rfl,fun j g h=>by simp at h⟩
 | g::r,gs',h=>by
  simp only[bV.go] at h
  cases h1:bV H stv g with
  | none=>rw[h1] at h;cases h
  | some g1=>
   rw[h1] at h
   cases h2:bV.go H stv r with
   | none=>rw[h2] at h;cases h
   | some r1=>
    rw[h2] at h
    cases h
    obtain⟨h3,h4⟩:=po h2
    refine⟨by simp[h3],fun j g' hg'=>?_⟩
    cases j with
    | zero=>cases hg';exact⟨g,rfl,h1⟩
    | succ j=>exact h4 j g' hg'
def qp (H:List Nat) (stv:List (Nat×aq)) (k:aq):Option aq:=
 bif k.pure then some {k with dC:=false,fresh:=false} else match bV.go H stv k.cells with
  | some cs=>some {k with dC:=false,fresh:=false,cells:=cs}
  | none=>none
theorem I5 {H:List Nat}{stv:List (Nat×aq)}{k k':aq}(h:qp H stv k=some k'):k'.dC=false:=by
 unfold qp at h
 cases hp:k.pure with
 | true=>rw[hp] at h;cases h;rfl
 | false=>
  rw[hp,cond_false] at h
  split at h
  ·cases h;rfl
  ·cases h
def fM (H:List Nat) (stv st:List (Nat×aq)):List Nat→Nat→Option (List (Nat×aq))
 | [],_=>some []
 | h::r,i=>match ay st h with
  | some k=>match qp H stv k,fM H stv st r (i+1) with
   | some k',some r'=>some ((1000+i,k')::r')
   | _,_=>none
  | none=>none
theorem ol {H:List Nat}{stv st:List (Nat×aq)}:∀{r:List Nat}{i:Nat}{dQ:List (Nat×aq)},fM H stv st r i=some dQ→∀{j:Nat}{k':aq},ay dQ j=some k'→
  ∃n h k,j=1000+(i+n)∧r[n]?=some h∧ay st h=some k∧qp H stv k=some k'
 | [],_,_,e,_,_,h=>by cases e;cases h
 | x::r,i,dQ,e,j,k',h=>by
  simp only[fM] at e
  cases hk:ay st x with
  | none=>rw[hk] at e;cases e
  | some k=>
   rw[hk] at e
   dsimp only at e
   cases h1:qp H stv k with
   | none=>rw[h1] at e;cases e
   | some k1=>
    rw[h1] at e
    cases h2:fM H stv st r (i+1) with
    | none=>rw[h2] at e;cases e
    | some r'=>
     rw[h2] at e
     cases e
     simp only[ay] at h
     cases hb:Nat.beq (1000+i) j with
     | true=>
      rw[hb] at h
      cases h
      exact⟨0,x,k,(ab hb).symm,rfl,hk,h1⟩
     | false=>
      rw[hb] at h
      obtain⟨n,y,k2,e1,e2,e3,e4⟩:=ol h2 h
      exact⟨n+1,y,k2,by omega,e2,e3,e4⟩
theorem AY {H:List Nat}{stv st:List (Nat×aq)}:∀{r:List Nat}{i:Nat}{dQ:List (Nat×aq)},fM H stv st r i=some dQ→∀{n h:Nat},r[n]?=some h→(∃k',ay dQ (1000+(i+n))=some k')∧∃k,ay st h=some k
 | [],_,_,_,_,_,h=>by cases h
 | x::r,i,dQ,e,n,y,h=>by
  simp only[fM] at e
  cases hk:ay st x with
  | none=>rw[hk] at e;cases e
  | some k=>
   rw[hk] at e
   dsimp only at e
   cases h1:qp H stv k with
   | none=>rw[h1] at e;cases e
   | some k1=>
    rw[h1] at e
    cases h2:fM H stv st r (i+1) with
    | none=>rw[h2] at e;cases e
    | some r'=>
     rw[h2] at e
     cases e
     cases n with
     | zero=>cases h;exact⟨⟨k1,by rw[fG,dv]⟩,k,hk⟩
     | succ n=>
      obtain⟨⟨k',h3⟩,h4⟩:=AY h2 (n:=n) (h:=y) h
      refine⟨⟨k',?_⟩,h4⟩
      rw[aG _ _ (by omega),show 1000+(i+(n+1))=1000+(i+1+n) by omega]
      exact h3
def lJ (H:List Nat) (μ:Mu):Mu:=fun j=>bif pinned j then(H[j-1000]?).bind μ else none
theorem qi (i:Nat):pinned (1000+i)=true:=Nat.ble_eq_true_of_le (by omega)
theorem jO {H:List Nat}{μ:Mu}{i h:Nat}(e:H[i]?=some h):lJ H μ (1000+i)=μ h:=by
 unfold lJ
 rw[qi,cond_true,show 1000+i-1000=i by omega,e]
 rfl
def fg (H:List Nat):List (Nat×aq)→List (Nat×aq)
 | []=>[]
 | (h,k)::r=>match dm H h with
  | some _=>fg H r
  | none=>(h,k)::fg H r
theorem rR {H:List Nat}{h:Nat}{k:aq}:∀{st:List (Nat×aq)},ay (fg H st) h=some k→dm H h=none∧ay st h=some k
 | [],e=>by cases e
 | (x,k')::r,e=>by
  simp only[fg] at e
  cases hx:dm H x with
  | some i=>
   rw[hx] at e
   obtain⟨h1,h2⟩:=rR e
   refine⟨h1,?_⟩
   rw[aG _ _ fun e=>by subst e;rw[hx] at h1;cases h1]
   exact h2
  | none=>
   rw[hx] at e
   simp only[ay] at e⊢
   cases hb:Nat.beq x h with
   | true=>
    rw[hb] at e
    have:=ab hb
    subst this
    exact⟨hx,e⟩
   | false=>rw[hb] at e;exact rR e
theorem zG {H:List Nat}{h:Nat}{k:aq}(hi:dm H h=none):∀{st:List (Nat×aq)},ay st h=some k→ay (fg H st) h=some k
 | [],e=>by cases e
 | (x,k')::r,e=>by
  simp only[fg]
  simp only[ay] at e
  cases hb:Nat.beq x h with
  | true=>
   rw[hb] at e
   have:=ab hb
   subst this
   rw[hi]
   simp only[ay,aK]
   exact e
  | false=>
   rw[hb] at e
   have:=zG hi (st:=r) e
   split
   ·exact this
   ·simp only[ay,hb];exact this
def lM (cx:Cx) (st:List (Nat×aq)) (μ:Mu) (H:List Nat) (vw:Bool):Nat→Prop:=fun b=>cx.X b∨(vw=false∧Own (fg H st) μ b)
def dO (st:List (Nat×aq)) (H:List Nat) (vw:Bool):List (Nat×aq):=bif vw then fg H st else[]
section
variable {P:Program}{N:Nat}{cx:Cx}{s:St}
theorem kc {st dQ stv:List (Nat×aq)}{H:List Nat}{μ:Mu}(hls:fM H stv st H 0=some dQ){b:Nat}(ho:Own dQ (lJ H μ) b):∃(i h:Nat) (k:aq) (c:Nat) (m:Mm),H[i]?=some h∧ay st h=some k∧μ h=some (c,m)∧In b c m:=by
 obtain⟨j,k',c,m,h1,h2,hi⟩:=ho
 obtain⟨n,h,k,rfl,e2,e3,_⟩:=ol hls h1
 rw[cN,jO e2] at h2
 exact⟨n,h,k,c,m,e2,e3,h2,hi⟩
theorem ve {st:List (Nat×aq)}{H:List Nat}{μ:Mu}{b:Nat}(ho:Own (fg H st) μ b):∃h k c m,dm H h=none∧ay st h=some k∧μ h=some (c,m)∧In b c m:=by
 obtain⟨h,k,c,m,h1,h2,hi⟩:=ho
 obtain⟨h3,h4⟩:=rR h1
 exact⟨h,k,c,m,h3,h4,h2,hi⟩
theorem og {H:List Nat}{i h:Nat}(e:H[i]?=some h):h∈H:=aQ e
theorem tA {st:List (Nat×aq)}{H:List Nat}{μ:Mu}{w:World}(hst:cd cx μ st w){i h h' b c c':Nat}{m m':Mm}{k k':aq}(e:H[i]?=some h) (hk:ay st h=some k) (hm:μ h=some (c,m)) (hi:In b c m) (e':dm H h'=none) (hk':ay st h'=some k') (hm':μ h'=some (c',m')) (hi':In b c' m'):False:=by
 have:=hst.dA h h' k k' b c m c' m' hk hk' hm hm' hi hi'
 subst this
 exact rT e' (og e)
theorem Ob {st dQ stv:List (Nat×aq)}{H:List Nat}{μ:Mu}(vw:Bool) (hls:fM H stv st H 0=some dQ) (w:World) (b:Nat) (ho:(eg (lM cx st μ H vw) dQ (lJ H μ) w).O dQ (lJ H μ) b):cx.O st μ b:=by
 rcases ho with (ho | ⟨_,ho⟩) | ho
 ·exact .inl ho
 ·obtain⟨h,k,c,m,_,h2,h3,hi⟩:=ve ho;exact .inr ⟨h,k,c,m,h2,h3,hi⟩
 ·obtain⟨i,h,k,c,m,_,h2,h3,hi⟩:=kc hls ho;exact .inr ⟨h,k,c,m,h2,h3,hi⟩
theorem sJ {st dQ:List (Nat×aq)}{H:List Nat}{vw:Bool}{μ:Mu}{w:World}(hst:cd cx μ st w) (hls:fM H (dO st H vw) st H 0=some dQ){g g':G}{v:Value}(hv:aN (cx.O st μ) cx.base w μ g v)
  (hg:bV H (dO st H vw) g=some g'):aN ((eg (lM cx st μ H vw) dQ (lJ H μ) w).O dQ (lJ H μ)) w.heap.size w (lJ H μ) g' v:=by
 have hO:=Ob (cx:=cx) (μ:=μ) vw hls w
 generalize hOd:(eg (lM cx st μ H vw) dQ (lJ H μ) w).O dQ (lJ H μ)=O' at hO
 have hstv:∀h k,ay (dO st H vw) h=some k→vw=true∧dm H h=none∧ay st h=some k:=by
  intro h k hk
  unfold dO at hk
  cases vw with
  | true=>exact⟨rfl,rR hk⟩
  | false=>cases hk
 have look:∀{g g':G}{v:Value},aN (cx.O st μ) cx.base w μ g v→view 4 (dO st H vw) g=some g'→bp O' w g' v:=by
  intro g g' v hv hg
  refine vH (fun h k hk=>hst.ey h k (hstv h k hk).2.2) (fun h k b m x hk hm hi' ho=>?_) hO 4 hv hg
  obtain⟨e0,e1,e2⟩:=hstv h k hk
  rw[←hOd] at ho
  rcases ho with (ho | ⟨ho,_⟩) | ho
  ·exact(hst.cv h k b m x e2 hm hi').1 ho
  ·rw[e0] at ho;cases ho
  ·obtain⟨i,h',k',c',m',h1,h2,h3,hi⟩:=kc hls ho
   exact tA hst h1 h2 h3 hi e1 e2 hm hi'
 have aD:∀{g:G}{v:Value},bp (cx.O st μ) w g v→∀{g'},bV H (dO st H vw) g=some g'→aN O' w.heap.size w (lJ H μ) g' v:=by
  intro g v h
  induction h with
  | any v=>intro g' hg;cases hg
  | val v=>intro g' hg;cases hg;exact .aD (xk v)
  | cQ b v h=>intro g' hg;cases hg;exact .aD (.cQ b v h)
  | nil=>intro g' hg;cases hg;exact .aD .nil
  | iw a c=>intro g' hg;cases hg;exact .aD (.iw a c)
  | sl n cells b off cap us h1 h2 h3 h4 h5 ih=>intro g' hg;cases hg;exact .aD ((bp.sl n cells b off cap us h1 h2 h3 h4 h5).mono (Kept.refl _ _) fun b _ hn ho=>hn (hO b ho))
  | ptr cells b off us h1 h2 h3 h4 ih=>intro g' hg;cases hg;exact .aD ((bp.ptr cells b off us h1 h2 h3 h4).mono (Kept.refl _ _) fun b _ hn ho=>hn (hO b ho))
  | agg cells us hl hr ih=>
   intro g' hg
   simp only[bV,au] at hg
   obtain⟨gs',h1,rfl⟩:=hg
   obtain⟨h2,h3⟩:=po h1
   refine .agg gs' us (by omega) fun j g v hg hv=>?_
   obtain⟨g0,h4,h5⟩:=h3 j g hg
   exact ih j g0 v h4 hv h5
 induction hv generalizing g' with
 | aD h=>exact aD h hg
 | fr h=>cases hg;exact .aD (h.Hv.mono (Kept.refl _ _) fun b _ hn ho=>hn (hO b ho))
 | loc h off b m hm=>
  simp only[bV] at hg
  cases hi:dm H h with
  | some i=>rw[hi] at hg;cases hg;exact .loc _ _ b m (by rw[jO (ep hi)];exact hm)
  | none=>rw[hi] at hg;exact .aD (look (.loc h off b m hm) hg)
 | gX h sz hm=>
  simp only[bV] at hg
  cases hi:dm H h with
  | some i=>rw[hi] at hg;cases hg;exact .gX _ _ (by rw[jO (ep hi)];exact hm)
  | none=>rw[hi] at hg;exact .aD (look (.gX h sz hm) hg)
 | aM h sz off n b m cap hm hn hc=>
  simp only[bV] at hg
  cases hi:dm H h with
  | some i=>rw[hi] at hg;cases hg;exact .aM _ _ _ _ b m cap (by rw[jO (ep hi)];exact hm) hn hc
  | none=>rw[hi] at hg;exact .aD (look (.aM h sz off n b m cap hm hn hc) hg)
 | fL h sz off0 b m hm hpos=>
  simp only[bV] at hg
  cases hi:dm H h with
  | some i=>rw[hi] at hg;cases hg;exact .fL _ _ off0 b m (by rw[jO (ep hi)];exact hm) hpos
  | none=>rw[hi] at hg;exact .aD (look (.fL h sz off0 b m hm hpos) hg)
 | agg cells us hl hr ih=>
  simp only[bV,au] at hg
  obtain⟨gs',h1,rfl⟩:=hg
  obtain⟨h2,h3⟩:=po h1
  refine .agg gs' us (by omega) fun j g v hg hv=>?_
  obtain⟨g0,h4,h5⟩:=h3 j g hg
  exact ih j g0 v h4 hv h5
 | aT cells us hl hr ih=>cases hg
 | aR f caps us hl hr ih=>
  simp only[bV,au] at hg
  obtain⟨gs',h1,rfl⟩:=hg
  obtain⟨h2,h3⟩:=po h1
  refine .aR f gs' us (by omega) fun j g v hg hv=>?_
  obtain⟨g0,h4,h5⟩:=h3 j g hg
  exact ih j g0 v h4 hv h5
 | cT h b m hm=>
  simp only[bV] at hg
  cases hi:dm H h with
  | some i=>rw[hi] at hg;cases hg;exact .cT _ b m (by rw[jO (ep hi)];exact hm)
  | none=>rw[hi] at hg;cases hg
 | eY h b m hm=>
  simp only[bV] at hg
  cases hi:dm H h with
  | some i=>rw[hi] at hg;cases hg;exact .eY _ b m (by rw[jO (ep hi)];exact hm)
  | none=>rw[hi] at hg;cases hg
 | kp h j off b m c n hm hk=>
  simp only[bV] at hg
  cases hi:dm H h with
  | some i=>rw[hi] at hg;cases hg;exact .kp _ j off b m c n (by rw[jO (ep hi)];exact hm) hk
  | none=>rw[hi] at hg;cases hg
 | k7 h j sz x cap hb=>
  simp only[bV] at hg
  cases hi:dm H h with
  | some i=>rw[hi] at hg;cases hg;exact .k7 _ j sz x cap hb
  | none=>rw[hi] at hg;cases hg
 | ks h j sz n b m c k cap hm hk hn hc=>
  simp only[bV] at hg
  cases hi:dm H h with
  | some i=>rw[hi] at hg;cases hg;exact .ks _ j sz n b m c k cap (by rw[jO (ep hi)];exact hm) hk hn hc
  | none=>rw[hi] at hg;cases hg
theorem FH {st dQ:List (Nat×aq)}{H:List Nat}{vw:Bool}{μ:Mu}{w:World}(hst:cd cx μ st w) (hls:fM H (dO st H vw) st H 0=some dQ) (cZ:H.Nodup):
  cd (eg (lM cx st μ H vw) dQ (lJ H μ) w) (lJ H μ) dQ w:=by
 have hO:=Ob (cx:=cx) (μ:=μ) vw hls w
 refine {ey:=?_,dA:=?_,cv:=?_,fK:=fun _ _ _ _=>.inl rfl,fo:=?_,hb:=ar _,os:=rfl,tape:=rfl,output:=rfl,gl:=hst.Oj fun b hb=>(by
  obtain⟨i,h,k,c,m',q1,q2,q3,q4⟩:=kc hls hb
  obtain⟨_,z2,_⟩:=hst.cv h k c m' b q2 q3 q4
  exact z2),ec:=fun _ _ _=>rfl}
 ·intro j k' hk'
  obtain⟨n,h,k,rfl,e2,e3,e4⟩:=ol hls hk'
  rw[cN,jO e2]
  have hb:=hst.ey h k e3
  unfold qp at e4
  cases hp:k.pure with
  | true=>
   rw[hp] at e4
   cases e4
   cases hm:μ h with
   | none=>rw[hm] at hb;exact hb.xG rfl rfl hp.symm
   | some bm=>
    obtain⟨b,m⟩:=bm
    rw[hm] at hb
    cases hl:k.lp with
    | none=>
     obtain⟨cs,h1,h2,h3,h4,h5,h6⟩:=hb.cells hl
     refine .mk rfl (hb.mn hl) ⟨cs,h1,h2,h3,(fun h=>by cases h),h5,fun j g hg=>?_⟩
     obtain⟨v,hv,hrv⟩:=h6 j g hg
     refine⟨v,hv,?_⟩
     unfold cF at hrv⊢
     simp only[hp] at hrv⊢
     have hrv:=hrv.flag (f':=false) (fun h=>by cases h)
     exact bp.mono hrv (Kept.refl _ _) fun b _ hn ho=>hn (hO b ho)
    | some kd=>
     cases kd with
     | loop lp=>
      obtain⟨D,vs,_,_,_,h4,_⟩:=(aS.loop hl).1 hb
      rw[hp] at h4;cases h4
     | deep d=>
      obtain⟨h1,h2,h3,h4⟩:=(aS.deep hl).1 hb
      refine(aS.deep rfl).2 ⟨d.mono h1 (Kept.refl _ _) (fun x _ hn ho=>hn ?_) (fun _ _=>rfl),rfl,h3,fun h=>by cases h⟩
      cases k.fresh with
      | false=>exact hO x ho
      | true=>exact .inr (hO x ho)
  | false=>
   rw[hp,cond_false] at e4
   cases hgo:bV.go H (dO st H vw) k.cells with
   | none=>rw[hgo] at e4;cases e4
   | some cs'=>
    rw[hgo] at e4
    cases e4
    obtain⟨q1,q2⟩:=po hgo
    cases hm:μ h with
    | none=>
     rw[hm] at hb
     obtain⟨hb1,hb2⟩:=hb
     refine⟨aX (by simp only;rw[q1,hb1];rfl),?_⟩
     dsimp only
     split at hb2
     ·trivial
     ·exact hb2.elim
     ·rw[hp] at hb2;cases hb2.2
    | some bm=>
     obtain⟨b,m⟩:=bm
     rw[hm] at hb
     cases hl:k.lp with
     | none=>
      obtain⟨cs,h1,h2,h3,h4,h5,h6⟩:=hb.cells hl
      refine .mk rfl (hb.mn hl) ⟨cs,h1,h2,by simp only;omega,(fun h=>by cases h),h5,fun j g hg=>?_⟩
      obtain⟨g0,q3,q4⟩:=q2 j g hg
      obtain⟨v,hv,hrv⟩:=h6 j g0 q3
      refine⟨v,hv,?_⟩
      unfold cF at hrv⊢
      simp only[hp] at hrv⊢
      exact sJ hst hls hrv q4
     | some kd=>
      cases kd with
      | deep d=>have:=((aS.deep hl).1 hb).2.1;rw[hp] at this;cases this
      | loop lp=>
       obtain⟨D,vs,h1,h2,h3,h4,h5⟩:=(aS.loop hl).1 hb
       refine(aS.loop rfl).2 ⟨D,vs,h1,h2,rfl,rfl,fun j t g ht hg=>?_⟩
       obtain⟨g0,q3,q4⟩:=q2 j g hg
       obtain⟨v,hv,hrv⟩:=h5 j t g0 ht q3
       exact⟨v,hv,sJ hst hls hrv q4⟩
 ·intro j j' k1 k2 y b m b' m' h1 h2 h3 h4 hi hi'
  obtain⟨n,h,k,rfl,e2,e3,_⟩:=ol hls h1
  obtain⟨n',h',k',rfl,e2',e3',_⟩:=ol hls h2
  rw[cN,jO e2] at h3
  rw[cN,jO e2'] at h4
  have:=hst.dA h h' k k' y b m b' m' e3 e3' h3 h4 hi hi'
  subst this
  have:=(List.getElem?_inj (av.1 e2).1 cZ).1 (e2.trans e2'.symm)
  subst this
  rfl
 ·intro j k1 b m y h1 h2 hi
  obtain⟨n,h,k,rfl,e2,e3,e4⟩:=ol hls h1
  have hA:Own dQ (lJ H μ) y:=⟨_,_,_,_,h1,h2,hi⟩
  rw[cN,jO e2] at h2
  refine⟨?_,.inr hA,(hst.cv h k b m y e3 h2 hi).2.2.1,fun hm=>?_⟩
  ·rintro(ho | ⟨_,ho⟩)
   ·exact(hst.cv h k b m y e3 h2 hi).1 ho
   ·obtain⟨h',k',c',m',q1,q2,q3,q4⟩:=ve ho
    exact tA hst e2 e3 h2 hi q1 q2 q3 q4
  ·rw[I5 e4] at hm;cases hm
 ·rintro b (ho | ⟨_,ho⟩)
  ·have:=hst.fo b ho;have:=hst.hb;show b<w.heap.size;omega
  ·obtain⟨h',k',c',m',q1,q2,q3,q4⟩:=ve ho
   exact rQ hst ⟨h',k',c',m',q2,q3,q4⟩
end
end Go.AM
/-
 AM,part Y:plain facts of partial functions.
-/
namespace Go.AM
theorem cc {α:Type}{l:List α}{i:Nat}{x:α}(h:l[i]?=some x):idx l (i:Int)=some x:=by
 unfold idx
 rw[if_pos (by omega)]
 simpa using h
theorem PI {l:ByteArray}{i:Int}(h0:0≤i) (h1:i<(l.size:Int)):∃x,qL l i=some x∧l[i.toNat]?=some x:=by
 have h:i.toNat<l.size:=by omega
 refine⟨l[i.toNat],?_,?_⟩
 ·unfold qL
  rw[if_pos h0]
  exact getElem?_pos ..
 ·exact getElem?_pos ..
theorem ou {p:Prop}[Decidable p] (h:p):cj p=some ():=by unfold cj;rw[if_pos h]
theorem i64 {n:Int}(h0:-9223372036854775808≤n) (h1:n≤9223372036854775807):IntKind.i64.wrap n=n:=IntWalk.i64_in n ⟨h0,h1⟩
theorem u64 {n:Int}(h0:0≤n) (h1:n≤18446744073709551615):IntKind.u64.wrap n=n:=IntWalk.u64_in n ⟨h0,h1⟩
def pb {σ α ρ:Type}(g:σ→α→Option (σ⊕ρ)) (e:σ→ρ):σ→List α→Option ρ
 | s,[]=>some (e s)
 | s,x::r=>match g s x with
  | some (.inl s')=>pb g e s' r
  | some (.inr v)=>some v
  | none=>none
def vJ {σ τ ρ:Type}(f:σ→τ):Option (σ⊕ρ)→Option (τ⊕ρ)
 | some (.inl s)=>some (.inl (f s))
 | some (.inr r)=>some (.inr r)
 | none=>none
theorem uw {σ τ α ρ:Type}{body:τ→Option (τ⊕ρ)}(l:List α) (st:σ→Int→τ) (g:σ→α→Option (σ⊕ρ)) (e:σ→ρ)
  (hbody:∀(s:σ) (k:Nat) (x:α),l[k]?=some x→body (st s k)=vJ (fun s'=>st s' ((k+1:Nat):Int)) (g s x)) (hend:∀s:σ,body (st s (l.length:Int))=some (.inr (e s)))
  (n:Nat) (hn:l.length<n) (s:σ):aW body n (st s 0)=pb g e s l:=by
 have key:∀(m k n:Nat) (s:σ),m=l.length-k→k≤l.length→m<n→aW body n (st s (k:Int))=pb g e s (l.drop k):=by
  intro m
  induction m with
  | zero=>
   intro k n s hm hk hn
   obtain rfl:k=l.length:=by omega
   cases n with
   | zero=>omega
   | succ n=>simp only[aW,hend,jx,pb]
  | succ m ih=>
   intro k n s hm hk hn
   cases n with
   | zero=>omega
   | succ n=>
    have hlt:k<l.length:=by omega
    have hx:l[k]?=some l[k]:=ao hlt
    rw[b9 hlt]
    simp only[aW,hbody s k _ hx,pb]
    cases hg:g s l[k] with
    | none=>simp only[vJ]
    | some o=>
     cases o with
     | inl s'=>simp only[vJ];exact ih (k+1) n s' (by omega) (by omega) (by omega)
     | inr v=>simp only[vJ]
 have:=key l.length 0 n s (by omega) (by omega) hn
 simpa using this
theorem gF {k n:Nat}(h:k<n) (hn:n≤9223372036854775807):IntKind.i64.wrap ((k:Int)+1)=((k+1:Nat):Int):=by
 rw[i64 (by omega) (by omega)];omega
theorem dR {α:Type}{l:List α}{k:Nat}{x:α}(h:l[k]?=some x):k<l.length:=(av.1 h).1
theorem dec_lt {α:Type}{l:List α}{k:Nat}{x:α}(h:l[k]?=some x):decide ((k:Int)<(l.length:Int))=true:=by have:=dR h;simp;omega
theorem dj {α:Type}(l:List α):decide ((l.length:Int)<(l.length:Int))=false:=by simp
section
variable {α:Type}[DecidableEq α]
end
end Go.AM
