/-
  AM, second part.
-/
import Derived.Test.YtongekoajbcliaaGreatDoorMgA
import Derived.Laws.Tables
import Derived.WalkSpells
import Derived.Laws.Slices
import Derived.Laws.Strings2
import Derived.IntWalk
set_option linter.unusedSectionVars false
set_option linter.unusedSimpArgs false
set_option linter.unusedVariables false
/-
 AM,part L:a eV from a walk;calls by eV.
-/
namespace Go.AM
def uW (P:Program) (fn:Func) (Q:G→List (Nat×av)→Prop):Exit→St→Prop:=fun e s=>
 (e=.ret∨e=.normal)∧s.df=[]∧∃gs r st',CT P s fn.results.toList gs∧pe s.st st'∧ja s.st st' (pack gs)=some r∧Q r st'
def Zs (P:Program) (fn:Func) (Q:G→List (Nat×av)→Prop) (Qp:List PanicEntry→List (Nat×av)→Prop):Exit→St→Prop:=fun e s=>
 uW P fn Q e s∨∃c,e=.panic c∧s.df=[]∧∃st',pe s.st st'∧Qp c st'
theorem iM.refl (Z:Nat→Prop) (w:World):iM Z w w:=⟨rfl,fun _=>.inl rfl,rfl,rfl,rfl⟩
theorem iM.put {Z:Nat→Prop}{w:World}{D:Nat}{o:Obj}(o':Obj) (hz:Z D) (ho:w.heap[D]?=some o) (hc:Qv o=false):iM Z w (w.putObj D o'):=by
 refine⟨by simp[World.putObj],fun b=>?_,rfl,rfl,rfl⟩
 by_cases e:b=D
 ·subst e;exact .inr ⟨hz,o,ho,hc⟩
 ·exact .inl (World.putObj_heap_other e)
theorem iM.cells {Z:Nat→Prop}{w w':World}(h:iM Z w w'){b:Nat}{cs:Array Value}{e:TypeId}{f:Nat×Nat}(hb:w.heap[b]?=some (.cells cs e f)):w'.heap[b]?=some (.cells cs e f):=by
 rcases h.block b with h1 | ⟨_,x,h1,h2⟩
 ·exact h1.trans hb
 ·rw[hb] at h1;cases h1;cases h2
theorem iM.cell {Z:Nat→Prop}{w w':World}(h:iM Z w w'){b j:Nat}{v:Value}(hb:w.cell? ⟨b,j,none⟩=some v):w'.cell? ⟨b,j,none⟩=some v:=by
 rcases h.block b with h1 | ⟨_,x,h1,h2⟩
 ·rw[World.cell?_of_block (w:=w) h1];exact hb
 ·cases x with
  | cells cs e f=>cases h2
  | _=>simp[World.cell?,h1] at hb
theorem bH.shut {O Z:Nat→Prop}{w w':World}{g:G}{v:Value}(hr:bH O w g v) (h:iM Z w w'):bH O w' g v:=by
 induction hr with
 | any v=>exact .any v
 | val v=>exact .val v
 | dw b v h=>exact .dw b v h
 | nil=>exact .nil
 | jb a cap=>exact .jb a cap
 | sl n cells b off cap us hn hO1 hb1 hc hr ih=>exact .sl n cells b off cap us hn hO1 (by rw[h.size];exact hb1) (fun j hj=>h.cell (hc j hj)) ih
 | ptr cells b off us hO1 hb1 hc hr ih=>exact .ptr cells b off us hO1 (by rw[h.size];exact hb1) (fun j hj=>h.cell (hc j hj)) ih
 | agg cells us hl hr ih=>exact .agg cells us hl ih
theorem aU.shut {O Z:Nat→Prop}{base:Nat}{w w':World}{μ:Mu}{g:G}{v:Value}(hr:aU O base w μ g v) (h:iM Z w w'):aU O base w' μ g v:=by
 induction hr with
 | aF hr=>exact .aF (hr.shut h)
 | fr hr=>exact .fr (hr.shut h)
 | loc h off b m hm=>exact .loc h off b m hm
 | gk h sz hm=>exact .gk h sz hm
 | aL h sz off n b m cap hm hn hc=>exact .aL h sz off n b m cap hm hn hc
 | fq h sz off0 b m hm hpos=>exact .fq h sz off0 b m hm hpos
 | agg cells us hl hr ih=>exact .agg cells us hl ih
 | bB cells us hl hr ih=>exact .bB cells us hl ih
 | ba f caps us hl hr ih=>exact .ba f caps us hl ih
 | cW h b m hm=>exact .cW h b m hm
 | kp h i off b m c n hm hk=>exact .kp h i off b m c n hm hk
 | mh h i sz x cap hi=>exact .mh h i sz x cap hi
 | ks h i sz n b m c k cap hm hk hn hc=>exact .ks h i sz n b m c k cap hm hk hn hc
 | eN h b m hm=>exact .eN h b m hm
theorem aV.shut {O Z:Nat→Prop}{base:Nat}{w w':World}{μ:Mu}{k:av}{x:Option (Nat×Mm)}(hr:aV O base w μ k x) (h:iM Z w w') (hz:∀b m,x=some (b,m)→k.lp≠none→∀y,In y b m→¬Z y):aV O base w' μ k x:=by
 cases x with
 | none=>exact hr
 | some bm=>
  obtain⟨b,m⟩:=bm;cases hl:k.lp with
  | none=>
   obtain⟨cs,h2,h3,h4,h6,h8,h5⟩:=hr.cells hl;refine .mk hl (hr.nf hl) ⟨cs,h.cells h2,h3,h4,h6,h8,fun j g hg=>?_⟩;obtain⟨v,hv,hrv⟩:=h5 j g hg;refine⟨v,hv,?_⟩;unfold cZ at hrv⊢;cases hp:k.pure with
   | true=>rw[hp] at hrv;exact hrv.shut h
   | false=>rw[hp] at hrv;exact hrv.shut h
  | some kd=>
   have hz:=hz b m rfl (by rw[hl];exact fun h=>by cases h);cases kd with
   | loop lp=>
    obtain⟨D,vs,h2,h3,h4,h5,h6⟩:=(aV.loop hl).1 hr;refine(aV.loop hl).2 ⟨D,vs,?_,h3,h4,h5,fun j t g ht hg=>let ⟨v,hv,hrv⟩:=h6 j t g ht hg;⟨v,hv,hrv.shut h⟩⟩;rcases h.block b with h7 | ⟨h7,_⟩
    ·exact h7.trans h2
    ·exact absurd h7 (hz b (.self _ _))
   | deep d=>
    obtain⟨h1,h2,h3,h4⟩:=(aV.deep hl).1 hr;exact(aV.deep hl).2 ⟨d.shut h1 h hz,h2,h3,h4⟩
theorem cI.shut {cx:Cx}{μ:Mu}{st:List (Nat×av)}{w w' w0:World}{Z:Nat→Prop}(hr:cI cx μ st w) (h:iM Z w w') (hz:∀x k b m,ay st x=some k→μ x=some (b,m)→k.lp≠none→∀y,In y b m→¬Z y)
  (h0:w0.os=cx.w0.os∧w0.tape=cx.w0.tape∧w0.output=cx.w0.output) (hk:∀b,b<cx.base→¬cx.A b→w'.heap[b]?=w0.heap[b]?):cI {cx with w0:=w0} μ st w':=
 {en:=fun x k hx=>(hr.en x k hx).shut h fun b m hm hl=>hz x k b m hx hm hl,de:=hr.de,cq:=fun x k b m y h1 h2 h3=>by rw[h.size];exact hr.cq x k b m y h1 h2 h3,fD:=hr.fD,fg:=hr.fg,hb:=by rw[h.size];exact hr.hb,
  os:=(h.os.trans hr.os).trans h0.1.symm,tape:=(h.tape.trans hr.tape).trans h0.2.1.symm,output:=(h.output.trans hr.output).trans h0.2.2.symm,dq:=hk,
  gl:=fun p hp=>by
   obtain⟨h1,h2,cs,e,f,h3,h4⟩:=hr.gl p hp;refine⟨h1,h2,cs,e,f,?_,h4⟩;rw[←hk p.1 h1 h2];rcases h.block p.1 with h5 | ⟨_,o,h5,h6⟩
   ·exact h5.trans ((hr.dq p.1 h1 h2).trans h3)
   ·rw[hr.dq p.1 h1 h2,h3] at h5;cases h5;cases h6}
theorem iG.shut {O Z:Nat→Prop}{base:Nat}{w w':World}{μ:Mu}{ds:List Deferred}{gs:List G}(hr:iG O base w μ ds gs) (h:iM Z w w') (hz:∀d∈ds,∀D,d.target=.collected D→¬Z D):iG O base w' μ ds gs:=by
 induction hr with
 | nil=>exact .nil
 | mark h1 h2 h3 h4 h5 h6 ih=>
  refine .mark h1 h2 (by rw[h.size];exact h3) ?_ h5 (ih fun d hd=>hz d (ap _ hd));rcases h.block _ with h7 | ⟨h7,_⟩
  ·exact h7.trans h4
  ·exact absurd h7 (hz _ ar _ rfl)
 | ba h1 h2 ih=>exact .ba (h1.shut h) (ih fun d hd=>hz d (ap _ hd))
theorem wg {F:Fence}{n:Nat}{P:Program}{fn:Func}{tmps:Array Value}{R:Ending→World→Prop}{u:FrameMode}(hu:u≠.run){O:Nat→Prop}{base:Nat}{μ:Mu}:
  ∀{ds:List Deferred}{w:World},iG O base w μ ds []→(∀w',iM (fun b=>¬O b∧base≤b) w w'→LeavesIn F n P fn tmps R [] u w')→LeavesInM F n P fn tmps R ds u w
 | [],w,_,K=>K w (iM.refl _ _)
 | d::ds,w,h,K=>by
  cases h with
  | mark h1 h2 h3 h4 h5 h6=>
   rename_i D;refine⟨hu,.inl ⟨D,_,rfl,run_takeDeferred h4,?_⟩⟩;have hs:iM (fun b=>¬O b∧base≤b) w (w.putObj D (.deferred none)):=iM.put _ ⟨h1,h2⟩ h4 rfl;have hs1:iM (fun b=>b=D) w (w.putObj D (.deferred none)):=iM.put _ rfl h4 rfl;refine wg hu (O:=O) (base:=base) (μ:=μ) (w:=w.putObj D (.deferred none)) (h6.shut hs1 fun d hd D' e e'=>h5 d hd (by rw[e,e'])) fun w' hw'=>K w' ⟨hw'.size.trans hs.size,fun b=>?_,hw'.os.trans hs.os,hw'.tape.trans hs.tape,hw'.output.trans hs.output⟩
   by_cases e:b=D
   ·subst e;exact .inr ⟨⟨h1,h2⟩,_,h4,rfl⟩
   ·rcases hw'.block b with h7 | ⟨h7,o,h8,h9⟩
    ·exact .inl (h7.trans (World.putObj_heap_other e))
    ·exact .inr ⟨h7,o,by rw[←World.putObj_heap_other (o:=.deferred none) e];exact h8,h9⟩
theorem cI.N8 {cx:Cx}{μ:Mu}{st:List (Nat×av)}{w w':World}(hr:cI cx μ st w) (h:iM (fun b=>¬cx.O st μ b∧cx.base≤b) w w'):cI cx μ st w':=
 hr.shut (w0:=cx.w0) h (fun x k b m h1 h2 _ y hy hz=>hz.1 (.inr ⟨x,k,b,m,h1,h2,hy⟩)) ⟨rfl,rfl,rfl⟩ fun b hb hA=>by
  rcases h.block b with h1 | ⟨⟨_,h1⟩,_⟩
  ·exact h1.trans (hr.dq b hb hA)
  ·omega
section
variable {P:Program}{N:Nat}{cx:Cx}{s:St}
theorem Uo {O:Nat→Prop}{base:Nat}{w:World}{μ:Mu}{gs:List G}{vs:List Value}(hl:vs.length=gs.length) (hr:∀(j:Nat) (g:G) (v:Value),gs[j]?=some g→vs[j]?=some v→aU O base w μ g v):
  aU O base w μ (pack gs) (if h:vs.toArray.size=1 then vs.toArray[0] else .tuple vs.toArray):=by
 match gs,vs,hl,hr with
 | [],[],_,hr=>exact .bB [] [] rfl hr
 | [g],[v],_,hr=>exact hr 0 g v rfl rfl
 | g::g'::gs,v::v'::vs,hl,hr=>
  rw[dif_neg (by simp)];exact .bB _ _ hl hr
theorem PS (fn:Func) (a:Act):results fn a.tmps=(do let vs ←fn.results.mapM (yC a);pure (if h:vs.size=1 then vs[0] else .tuple vs)):=rfl
theorem HG {α:Type}(f:α→Sem Value) (xs:Array α) (w w':World) (vs:List Value) (h:(xs.toList.mapM f).run P w=.ok vs w'):(xs.mapM f).run P w=.ok vs.toArray w':=by
 rw[Array.mapM_eq_mapM_toList];simp[Sem.run_map,h]
theorem GP.of {f : FuncId} {fn : Func} {c : Code} {args : List G} {st : List (Nat × av)} {Q : G → List (Nat × av) → Prop} {Qp : List PanicEntry → List (Nat × av) → Prop} (hf : P.funcs[f]? = some fn) (hb : fn.body = some c) (hN : fn.ntmps = N) (hle : Nat.ble args.length N = true)
    (h : ∀ cx, cx.ro = none → GW P N cx c (Zs P fn Q Qp) { fr := oI args 0, st := st, df := [] }) : GP P f args st Q Qp := by
  intro X μ w vs hX hst hl ha
  have hle := fK hle
  have hrel : Rel N (jc X st μ w) μ { fr := oI args 0, st := st, df := [] } { tmps := vs.toArray ++ Array.replicate (fn.ntmps - vs.toArray.size) undef, defers := [] } w := by
    refine { st := hst, nd := .nil, sz := by simp; omega, fr := fun t g hg => ?_ }
    obtain ⟨_, h2⟩ := DV hg
    simp only [Nat.sub_zero] at h2
    have ht : t < vs.length := by have := (ai.1 h2).1; omega
    refine ⟨vs[t], ?_, ha t g vs[t] h2 (ag ht)⟩
    rw [Array.getElem?_append_left (by simpa using ht)]
    simp [ht]
  refine AD.1 (callsIn_of_wp_marks (F := FF none) (n := 0) hf hb trivial ?_)
  refine wpIn_mono (h (jc X st μ w) rfl μ _ w hrel) fun e a' w' hl => ?_
  have fin : ∀ (μ' : Mu) (s' : St), Rel N (jc X st μ w) μ' s' a' w' → Zs P fn Q Qp e s' → (e = .ret ∨ e = .normal) → LeavesInM (FF none) 0 P fn a'.tmps (FD X st μ w Q Qp) a'.defers .returning w' := by
    rintro μ' s' hr' hq he
    have hq : uW P fn Q e s' := by
      rcases hq with hq | ⟨c, h1, _⟩
      · exact hq
      · subst h1; rcases he with he | he <;> cases he
    obtain ⟨_, hdf, gs, r, st', h1, h2, h3, h4⟩ := hq
    have di := hr'.nd
    rw [hdf] at di
    refine wg (fun h => by cases h) di fun w'' hs => ?_
    have hr'' : Rel N (jc X st μ w) μ' { s' with df := [] } { a' with defers := [] } w'' :=
      { st := hr'.st.N8 hs, nd := .nil, sz := hr'.sz, fr := fun t g hg => let ⟨v, hv, hrv⟩ := hr'.fr t g hg; ⟨v, hv, hrv.shut hs⟩ }
    have h1' : CT P { s' with df := [] } fn.results.toList gs := by
      have : ({ s' with df := [] } : St) = s' := by cases s'; simp only at hdf; subst hdf; rfl
      rw [this]; exact h1
    obtain ⟨vs', hl', hvs, hrun⟩ := h1'.run hr''
    have hp := Uo hl' hvs
    refine ⟨_, ?_, .inl ⟨_, r, st', μ', rfl, h4, hr''.st.sub h2, MD hr''.st (fun h k hk => ⟨k, h2.get hk⟩) hp h3⟩⟩
    have e1 : results fn a'.tmps = results fn ({ a' with defers := [] } : Act).tmps := rfl
    rw [e1, PS]
    simp only [Sem.run_bind, HG _ _ _ _ _ hrun, Result.andThen_ok, Sem.run_pure]
  cases e with
  | normal => obtain ⟨μ', s', hr', hq⟩ := hl; exact fin μ' s' hr' hq (.inr rfl)
  | ret => obtain ⟨μ', s', hr', hq⟩ := hl; exact fin μ' s' hr' hq (.inl rfl)
  | panic ch =>
    obtain ⟨μ', s', hr', hq⟩ := hl
    have h1 := hr'.st
    have h2 := hr'.nd
    rcases hq with ⟨hq, _⟩ | ⟨c', h4, hdf, st', h5, h6⟩
    · rcases hq with hq | hq <;> cases hq
    · cases h4
      rw [hdf] at h2
      refine wg (fun h => by cases h) h2 fun w'' hs => ?_
      exact .inr ⟨_, st', μ', rfl, h6, (h1.N8 hs).sub h5⟩
  | outgrown => exact hl.elim
  | exit id =>
    obtain ⟨μ', s', hr', hq⟩ := hl
    rcases hq with ⟨hq, _⟩ | ⟨c, hq, _⟩
    · rcases hq with hq | hq <;> cases hq
    · cases hq
  | goto l =>
    obtain ⟨μ', s', hr', hq⟩ := hl
    rcases hq with ⟨hq, _⟩ | ⟨c, hq, _⟩
    · rcases hq with hq | hq <;> cases hq
    · cases hq
theorem GM.of {f : FuncId} {fn : Func} {c : Code} {args : List G} {st : List (Nat × av)} {Q : G → List (Nat × av) → Prop} (hf : P.funcs[f]? = some fn) (hb : fn.body = some c) (hN : fn.ntmps = N) (hle : Nat.ble args.length N = true)
  (h : ∀ cx, cx.ro = none → GW P N cx c (uW P fn Q) { fr := oI args 0, st := st, df := [] }) : GM P f args st Q :=
 GP.of hf hb hN hle fun cx hro => (h cx hro).mono fun _ _ hq => .inl hq
def eS (f:G→Option G):List G→Option (List G)
 | []=>some []
 | g::r=>match f g,eS f r with
  | some g',some r'=>some (g'::r')
  | _,_=>none
theorem ra {f:G→Option G}:∀{gs gs':List G},eS f gs=some gs'→gs'.length=gs.length∧∀(j:Nat) (g':G),gs'[j]?=some g'→∃g,gs[j]?=some g∧f g=some g'
 | [],_,h=>by cases h;exact⟨rfl,fun j g h=>by simp at h⟩
 | g::r,gs',h=>by
  simp only[eS] at h;cases h1:f g with
  | none=>rw[h1] at h;cases h
  | some g1=>
   rw[h1] at h;cases h2:eS f r with
   | none=>rw[h2] at h;cases h
   | some r1=>
    rw[h2] at h;cases h;obtain⟨h3,h4⟩:=ra h2;refine⟨by simp[h3],fun j g' hg'=>?_⟩;cases j with
    | zero=>cases hg';exact⟨g,rfl,h1⟩
    | succ j=>exact h4 j g' hg'
def nQ:Value→G
 | .slice none 0 0=>.sl 0 []
 | v=>.val v
theorem Bt {O:Nat→Prop}{w:World}(v:Value):bH O w (nQ v) v:=by
 unfold nQ;split
 ·exact .nil
 ·exact .val _
def view:Nat→List (Nat×av)→G→Option G
 | 0,_,_=>none
 | n+1,st,g=>match g with
  | .val v=>some (nQ v)
  | .dw b=>some (.dw b)
  | .sl n cs=>some (.sl n cs)
  | .ptr cs=>some (.ptr cs)
  | .fr g=>some g
  | .aL h sz off m=>match ay st h with
   | some k=>match k.lp with
    | some _=>none
    | none=>match k.pure with
     | true=>some (.sl m ((k.cells.drop off).take (m*sz)))
     | false=>match eS (view n st) ((k.cells.drop off).take (m*sz)) with
      | some cs=>some (.sl m cs)
      | none=>none
   | none=>none
  | .loc h off=>match ay st h with
   | some k=>match k.lp with
    | some _=>none
    | none=>match k.pure with
     | true=>some (.ptr (k.cells.drop off))
     | false=>match eS (view n st) (k.cells.drop off) with
      | some cs=>some (.ptr cs)
      | none=>none
   | none=>none
  | .agg gs=>match eS (view n st) gs with
   | some gs'=>some (.agg gs')
   | none=>none
  | .ks h i sz m=>bif Nat.beq m 0&&Nat.beq i IT then some (.sl 0 []) else match ay st h with
   | some k=>match k.lp with
    | some (.deep d)=>match d.row i with
     | some gs=>bif Nat.beq gs.length (m*sz) then some (.sl m gs) else none
     | none=>none
    | _=>none
   | none=>none
  | _=>none
theorem zo {st:List (Nat×av)}{O X:Nat→Prop}{base:Nat}{μ:Mu}{w:World}(hblk:∀h k,ay st h=some k→aV O base w μ k (μ h)) (hout:∀h k b m x,ay st h=some k→μ h=some (b,m)→In x b m→¬X x) (hXO:∀b,X b→O b):
  ∀(n:Nat){g g':G}{v:Value},aU O base w μ g v→view n st g=some g'→bH X w g' v
 | 0,_,_,_,_,h=>by cases h
 | n+1,g,g',v,hv,h=>by
  have hX:∀{g v},bH O w g v→bH X w g v:=fun h=>h.mono (Kept.refl _ _) fun b _ hn hx=>hn (hXO b hx);have cells:∀(hh off cnt:Nat) (k:av) (b:Nat) (m:Mm) (cs:List G),ay st hh=some k→k.lp=none→μ hh=some (b,m)→(match k.pure with | true=>some ((k.cells.drop off).take cnt) | false=>eS (view n st) ((k.cells.drop off).take cnt))=some cs→
    ∃us:Nat→Value,¬X b∧b<w.heap.size∧(∀j,j<cs.length→w.cell? ⟨b,off+j,none⟩=some (us j))∧(∀(j:Nat) (g:G),cs[j]?=some g→bH X w g (us j))∧cs.length≤m.1-off:=by
   intro hh off cnt k b m cs hk hlp hm hcs;have hb:=hblk hh k hk;rw[hm] at hb;obtain⟨vs,h1,h2,h3,h4,h5,h6⟩:=hb.cells hlp;have rd:cs.length≤m.1-off∧∀(j:Nat) (g:G),cs[j]?=some g→∃v,vs[off+j]?=some v∧bH X w g v:=by
    cases hp:k.pure with
    | true=>
     rw[hp] at hcs;cases hcs;refine⟨by rw[br,cf];omega,fun j g hg=>?_⟩;rw[bo] at hg;split at hg
     ·rw[bE] at hg;obtain⟨v,hv,hrv⟩:=h6 _ g hg;refine⟨v,hv,?_⟩;unfold cZ at hrv;rw[hp] at hrv;exact hX (hrv.flag (f':=false) (fun h=>by cases h))
     ·cases hg
    | false=>
     rw[hp] at hcs;obtain⟨h7,h8⟩:=ra hcs;refine⟨by rw[h7,br,cf];omega,fun j g hg=>?_⟩;obtain⟨g0,h9,h10⟩:=h8 j g hg;rw[bo] at h9;split at h9
     ·rw[bE] at h9;obtain⟨v,hv,hrv⟩:=h6 _ g0 h9;refine⟨v,hv,?_⟩;unfold cZ at hrv;rw[hp] at hrv;exact zo hblk hout hXO n hrv h10
     ·cases h9
   refine⟨fun j=>vs.getD (off+j) undef,hout hh k b m b hk hm (.self _ _),dQ h1,fun j hj=>?_,fun j g hg=>?_,rd.1⟩
   ·obtain⟨v,hv,_⟩:=rd.2 j _ (ag hj);rw[cell_of h1,hv];simp[hv]
   ·obtain⟨v,hv,hrv⟩:=rd.2 j g hg;simpa[hv] using hrv
  cases g with
  | val u=>cases h;cases hv with | aF hv=>cases hv;exact Bt _
  | sl m cs=>cases h;cases hv with | aF hv=>exact hX hv
  | ptr cs=>cases h;cases hv with | aF hv=>exact hX hv
  | fr g=>cases h;cases hv with
   | aF hv=>cases hv
   | fr hv=>exact hX hv.Ot
  | dw b=>cases h;cases hv with
   | aF hv=>exact hX hv
  | aL hh sz off m=>
   simp only[view] at h;cases hk:ay st hh with
   | none=>rw[hk] at h;cases h
   | some k=>
    rw[hk] at h;dsimp only at h;cases hlp:k.lp with
    | some lp=>rw[hlp] at h;cases h
    | none=>
    rw[hlp] at h;dsimp only at h;have key:∃cs,g'=.sl m cs∧(match k.pure with | true=>some ((k.cells.drop off).take (m*sz)) | false=>eS (view n st) ((k.cells.drop off).take (m*sz)))=some cs:=by
     cases hp:k.pure with
     | true=>rw[hp] at h;cases h;exact⟨_,rfl,rfl⟩
     | false=>
      rw[hp] at h;dsimp only at h⊢;cases hq:eS (view n st) ((k.cells.drop off).take (m*sz)) with
      | none=>rw[hq] at h;cases h
      | some cs=>rw[hq] at h;cases h;exact⟨_,rfl,rfl⟩
    obtain⟨cs,rfl,hcs⟩:=key;have len0:∀{cs},m*sz=0→(match k.pure with | true=>some ((k.cells.drop off).take (m*sz)) | false=>eS (view n st) ((k.cells.drop off).take (m*sz)))=some cs→cs=[]:=by
     intro cs h0 h;rw[h0,dA] at h;cases hp:k.pure with
     | true=>rw[hp] at h;cases h;rfl
     | false=>rw[hp] at h;cases h;rfl
    cases hv with
    | aF hv=>cases hv
    | gk _ _ hm=>
     rw[len0 (gJ _) hcs];exact .nil
    | aL _ _ _ _ b m0 cap hm hn hc=>
     obtain⟨us,h1,h2,h3,h4,_⟩:=cells hh off (m*sz) k b m0 cs hk hlp hm hcs;exact .sl m cs b off cap us hn h1 h2 h3 h4
    | fq _ _ off0 b _ hm hpos=>
     rw[len0 (gJ _) hcs];obtain⟨us,h1,h2,_⟩:=cells hh off (0*sz) k b _ cs hk hlp hm hcs;exact .sl 0 [] b off0 0 us (aG _) h1 h2 (fun j hj=>by simp at hj) (fun j g hg=>by simp at hg)
  | loc hh off=>
   simp only[view] at h;cases hk:ay st hh with
   | none=>rw[hk] at h;cases h
   | some k=>
    rw[hk] at h;dsimp only at h;cases hlp:k.lp with
    | some lp=>rw[hlp] at h;cases h
    | none=>
    rw[hlp] at h;dsimp only at h;have tk:(k.cells.drop off).take (k.cells.length)=k.cells.drop off:=dj (by rw[cf];omega);have key:∃cs,g'=.ptr cs∧(match k.pure with | true=>some ((k.cells.drop off).take k.cells.length) | false=>eS (view n st) ((k.cells.drop off).take k.cells.length))=some cs:=by
     rw[tk];cases hp:k.pure with
     | true=>rw[hp] at h;cases h;exact⟨_,rfl,rfl⟩
     | false=>
      rw[hp] at h;dsimp only at h⊢;cases hq:eS (view n st) (k.cells.drop off) with
      | none=>rw[hq] at h;cases h
      | some cs=>rw[hq] at h;cases h;exact⟨_,rfl,rfl⟩
    obtain⟨cs,rfl,hcs⟩:=key;cases hv with
    | aF hv=>cases hv
    | loc _ _ b m0 hm=>
     obtain⟨us,h1,h2,h3,h4,_⟩:=cells hh off _ k b m0 cs hk hlp hm hcs;exact .ptr cs b off us h1 h2 h3 h4
  | agg gs=>
   simp only[view] at h;cases hq:eS (view n st) gs with
   | none=>rw[hq] at h;cases h
   | some gs'=>
    rw[hq] at h;cases h;obtain⟨h1,h2⟩:=ra hq;have key:∃us:List Value,v=.agg us.toArray∧us.length=gs.length∧∀(j:Nat) (g:G) (v:Value),gs[j]?=some g→us[j]?=some v→aU O base w μ g v:=by
     cases hv with
     | aF hv=>cases hv with
      | agg _ us hl hr=>exact⟨us,rfl,hl,fun j g v h1 h2=>.aF (hr j g v h1 h2)⟩
     | agg _ us hl hr=>exact⟨us,rfl,hl,hr⟩
    obtain⟨us,rfl,hl,hr⟩:=key;refine .agg gs' us (by omega) fun j g v hg hv=>?_;obtain⟨g0,h3,h4⟩:=h2 j g hg;exact zo hblk hout hXO n (hr j g0 v h3 hv) h4
  | ks hh i sz m=>
   simp only[view] at h;cases hb0:Nat.beq m 0&&Nat.beq i IT with
   | true=>
    rw[hb0] at h;cases h;simp only[af] at hb0;have hm0:=ab hb0.1;have hi0:=ab hb0.2;subst hm0;cases hv with
    | aF hv=>cases hv
    | mh _ _ _ x cap hi=>obtain⟨rfl,rfl⟩:=hi hi0;exact .nil
    | ks _ _ _ _ b m' c k cap hm hk hn hc=>exact .jb _ _
   | false=>
   rw[hb0,cond_false] at h;cases hk:ay st hh with
   | none=>rw[hk] at h;cases h
   | some k=>
    rw[hk] at h;dsimp only at h;split at h
    ·rename_i d hl;split at h
     ·rename_i gs hrow;cases hlen:Nat.beq gs.length (m*sz) with
      | false=>rw[hlen] at h;cases h
      | true=>
       rw[hlen] at h;cases h;have hl0:=ab hlen;cases hmu:μ hh with
       | none=>
        cases hv with
        | aF hv=>cases hv
        | mh _ _ _ x cap hi=>exact absurd (bu (by rw[hl0,gJ])) (d.Lr hrow)
        | ks _ _ _ _ b m' c kk cap hm=>rw[hmu] at hm;cases hm
       | some bm=>
        obtain⟨b,mm⟩:=bm;have hb:=hblk hh k hk;rw[hmu] at hb;have hφ:=((aV.deep hl).1 hb).1;obtain⟨c,kk,cs,bI,h1,h2,h3⟩:=d.PN hφ hrow;have hXi:∀{g v},bH (bif k.fresh then ir O base else O) w g v→bH X w g v:=fun {g v} h=>by
         cases hkf:k.fresh with
         | false=>rw[hkf] at h;exact hX h
         | true=>rw[hkf] at h;exact hX h.Ot
        have hsl:∀cap,m≤cap→bH X w (.sl m gs) (.slice (some ⟨c,0,none⟩) m cap):=fun cap hcap=>
         .sl m gs c 0 cap (fun j=>cs.getD j undef) hcap (hout hh k b mm c hk hmu (.inr ⟨kk,aj h1⟩)) (dQ h2) (fun j hj=>by
          obtain⟨v,hv,_⟩:=h3 j _ (ag hj);rw[cell_of h2,da,hv];simp[hv]) fun j g hg=>by
          obtain⟨v,hv,hrv⟩:=h3 j g hg;have:=hXi hrv;simpa[hv] using this
        cases hv with
        | aF hv=>cases hv
        | mh _ _ _ x cap hi=>exact absurd (bu (by rw[hl0,gJ])) (d.Lr hrow)
        | ks _ _ _ _ b' m' c' kk' cap hm hk' hn hc=>
         rw[hmu] at hm;cases hm;rw[h1] at hk';cases hk';exact hsl cap hn
     ·cases h
    ·cases h
  | _=>cases h
theorem I4 {st:List (Nat×av)}{μ:Mu}{w:World}(hst:cI cx μ st w) (n:Nat){g g':G}{v:Value}(hv:aU (cx.O st μ) cx.base w μ g v) (h:view n st g=some g'):bH cx.X w g' v:=
 zo hst.en (fun h k b m x h1 h2 h3=>(hst.cq h k b m x h1 h2 h3).1) (fun _ h=>.inl h) n hv h
def kT:G→Bool
 | .val _=>true
 | .dw _=>true
 | .fr _=>true
 | .agg gs=>go gs
 | .bB gs=>go gs
 | _=>false
where go:List G→Bool
 | []=>true
 | g::r=>kT g&&go r
theorem Ce {gs:List G}(h:kT.go gs=true):∀(j:Nat) (g:G),gs[j]?=some g→kT g=true:=by
 induction gs with
 | nil=>intro j g hg;simp at hg
 | cons x r ih=>
  simp only[kT.go,af] at h;intro j g hg;cases j with
  | zero=>cases hg;exact h.1
  | succ j=>exact ih h.2 j g hg
end
end Go.AM
/-
 AM,part M:calls of functions by their contracts.
-/
namespace Go.AM
def tT (n:Nat) (st:List (Nat×av)):G→Option G
 | .ba f caps=>match eS (view n st) caps with
  | some c=>some (.ba f c)
  | none=>none
 | g=>view n st g
def wu (s:St):List Operand→Option (List G)
 | []=>some []
 | x::r=>match ev s x,wu s r with
  | some g,some gs=>some (g::gs)
  | _,_=>none
section
variable {P:Program}{N:Nat}{cx:Cx}{s:St}
theorem oJ:∀{xs:List Operand}{gs:List G},wu s xs=some gs→gs.length=xs.length∧∀(j:Nat) (g:G),gs[j]?=some g→∃x,xs[j]?=some x∧ev s x=some g
 | [],_,h=>by cases h;exact⟨rfl,fun j g h=>by simp at h⟩
 | x::r,gs,h=>by
  simp only[wu] at h;cases h1:ev s x with
  | none=>rw[h1] at h;cases h
  | some g1=>
   rw[h1] at h;cases h2:wu s r with
   | none=>rw[h2] at h;cases h
   | some r1=>
    rw[h2] at h;cases h;obtain⟨h3,h4⟩:=oJ h2;refine⟨by simp[h3],fun j g' hg'=>?_⟩;cases j with
    | zero=>cases hg';exact⟨x,rfl,h1⟩
    | succ j=>exact h4 j g' hg'
theorem Pp {O:Nat→Prop}{base:Nat}{st:List (Nat×av)}{μ μ':Mu}{w:World}(hst:cI cx μ st w) (n:Nat){g g':G}{v:Value}(hv:aU (cx.O st μ) cx.base w μ g v) (h:tT n st g=some g')
  (hO:∀b,b<w.heap.size→¬cx.X b→¬O b):aU O base w μ' g' v:=by
 have up:∀{g v},bH cx.X w g v→aU O base w μ' g v:=fun h=>.aF (h.mono (Kept.refl _ _) hO);cases g with
 | ba f caps=>
  simp only[tT] at h;cases hq:eS (view n st) caps with
  | none=>rw[hq] at h;cases h
  | some c=>
   rw[hq] at h;cases h;obtain⟨h1,h2⟩:=ra hq;cases hv with
   | aF hv=>cases hv
   | ba _ _ us hl hr=>
    refine .ba f c us (by omega) fun j g v hg hv=>?_;obtain⟨g0,h3,h4⟩:=h2 j g hg;exact up (I4 hst n (hr j g0 v h3 hv) h4)
 | _=>exact up (I4 hst n hv h)
theorem cI.kept {μ:Mu}{st:List (Nat×av)}{w w':World}(h:cI cx μ st w) (hsz:w.heap.size≤w'.heap.size) (hb:∀b,b<w.heap.size→w'.heap[b]?=w.heap[b]?) (hos:w'.os=w.os) (htape:w'.tape=w.tape) (hout:w'.output=w.output):cI cx μ st w':=by
 have hk:∀O,Kept O w w':=fun O=>⟨hsz,fun b h _=>hb b h⟩;refine {en:=?_,de:=h.de,cq:=fun x k b m y h1 h2 h3=>let ⟨a1,a2,a3,a4⟩:=h.cq x k b m y h1 h2 h3;⟨a1,a2,cJ a3 hsz,a4⟩,fD:=h.fD,fg:=h.fg,hb:=cK h.hb hsz,os:=hos.trans h.os,tape:=htape.trans h.tape,output:=hout.trans h.output,gl:=h.gl,dq:=fun b h1 h2=>?_}
 ·intro x k hx;exact(h.en x k hx).mono (fun b m hm y hy=>hb y (h.cq x k b m y hx hm hy).2.2.1) (hk _) (fun _ _ h=>h)
 ·rw[hb b (by have:=h.hb;omega)];exact h.dq b h1 h2
theorem Rel.kept {μ:Mu}{a:Act}{w w':World}(h:Rel N cx μ s a w) (hsz:w.heap.size≤w'.heap.size) (hb:∀b,b<w.heap.size→w'.heap[b]?=w.heap[b]?) (hos:w'.os=w.os) (htape:w'.tape=w.tape) (hout:w'.output=w.output):Rel N cx μ s a w':=
 {st:=h.st.kept hsz hb hos htape hout,nd:=h.nd.mono ⟨hsz,fun b h _=>hb b h⟩ (fun _ _ h=>h),sz:=h.sz,fr:=fun t g hg=>let ⟨v,hv,hr⟩:=h.fr t g hg;⟨v,hv,hr.mono ⟨hsz,fun b h _=>hb b h⟩ (fun _ _ h=>h) (aG _)⟩}
theorem qC {μ:Mu}{st:List (Nat×av)}{w:World}(h:cI cx μ st w){b:Nat}(ho:Own st μ b):b<w.heap.size:=by
 obtain⟨x,k,c,m,h1,h2,h3⟩:=ho;exact(h.cq x k c m b h1 h2 h3).2.2.1
theorem oH {μ:Mu}{b:Nat}:¬Own [] μ b:=fun ⟨_,_,_,_,h,_⟩=>by cases h
theorem BS {X:Nat→Prop}{μ:Mu}{w:World}(hX:∀b,X b→b<w.heap.size) (hgl:IZ (Own [] μ) w.heap.size w):cI (jc X [] μ w) μ [] w:=
 {en:=fun _ _ h=>(by cases h),de:=fun _ _ _ _ _ _ _ _ _ h=>(by cases h),cq:=fun _ _ _ _ _ h=>(by cases h),fD:=fun _ _ h=>(by cases h),fg:=hX,hb:=aG _,os:=rfl,tape:=rfl,output:=rfl,gl:=hgl,dq:=fun _ _ _=>rfl}
variable {ty:TypeId}{pos:String}{after:Array Edge}{guard:Option (Nat×Bool)}{W:List Nat}{d:Nat}
theorem JX {f:FuncId}{vs:List Value}{gs gs':List G}{Q:G→List (Nat×av)→Prop}(n:Nat){μ:Mu}{a:Act}{w:World}(hr:Rel N cx μ s a w) (hv:eS (tT n s.st) gs=some gs')
  (hvs:vs.length=gs.length) (hrep:∀(j:Nat) (g:G) (v:Value),gs[j]?=some g→vs[j]?=some v→aU (cx.O s.st μ) cx.base w μ g v)
  (hcon:GM P f gs' [] Q) (hres:∀r st',Q r st'→kT r=true):
  Calls P f vs.toArray w fun e w'=>∃v r st',e=.returned v∧Q r st'∧Rel N cx μ s a w'∧aU (cx.O s.st μ) cx.base w' μ r v∧Step W s.st μ s.st μ w w':=by
 obtain⟨h1,h2⟩:=ra hv;have hX:∀b,cx.X b→b<w.heap.size:=fun b hb=>by have:=hr.st.fg b hb;have:=hr.st.hb;omega
 refine(hcon.returned cx.X (fun _=>none) w vs hX (BS hX (hr.st.Wo fun _ h=>(oH h).elim)) (by omega) fun j g v hg hv=>?_).mono ?_
 ·obtain⟨g0,h3,h4⟩:=h2 j g hg;exact Pp hr.st n (hrep j g0 v h3 hv) h4 fun b _ hn ho=>ho.elim hn oH
 ·rintro e w' ⟨v,r,st',μ',rfl,hq,hst,hrv⟩;have hkeep:∀b,b<w.heap.size→w'.heap[b]?=w.heap[b]?:=fun b hb=>hst.dq b hb oH;refine⟨v,r,st',rfl,hq,hr.kept hst.hb hkeep hst.os hst.tape hst.output,?_,⟨hst.hb,fun b hb _=>hkeep b hb,fun h k c m b hw h1 h2 hi=>.inl ⟨h,k,c,m,hw,h1,h2,hi⟩⟩⟩;have hf:=hres r st' hq;have hb:=hr.st.hb;have hxl:=hr.st.fg;have hol:∀b,Own s.st μ b→b<w.heap.size:=fun b ho=>qC hr.st ho;generalize hO:(jc cx.X [] (fun _=>none) w).O st' μ'=O at hrv;have aF:∀{g:G}{v:Value},bH O w' g v→kT g=true→aU (cx.O s.st μ) cx.base w' μ g v:=by
   intro g v h
   induction h with
   | any v=>intro hf;cases hf
   | val v=>intro _;exact .aF (.val v)
   | dw b v h=>intro _;exact .aF (.dw b v h)
   | nil=>intro hf;cases hf
   | jb _ _=>intro hf;cases hf
   | sl _ _ _ _ _ _ _ _ _ _ _=>intro hf;cases hf
   | ptr _ _ _ _ _ _ _ _=>intro hf;cases hf
   | agg cells us hl hr ih=>intro hf;exact .agg cells us hl fun j g v hg hv=>ih j g v hg hv (Ce hf j g hg)
  clear hq
  induction hrv with
  | aF h=>exact aF h hf
  | fr h=>
   refine .fr (h.mono (Kept.refl _ _) ?_);rintro b hb1 hn (ho | ho | ho)
   ·exact hn (.inl (by show b<w.heap.size;omega))
   ·exact hn (.inl (by have:=hxl b ho;show b<w.heap.size;omega))
   ·exact hn (.inl (hol b ho))
  | agg cells us hl hr ih=>exact .agg cells us hl fun j g v hg hv=>ih j g v hg hv (Ce hf j g hg)
  | bB cells us hl hr ih=>exact .bB cells us hl fun j g v hg hv=>ih j g v hg hv (Ce hf j g hg)
  | _=>cases hf
theorem EF.call {f:FuncId}{xs:Array Operand}{ts:Array TypeId}{gs gs':List G}{Q:G→List (Nat×av)→Prop}(n:Nat) (hc:∀args w,(callFunc f args).run P w=.ok (.enter f args) w)
  (hx:wu s xs.toList=some gs) (hv:eS (tT n s.st) gs=some gs') (hcon:GM P f gs' [] Q) (hres:∀r st',Q r st'→kT r=true):
  cm P W s ⟨some d,.call ⟨.value (.func f),xs,ts⟩,ty,pos,after,guard⟩ (fun s'=>∃r st',Q r st'∧s'=s.put d r):=by
 refine⟨(fun _ h=>by cases h),?_⟩;intro N cx μ a w hr hN K Q' hK;obtain⟨h1,h2⟩:=oJ hx;have hcall:=JX (vs:=xs.toList.map a.eval) (W:=W) n hr hv (by simp[h1]) (fun j g v hg hv=>by
  obtain⟨x,hxj,he⟩:=h2 j g hg;rw[ak,hxj] at hv;cases hv;exact hr.ev he) hcon hres
 unfold Oper.wp;have:(execOp a.eval ⟨some d,.call ⟨.value (.func f),xs,ts⟩,ty,pos,after,guard⟩).run P w=.ok (.enter f (xs.toList.map a.eval).toArray) w:=by
  have e:xs.map a.eval=(xs.toList.map a.eval).toArray:=by rw[←iu]
  simp[execOp,resolve,invoke,Deferred.ofValue,Act.eval,hc,e]
 rw[this];refine hcall.mono ?_;rintro e w' ⟨v,r,st',rfl,hq,hr',hrv,hst⟩;exact hK μ _ _ w' (hr'.put (hN d rfl) hrv) ⟨r,st',hq,rfl⟩ hst
theorem BN {P:Program}{a:Act}{w:World}{d:Nat}{ty:TypeId}{pos:String}{after:Array Edge}{guard:Option (Nat×Bool)}{f:FuncId}{x:Operand}{xs:Array Operand}{ts:Array TypeId}{us:List Value}(hb:vu f xs.toList=true) (hc:∀args w,(callFunc f args).run P w=.ok (.enter f args) w)
  (hav:a.eval x=sE f us):(execOp a.eval ⟨some d,.call ⟨.value x,xs,ts⟩,ty,pos,after,guard⟩).run P w=.ok (.enter f (xs.toList.map a.eval++us).toArray) w:=by
 obtain⟨A,B,e1,e2,e3,e4⟩:=IC f us;rw[e1] at hav;have e:A++xs.map a.eval++B=(xs.toList.map a.eval++us).toArray:=by
  cases hb':tG.contains f with
  | false=>
   rw[e3 hb',Array.empty_append] at e2⊢;rw[e2,←List.append_toArray,←iu]
  | true=>
   have hx:xs=#[]:=by
    cases xs with
    | mk l=>cases l with
     | nil=>rfl
     | cons y r=>simp[vu] at hb;exact absurd hb' (by simp[hb])
   subst hx;rw[e4 hb'] at e2⊢;simpa using e2
 simp[execOp,resolve,invoke,Deferred.ofValue,hav,hc,e]
theorem EF.ZW {f:FuncId}{x:Operand}{xs:Array Operand}{ts:Array TypeId}{gs caps gs':List G}{Q:G→List (Nat×av)→Prop}(n:Nat) (hb:vu f xs.toList=true) (hc:∀args w,(callFunc f args).run P w=.ok (.enter f args) w)
  (hf:ev s x=some (.ba f caps)) (hx:wu s xs.toList=some gs) (hv:eS (tT n s.st) (gs++caps)=some gs') (hcon:GM P f gs' [] Q) (hres:∀r st',Q r st'→kT r=true):
  cm P W s ⟨some d,.call ⟨.value x,xs,ts⟩,ty,pos,after,guard⟩ (fun s'=>∃r st',Q r st'∧s'=s.put d r):=by
 refine⟨(fun _ h=>by cases h),?_⟩;intro N cx μ a w hr hN K Q' hK;obtain⟨h1,h2⟩:=oJ hx;have hcl:=hr.ev hf;generalize hav:a.eval x=vf at hcl;cases hcl with
 | aF h=>cases h
 | ba _ _ us hl hrc=>
  have hcall:=JX (vs:=xs.toList.map a.eval++us) (W:=W) n hr hv (by simp[h1,hl]) (fun j g v hg hv=>by
   rw[bS] at hg hv;rw[aN,←h1] at hv;split at hg
   ·rename_i hj;rw[if_pos hj] at hv;obtain⟨x,hxj,he⟩:=h2 j g hg;rw[ak,hxj] at hv;cases hv;exact hr.ev he
   ·rename_i hj;rw[if_neg hj] at hv;exact hrc _ g v hg hv) hcon hres
  unfold Oper.wp;have:=BN (P:=P) (w:=w) (d:=d) (ty:=ty) (pos:=pos) (after:=after) (guard:=guard) (ts:=ts) hb hc hav;rw[this];refine hcall.mono ?_;rintro e w' ⟨v,r,st',rfl,hq,hr',hrv,hst⟩;exact hK μ _ _ w' (hr'.put (hN d rfl) hrv) ⟨r,st',hq,rfl⟩ hst
end
end Go.AM
/-
 AM,part N:the steps in the form in which a walk takes them;encodings.
-/
namespace Go.AM
section
variable {P:Program}{N:Nat}{cx:Cx}{Q:Exit→St→Prop}{s:St}{ops:Array Oper}{rest:List Oper}
variable {d:Nat}{op:Op}{ty:TypeId}{pos:String}{after:Array Edge}{guard:Option (Nat×Bool)}
theorem GL.py {g:G}(hy:PY P s ⟨some d,op,ty,pos,after,guard⟩ g) (hw:ej ops s guard=some true) (hN:Nat.blt d N=true) (h:GL P N cx ops Q rest (s.put d g)):
  GL P N cx ops Q (⟨some d,op,ty,pos,after,guard⟩::rest) s:=GL.yield hw rfl (by simpa[gG] using hN) (hy.yield []) h
theorem GL.y {g:G}(hy:fI P [] s ⟨some d,op,ty,pos,after,guard⟩ g) (hw:ej ops s guard=some true) (hN:Nat.blt d N=true) (h:GL P N cx ops Q rest (s.put d g)):
  GL P N cx ops Q (⟨some d,op,ty,pos,after,guard⟩::rest) s:=GL.yield hw rfl (by simpa[gG] using hN) hy h
theorem GL.e {W:List Nat}{T:St→Prop}(he:cm P W s ⟨some d,op,ty,pos,after,guard⟩ T) (hw:ej ops s guard=some true) (hN:Nat.blt d N=true) (h:∀s',T s'→GL P N cx ops Q rest s'):
  GL P N cx ops Q (⟨some d,op,ty,pos,after,guard⟩::rest) s:=GL.effect hw (fun d' e=>by cases e;simpa[gG] using hN) he h
theorem GL.e1 {W:List Nat}{s1:St}(he:cm P W s ⟨some d,op,ty,pos,after,guard⟩ (·=s1)) (hw:ej ops s guard=some true) (hN:Nat.blt d N=true) (h:GL P N cx ops Q rest s1):
  GL P N cx ops Q (⟨some d,op,ty,pos,after,guard⟩::rest) s:=GL.e he hw hN fun _ e=>e▸h
theorem GL.e0 {W:List Nat}{s1:St}(he:cm P W s ⟨none,op,ty,pos,after,guard⟩ (·=s1)) (hw:ej ops s guard=some true) (h:GL P N cx ops Q rest s1):
  GL P N cx ops Q (⟨none,op,ty,pos,after,guard⟩::rest) s:=GL.effect hw (fun d' e=>by cases e) he fun _ e=>e▸h
end
def ints (l:List Int):List G:=l.map fun n=>.val (.int .i64 n)
@[simp] theorem Zx (l:List Int):(ints l).length=l.length:=by simp[ints]
end Go.AM
/-
 AM,part O:data as Lean data:encodings;loops and joins as partial functions.
-/
namespace Go.AM
inductive Ex (β γ:Type) where
 | bJ (b:β)
 | ret (r:γ)
def bd {β γ ο:Type}(inj:γ→ο) (m:Option (Ex β γ)) (k:β→Option ο):Option ο:=
 match m with
 | some (.bJ b)=>k b
 | some (.ret r)=>some (inj r)
 | none=>none
def aP {σ ρ:Type}(body:σ→Option (σ⊕ρ)):Nat→σ→Option ρ
 | 0,_=>none
 | n+1,x=>match body x with
  | some (.inl x')=>aP body n x'
  | some (.inr r)=>some r
  | none=>none
def idx {α:Type}(l:List α) (i:Int):Option α:=if 0≤i then l[i.toNat]? else none
def VV (l:ByteArray) (i:Int):Option UInt8:=if 0≤i then l[i.toNat]? else none
theorem Tx {l:ByteArray}{i:Int}{x:UInt8}(h:VV l i=some x):0≤i∧l[i.toNat]?=some x:=by
 unfold VV at h;split at h
 ·rename_i h0;exact⟨h0,h⟩
 ·cases h
def bj (p:Prop) [Decidable p]:Option Unit:=if p then some () else none
theorem pG {α:Type}{l:List α}{i:Int}{x:α}(h:idx l i=some x):0≤i∧i<(l.length:Int)∧l[i.toNat]?=some x:=by
 unfold idx at h;split at h
 ·rename_i h0;have:=(ai.1 h).1;exact⟨h0,by omega,h⟩
 ·cases h
theorem cD {p:Prop}[Decidable p]{u:Unit}(h:bj p=some u):p:=by
 unfold bj at h;split at h
 ·assumption
 ·cases h
theorem bind_some {α β:Type}{m:Option α}{k:α→Option β}{r:β}(h:m.bind k=some r):∃x,m=some x∧k x=some r:=Option.bind_eq_some_iff.1 h
theorem Hl {β γ ο:Type}{inj:γ→ο}{m:Option (Ex β γ)}{k:β→Option ο}{r:ο}(h:bd inj m k=some r):∃e,m=some e∧(∀b,e=.bJ b→k b=some r)∧(∀r',e=.ret r'→inj r'=r):=by
 unfold bd at h;split at h
 ·exact⟨_,rfl,fun b e=>(by cases e;exact h),fun r' e=>(by cases e)⟩
 ·exact⟨_,rfl,fun b e=>(by cases e),fun r' e=>(by cases e;cases h;rfl)⟩
 ·cases h
theorem G2 {α:Type}{b:Bool}{x y:α}{r:α}(h:b=true) (H:cond b x y=r):x=r:=by rw[h] at H;exact H
theorem G3 {α:Type}{b:Bool}{x y:α}{r:α}(h:b=false) (H:cond b x y=r):y=r:=by rw[h] at H;exact H
section
variable {P:Program}{N:Nat}{cx:Cx}{Q:Exit→St→Prop}
def QB {β:Type}(ke:Exit) (E:β→St) (b:β) (ex:Exit) (s:St):Prop:=ex=ke∧Sub s (E b)
def QL {σ ρ:Type}(E:σ→St) (R:ρ→Exit→St→Prop):σ⊕ρ→Exit→St→Prop
 | .inl x,ex,s=>ex=.normal∧Sub s (E x)
 | .inr r,ex,s=>ex≠.normal∧R r ex s
theorem GW.aP {σ ρ:Type}{c:Code}(E:σ→St) (R:ρ→Exit→St→Prop){body:σ→Option (σ⊕ρ)}{n:Nat}{x0:σ}{e:ρ}(hl:AM.aP body n x0=some e)
  (hr:∀x o,body x=some o→GW P N cx c (QL E R o) (E x)) (hq:∀ex s,ex≠.normal→R e ex s→Q ex s):GW P N cx (.loop c) Q (E x0):=by
 let Step:Nat→σ→Prop:=fun k x=>AM.aP body k x=some e
 refine(GW.loop (P:=P) (N:=N) (cx:=cx) (Q:=Q) (σ:=Nat×σ) (fun x=>E x.2) (fun x=>Step x.1 x.2) (fun x=>x.1) (n,x0) hl ?_);rintro⟨k,x⟩ hI;cases k with
 | zero=>exact absurd hI (by simp[Step,AM.aP])
 | succ k=>
  simp only[Step,AM.aP] at hI;cases hb:body x with
  | none=>rw[hb] at hI;cases hI
  | some o=>
   rw[hb] at hI;refine(hr x o hb).mono fun ex s hx=>?_;cases o with
   | inl x'=>
    obtain⟨rfl,hs⟩:=hx;exact⟨(k,x'),hI,Nat.lt_succ_self k,hs⟩
   | inr r=>
    cases hI;obtain⟨h1,h2⟩:=hx;have:=hq ex s h1 h2;cases ex <;> first | exact absurd rfl h1 | exact this
theorem O4 {id:Nat}:Exit.exit id≠Exit.normal:=fun h=>by cases h
theorem uW.mk {fn:Func}{Qf:G→List (Nat×av)→Prop}{s:St}{e:Exit}(he:e=.ret∨e=.normal) (gs:List G) (r:G) (st':List (Nat×av)) (h1:CT P s fn.results.toList gs) (h2:pe s.st st') (h3:ja s.st st' (pack gs)=some r) (h4:Qf r st') (hdf:s.df=[]:=by rfl):uW P fn Qf e s:=
 ⟨he,hdf,gs,r,st',h1,h2,h3,h4⟩
end
def BZ (n:Int):Prop:=-9223372036854775808≤n∧n≤9223372036854775807
def LU (s:ByteArray):Prop:=s.size≤9223372036854775807
def aaz {α:Type}(ok:α→Prop) (l:List α):Prop:=l.length≤9223372036854775807∧∀x∈l,ok x
class aH (α:Type) where
 sz:Nat
 cells:α→List G
 len:∀a,(cells a).length=sz
 pos:0<sz
 one:∀a g,g∈cells a→g.one=true
def cr {α:Type}[aH α] (l:List α):List G:=l.flatMap aH.cells
instance:aH Int:=⟨1,fun n=>[.val (.int .i64 n)],fun _=>rfl,by decide,fun a g h=>by simp at h;subst h;rfl⟩
instance:aH Bool:=⟨1,fun n=>[.val (.bool n)],fun _=>rfl,by decide,fun a g h=>by simp at h;subst h;rfl⟩
instance:aH ByteArray:=⟨1,fun n=>[.val (.string n)],fun _=>rfl,by decide,fun a g h=>by simp at h;subst h;rfl⟩
instance {α:Type}[aH α]:aH (List α):=⟨1,fun l=>[.sl l.length (cr l)],fun _=>rfl,by decide,fun a g h=>by simp at h;subst h;rfl⟩
section
variable {α:Type}[aH α]
theorem fG (l:List α):(cr l).length=l.length*aH.sz α:=by
 unfold cr
 induction l with
 | nil=>simp
 | cons x r ih=>rw[b6,aI,ih,aH.len,bL,ff];omega
theorem Vk (l:List α):∀g,g∈cr l→g.one=true:=by
 intro g hg;obtain⟨a,_,h⟩:=pW.1 hg;exact aH.one a g h
theorem re {l:List α}{i:Nat}{x:α}(h:l[i]?=some x){j:Nat}(hj:j<aH.sz α):(cr l)[i*aH.sz α+j]?=(aH.cells x)[j]?:=by
 unfold cr;rw[tX aH.cells (aH.sz α) aH.pos l (fun a _=>aH.len a)];have h1:(i*aH.sz α+j)/aH.sz α=i:=by
  rw[kV,Nat.mul_add_div aH.pos,Nat.div_eq_of_lt hj];rfl
 have h2:(i*aH.sz α+j)%aH.sz α=j:=by
  rw[kV,Nat.mul_add_mod,Nat.mod_eq_of_lt hj]
 rw[h1,h2,h];rfl
theorem J9 {l:List α}{i:Nat}{x:α}(h:l[i]?=some x){j:Nat}(hj:j<aH.sz α):((cr l).drop (i*aH.sz α))[j]?=(aH.cells x)[j]?:=by
 rw[bE];exact re h hj
theorem D4 (l m:List α):cr (l++m)=cr l++cr m:=by simp[cr]
theorem Th (x:α) (l:List α):cr (x::l)=aH.cells x++cr l:=rfl
theorem Il (l:List α):(cr l).take (l.length*aH.sz α)=cr l:=dj (by rw[fG];exact aG _)
theorem uz (l:List α) (n:Nat):(cr l).take (n*aH.sz α)=cr (l.take n):=by
 unfold cr
 induction l generalizing n with
 | nil=>simp
 | cons x r ih=>
  cases n with
  | zero=>simp
  | succ n=>
   rw[List.take_succ_cons,b6,b6,List.take_append,aH.len,←ih n];have h1:(n+1)*aH.sz α-aH.sz α=n*aH.sz α:=by rw[ff];omega
   rw[h1,dj (by rw[aH.len,ff];omega)]
theorem Cn (l:List α) (n:Nat):(cr l).drop (n*aH.sz α)=cr (l.drop n):=by
 unfold cr
 induction l generalizing n with
 | nil=>simp
 | cons x r ih=>
  cases n with
  | zero=>simp
  | succ n=>
   rw[List.drop_succ_cons,b6,List.drop_append,aH.len,←ih n];have h1:(n+1)*aH.sz α-aH.sz α=n*aH.sz α:=by rw[ff];omega
   rw[h1,List.drop_of_length_le (by rw[aH.len,ff];omega),jD]
end
end Go.AM
/-
 AM,part P:the steps over encoded data.
-/
namespace Go.AM
section
variable {α:Type}[aH α]
variable {P:Program}{N:Nat}{cx:Cx}{s:St}{W:List Nat}
variable {dst:Option Tmp}{ty:TypeId}{pos:String}{after:Array Edge}{guard:Option (Nat×Bool)}
theorem XU {l:List α}{i:Int}{x:α}(h:idx l i=some x){j:Nat}{g:G}(hg:(aH.cells x)[j]?=some g):(cr l)[i.toNat*aH.sz α+j]?=some g:=by
 have hj:j<aH.sz α:=by have:=(ai.1 hg).1;rw[aH.len] at this;exact this
 rw[re (pG h).2.2 hj];exact hg
theorem YT.iK {l:List α}{i:Int}{x:α}{t:TypeId}{xo:Operand}{g:G}(hx:ev s xo=some (.ptr ((cr l).drop (i.toNat*aH.sz α)))) (h:idx l i=some x) (hg:(aH.cells x)[0]?=some g) (hag:∀w,(isAgg t).run P w=.ok false w):
  fI P W s ⟨dst,.load t xo,ty,pos,after,guard⟩ g:=YL.ptr hx (by rw[bE];exact XU h hg) hag
theorem MR {l:List α}{i:Int}{x:α}(h:idx l i=some x):((cr l).drop (i.toNat*aH.sz α)).take (aH.sz α)=aH.cells x:=by
 apply du;intro j;rw[bo];split
 ·rename_i hj;exact J9 (pG h).2.2 hj
 ·rename_i hj;rw[bV];rw[aH.len];omega
variable {d:Nat}
theorem ET.append {l m:List α}{t e:TypeId}{xo yo:Operand}{h bt:Nat}{k:av}{gy:G}{f:Bool}{z:Value}(hx:ev s xo=some (.aL h (aH.sz α) 0 l.length)) (hy:ev s yo=some gy) (hk:ay s.st h=some k) (hc:k.cells=cr l)
  (hp:k.pure=true) (hety:k.bI=e) (hksz:k.sz=aH.sz α) (hsrc:z8 s.st (aH.sz α) gy=some (cr m,m.length,f)) (hap:gy.cv h=false) (ht:P.underlying t=some (.slice e))
  (hi:(P.info? e).map (fun i=>(i.zero,i.size,i.bytes))=some (some z,aH.sz α,bt)) (hzs:z.cells.size=aH.sz α) (uM:l.length+m.length≤maxLen) (hbound:(l.length+m.length)*bt≤140737488355328) (hW:W.contains h=true) (hlp:k.lp=none:=by rfl) (hpn:pinned h=false:=by rfl) (hdf:qn h s.df=true:=by rfl):
  cm P W s ⟨some d,.call ⟨.builtin .append,#[xo,yo],#[t,t]⟩,ty,pos,after,guard⟩
   (·={fr:=(d,.aL h (aH.sz α) 0 (l++m).length)::nA h s.fr,st:=(h,{k with fresh:=k.fresh&&f,cells:=cr (l++m)})::gA h s.st,df:=s.df}):=by
 have:=EF.append (P:=P) (d:=d) (W:=W) (ty:=ty) (pos:=pos) (after:=after) (guard:=guard) hx hy hk hp hety hksz (by rw[hc,fG]) hsrc (by rw[fG]) (fun g hg=>Vk m g hg) hap ht hi hzs aH.pos uM hbound hW hlp hpn hdf;rw[D4,aI,←hc];exact this
theorem YM {st st':List (Nat×av)}{h:Nat}{k:av}{l:List α}(hk:ay st h=some k) (hn:ay st' h=none) (hp:k.pure=true) (hm:k.ew=true) (hf:k.fresh=true) (hc:k.cells=cr l) (hlp:k.lp=none:=by rfl):
  ja st st' (.aL h (aH.sz α) 0 l.length)=some (.fr (.sl l.length (cr l))):=by
 simp only[ja,hn,hk,hp,hm,hf,hc,hlp,gW,Il,cond_true]
end
end Go.AM
/-
 AM,part Q:a slot whose value is known;two loads of which either may come up first.
-/
namespace Go.AM
section
variable {P:Program}{N:Nat}{cx:Cx}{Q:Exit→St→Prop}{s:St}{ops:Array Oper}{rest:List Oper}
theorem Rel.dup {μ:Mu}{a:Act}{w:World}{t:Nat}{g:G}(hr:Rel N cx μ s a w) (hg:get s.fr t=some g):Rel N cx μ {fr:=(t,g)::s.fr,st:=s.st,df:=s.df} a w:=
 {st:=hr.st,nd:=hr.nd,sz:=hr.sz,fr:=fun t' g' h=>by
   simp only[get] at h;cases e:t.beq t' with
   | true=>
    rw[e,cond_true] at h;cases h;have e:=ab e;subst e;exact hr.fr _ _ hg
   | false=>
    rw[e,cond_false] at h;exact hr.fr _ _ h}
theorem Rel.Ui {μ:Mu}{a:Act}{w:World}{t h sz off n m:Nat}(hr:Rel N cx μ s a w) (hg:get s.fr t=some (.aL h sz off n)) (hn:n=m):Rel N cx μ {fr:=(t,.aL h sz off m)::s.fr,st:=s.st,df:=s.df} a w:=by
 subst hn;exact hr.dup hg
theorem GL.Ui (t:Nat){h sz off n m:Nat}(hg:get s.fr t=some (.aL h sz off n)) (hn:n=m) (k:GL P N cx ops Q rest {fr:=(t,.aL h sz off m)::s.fr,st:=s.st,df:=s.df}):GL P N cx ops Q rest s:=fun μ a w hr=>k μ a w (hr.Ui hg hn)
theorem GL.lit (t:Nat){b v:Bool}(hg:get s.fr t=some (.val (.bool b))) (hb:b=v) (h:GL P N cx ops Q rest {fr:=(t,.val (.bool v))::s.fr,st:=s.st,df:=s.df}):GL P N cx ops Q rest s:=fun μ a w hr=>by
 subst hb;exact h μ a w (hr.dup hg)
theorem rM.lit {W:List Nat}{bG:Nat}{listed:Array Bool}(t:Nat){b v:Bool}(hg:get s.fr t=some (.val (.bool b))) (hb:b=v) (h:rM P N cx ops Q W bG listed {fr:=(t,.val (.bool v))::s.fr,st:=s.st,df:=s.df}):rM P N cx ops Q W bG listed s:=fun μ a w hr=>by
 subst hb;exact h μ a w (hr.dup hg)
theorem fY.lit {W:List Nat}{bG:Nat}{listed:Array Bool}(t:Nat){b v:Bool}(hg:get s.fr t=some (.val (.bool b))) (hb:b=v) (h:fY P N cx ops Q W bG listed {fr:=(t,.val (.bool v))::s.fr,st:=s.st,df:=s.df}):fY P N cx ops Q W bG listed s:=fun ws Wb μ a w hr=>by
 subst hb;exact h ws Wb μ a w (hr.dup hg)
end
section
variable {α:Type}[aH α]
variable {P:Program}{N:Nat}{cx:Cx}{s:St}{W:List Nat}
variable {dst:Option Tmp}{ty:TypeId}{pos:String}{after:Array Edge}{guard:Option (Nat×Bool)}
end
end Go.AM
/-
 AM,part R:struct values put together;an empty slice written out;operations that were skipped.
-/
namespace Go.AM
section
variable {P:Program}{N:Nat}{cx:Cx}{Q:Exit→St→Prop}{s:St}{ops:Array Oper}{rest:List Oper}
theorem Rel.undef {μ:Mu}{a:Act}{w:World}{d:Nat}(h:Rel N cx μ s a w) (hN:d<N):Rel N cx μ (s.put d (.bB [])) (a.put (some d) Go.undef) w:=
 h.put hN (.bB [] [] rfl fun j g v hg=>by cases hg)
theorem GL.aaA {d:Nat}{op:Op}{ty:TypeId}{pos:String}{after:Array Edge}{guard:Option (Nat×Bool)}(hw:ej ops s guard=some false) (hN:Nat.blt d N=true) (h:GL P N cx ops Q rest (s.put d (.bB []))):
  GL P N cx ops Q (⟨some d,op,ty,pos,after,guard⟩::rest) s:=by
 intro μ a w hr;unfold wpListIn;rw[if_neg (by rw[fB hr hw];simp)];refine⟨fun _ _=>trivial,?_⟩;exact h μ _ w (hr.undef (by simpa[gG] using hN))
theorem rM.C7 {W:List Nat}{bG:Nat}{listed:Array Bool}(i:Nat){o:Oper}{d:Nat}(hp:NC Q (wx ops)) (hi:ops[i]?=some o) (hs:Region.noSelect ops=true) (hf:Region.free .any ops listed i=true)
  (hr:(Region.ready .any ops listed).contains i=true) (hw:ej ops s o.guard=some false) (hd:o.dst=some d) (hN:d<N)
  (h:rM P N cx ops Q W bG (listed.setIfInBounds i true) (s.put d (.bB []))):rM P N cx ops Q W (bG+1) listed s:=by
 intro μ a w hrel;refine wpAnyH_take (v:=undef) hi hs hf hr (fun c a' w' h=>vm hp (zQ hi hd) (hd▸h)) (.inr ⟨fB hrel hw,rfl⟩) ⟨aG _,fun _ _ _=>rfl⟩ ?_;rw[hd];exact h μ _ w (hrel.undef hN)
theorem fY.C7 {W:List Nat}{bG:Nat}{listed:Array Bool}(i:Nat){o:Oper}{d:Nat}(hp:NC Q (wx ops)) (hi:ops[i]?=some o) (hs:Region.noSelect ops=true) (hf:Region.free .any ops listed i=true)
  (hr:(Region.ready .any ops listed).contains i=true) (hw:ej ops s o.guard=some false) (hd:o.dst=some d) (hN:d<N)
  (h:fY P N cx ops Q W bG (listed.setIfInBounds i true) (s.put d (.bB []))):fY P N cx ops Q W (bG+1) listed s:=by
 intro ws Wb μ a w hrel hS hW;refine wpAnyH_take (v:=undef) hi hs hf hr (fun c a' w' h=>vm hp (zQ hi hd) (hd▸h)) (.inr ⟨fB hrel hw,rfl⟩) hS ?_;rw[hd];exact h ws Wb μ _ w (hrel.undef hN) hS hW
end
section
variable {P:Program}{N:Nat}{cx:Cx}{s:St}{W:List Nat}{d:Nat}
variable {dst:Option Tmp}{ty:TypeId}{pos:String}{after:Array Edge}{guard:Option (Nat×Bool)}
theorem EF.NZ {t e:TypeId}{sz:Nat}{z:Value}{bt:Nat}(hd:Nat) (ht:P.underlying t=some (.slice e))
  (hi:(P.info? e).map (fun i=>(i.zero,i.size,i.bytes))=some (some z,sz,bt)) (hfr:fresh s hd=true):
  cm P W s ⟨some d,.buildSlice t 0 #[],ty,pos,after,guard⟩ (·={fr:=(d,.aL hd sz 0 0)::s.fr,st:=(hd,⟨e,true,true,true,sz,[],none⟩)::s.st,df:=s.df}):=by
 refine cm.of (s1:={fr:=s.fr,st:=(hd,⟨e,true,true,true,sz,[],none⟩)::s.st,df:=s.df}) (g:=.aL hd sz 0 0) rfl (fun _ h=>by cases h) ?_;intro N cx μ a w hr;obtain⟨i,hi1,hi2⟩:=az.1 hi;simp only[qt] at hi2;obtain⟨hz,hs1,hb1⟩:=hi2;obtain⟨μ',w',rfl,h1,h2,h3⟩:=hr.tO (k:=⟨e,true,true,true,sz,[],none⟩) (cs:=#[]) hfr rfl (by simp) (fun _=>by simp) (fun j g' hg'=>by simp at hg') (fun _ g' hg'=>by simp at hg') W;refine⟨_,μ',_,?_,h1,.aL hd sz 0 0 _ _ 0 h2 (aG _) (by simp),h3⟩;have hrun:(Instr.buildSlice t 0 #[]).run P w=.ok (.slice (some ⟨w.heap.size,0,none⟩) 0 0) (w.alloc (.cells #[] e)):=by
  have e0:(Array.range 0).map (fun _=>(default:Value))=#[]:=by apply Array.eq_empty_of_size_eq_zero;simp
  simp[Instr.buildSlice,run_underlying ht,sizeOf,typeInfo,hi1,Instr.fill,newRow];rw[e0]
 simp[execOp,hrun]
def setAt {α:Type}(cs:List α) (off:Nat):List α→List α
 | []=>cs
 | x::r=>setAt (cs.set off x) (off+1) r
def Di (place:Nat→Option (Nat×Nat)) (cells:List G):List (Nat×G)→Option (List G)
 | []=>some cells
 | (i,g)::r=>match place i with
  | some (off,size)=>match Gv g&&(Nat.beq (cT g).length size&&Nat.ble (off+size) cells.length) with
   | true=>Di place (setAt cells off (cT g)) r
   | false=>none
  | none=>none
def MM (s:St):List (Nat×Operand)→Option (List (Nat×G))
 | []=>some []
 | (i,x)::r=>match ev s x,MM s r with
  | some g,some gs=>some ((i,g)::gs)
  | _,_=>none
def uX (O:Nat→Prop) (base:Nat) (w:World) (μ:Mu) (gs:List G) (vs:List Value):Prop:=vs.length=gs.length∧∀(j:Nat) (g:G) (v:Value),gs[j]?=some g→vs[j]?=some v→aU O base w μ g v
theorem uX.set {O:Nat→Prop}{base:Nat}{w:World}{μ:Mu}{gs:List G}{vs:List Value}(h:uX O base w μ gs vs) (off:Nat){g:G}{v:Value}(hv:aU O base w μ g v):uX O base w μ (gs.set off g) (vs.set off v):=by
 refine⟨by simp[h.1],fun j g' v' h1 h2=>?_⟩;rw[dN] at h1 h2
 by_cases e:off=j
 ·subst e;rw[if_pos rfl] at h1 h2;split at h1
  ·split at h2
   ·cases h1;cases h2;exact hv
   ·cases h2
  ·cases h1
 ·rw[if_neg e] at h1 h2;exact h.2 j g' v' h1 h2
theorem uX.setAt {O:Nat→Prop}{base:Nat}{w:World}{μ:Mu}:∀(gp:List G) (vp:List Value) (off:Nat){gs:List G}{vs:List Value},uX O base w μ gs vs→uX O base w μ gp vp→uX O base w μ (AM.setAt gs off gp) (AM.setAt vs off vp)
 | [],[],_,_,_,h,_=>h
 | [],_::_,_,_,_,_,h=>by cases h.1
 | _::_,[],_,_,_,_,h=>by cases h.1
 | g::gp,v::vp,off,_,_,h,hp=>uX.setAt gp vp (off+1) (h.set off (hp.2 0 g v rfl rfl)) ⟨by have:=hp.1;simpa using this,fun j g' v' h1 h2=>hp.2 (j+1) g' v' h1 h2⟩
theorem DZ (off:Nat):∀(l:List Value) (k:Nat) (cs:Array Value),((l.zipIdx k).foldl (fun cs (x:Value×Nat)=>cs.setIfInBounds (off+x.2) x.1) cs).toList=setAt cs.toList (off+k) l
 | [],_,_=>rfl
 | x::r,k,cs=>by
  simp only[List.zipIdx_cons,cz,setAt];rw[DZ off r (k+1)];simp[Nat.add_assoc]
theorem Gx {O:Nat→Prop}{base:Nat}{w:World}{μ:Mu}{place:Nat→Option (Nat×Nat)}:∀(gp:List (Nat×G)) (vp:List (Nat×Value)) (gs:List G) (vs:Array Value) (out:List G),
  Di place gs gp=some out→uX O base w μ gs vs.toList→vp.length=gp.length→(∀(j:Nat) (x:Nat×G) (y:Nat×Value),gp[j]?=some x→vp[j]?=some y→x.1=y.1∧aU O base w μ x.2 y.2)→
  ∃cs,Instr.fill place vs vp=some cs∧uX O base w μ out cs.toList
 | [],[],gs,vs,out,h,hr,_,_=>by cases h;exact⟨vs,rfl,hr⟩
 | [],_::_,_,_,_,_,_,hl,_=>by cases hl
 | _::_,[],_,_,_,_,_,hl,_=>by cases hl
 | (i,g)::gp,(i',v)::vp,gs,vs,out,h,hr,hl,hp=>by
  obtain⟨e,hv⟩:=hp 0 _ _ rfl rfl;simp only at e hv;subst e;simp only[Di] at h;cases hpl:place i with
  | none=>rw[hpl] at h;cases h
  | some os=>
   obtain⟨off,size⟩:=os;rw[hpl] at h;simp only at h;cases hc:Gv g&&(Nat.beq (cT g).length size&&Nat.ble (off+size) gs.length) with
   | false=>rw[hc] at h;cases h
   | true=>
    rw[hc] at h;simp only[af] at hc;obtain⟨c1,c2,c3⟩:=hc;have c2:=ab c2;have c3:=fK c3;obtain⟨d1,d2⟩:=hv.cells c1;have hrl:uX O base w μ (cT g) v.cells.toList:=by
     refine⟨by rw[b9];exact d1,fun j g' v' h1 h2=>?_⟩;obtain⟨u,hu,hru⟩:=d2 j g' h1;rw[bq,hu] at h2;cases h2;exact hru
    have hrs:=uX.setAt _ _ off hr hrl;have hvl:vs.size=gs.length:=by rw[←hr.1,b9]
    have hstep:Instr.fill place vs ((i,v)::vp)=Instr.fill place (v.cells.zipIdx.foldl (fun cs (x:Value×Nat)=>cs.setIfInBounds (off+x.2) x.1) vs) vp:=by
     simp only[Instr.fill,hpl];rw[if_neg (by simp;omega)]
    rw[hstep];have hfold:(v.cells.zipIdx.foldl (fun cs (x:Value×Nat)=>cs.setIfInBounds (off+x.2) x.1) vs).toList=AM.setAt vs.toList off v.cells.toList:=by
     rw[←Array.foldl_toList,Array.toList_zipIdx];exact DZ off v.cells.toList 0 vs
    refine Gx gp vp _ _ out h (by rw[hfold];exact hrs) (by simpa using hl) fun j x y h1 h2=>hp (j+1) x y h1 h2
theorem ML {μ:Mu}{a:Act}{w:World}(h:Rel N cx μ s a w):∀(l:List (Nat×Operand)) (gp:List (Nat×G)),MM s l=some gp→
  (l.map fun x=>(x.1,a.eval x.2)).length=gp.length∧∀(j:Nat) (x:Nat×G) (y:Nat×Value),gp[j]?=some x→(l.map fun x=>(x.1,a.eval x.2))[j]?=some y→x.1=y.1∧aU (cx.O s.st μ) cx.base w μ x.2 y.2
 | [],gp,he=>by cases he;exact⟨rfl,fun j x y h=>by cases h⟩
 | (i,x)::r,gp,he=>by
  simp only[MM] at he;cases hx:AM.ev s x with
  | none=>rw[hx] at he;cases he
  | some g=>
   rw[hx] at he;cases hr:MM s r with
   | none=>rw[hr] at he;cases he
   | some gs=>
    rw[hr] at he;cases he;obtain⟨h1,h2⟩:=ML h r gs hr;refine⟨by simpa using h1,fun j x' y h3 h4=>?_⟩;cases j with
    | zero=>cases h3;cases h4;exact⟨rfl,h.ev hx⟩
    | succ j=>exact h2 j x' y h3 h4
theorem PY.build {t:TypeId}{parts:Array (Nat×Operand)}{fs:Array Field}{z:Value}{places:List (Nat×Nat)}{gp:List (Nat×G)}{out:List G}(ht:P.underlying t=some (.struct fs)) (hz:(P.info? t).map (·.zero)=some (some z))
  (hp:fs.toList.mapM (fun f=>(P.info? f.type).map fun i=>(f.offset,i.size))=some places) (he:MM s parts.toList=some gp) (hf:Di (places[·]?) (z.cells.toList.map .val) gp=some out):
  PY P s ⟨dst,.build t parts,ty,pos,after,guard⟩ (.agg out):=fun N cx μ a w hr=>by
 obtain⟨it,h1,h2⟩:=az.1 hz;obtain⟨h3,h4⟩:=ML hr _ _ he;obtain⟨cs,h5,h6⟩:=Gx (O:=cx.O s.st μ) (base:=cx.base) (w:=w) (μ:=μ) gp _ _ z.cells out hf ⟨by simp,fun j g v hg hv=>by
  rw[ak,hv] at hg;cases hg;exact .aF (.val _)⟩ h3 h4
 have hb:∀w',(Instr.build t (parts.map fun (x:Nat×Operand)=>(x.1,a.eval x.2))).run P w'=.ok (.agg cs) w':=fun w'=>by
  refine Go.run_build w' t _ cs ?_;unfold Program.built;simp only[h1,ht,h2,hp];rw[iu];have e:(fun x:Nat=>places.toArray[x]?)=(fun x:Nat=>places[x]?):=by funext x;simp
  rw[e];exact h5
 refine⟨.agg cs,?_,fun w'=>?_⟩
 ·have:=aU.agg (O:=cx.O s.st μ) (base:=cx.base) (w:=w) (μ:=μ) out cs.toList h6.1 h6.2;simpa using this
 ·simp[execOp,hb]
theorem run_equal_bool {t:TypeId}(ht:P.underlying t=some .bool) (a b:Bool) (w:World):(Op.equal t (.bool a) (.bool b)).run P w=.ok (a==b) w:=by
 have e:∃n,Op.maxDepth=n+1:=⟨_,rfl⟩;obtain⟨n,e⟩:=e;unfold Op.equal;rw[e];simp[Op.equalIn,run_underlying ht]
theorem PY.aaE {t t':TypeId}{x y:Operand}{a b:Bool}(hx:ev s x=some (.val (.bool a))) (hy:ev s y=some (.val (.bool b))) (ht:P.underlying t=some .bool):
  PY P s ⟨dst,.binOp .eql t x y t',ty,pos,after,guard⟩ (.val (.bool (a==b))):=fun _ _ _ _ _ hrel=>by
 refine⟨_,.aF (.val _),fun w'=>?_⟩;simp[execOp,hrel.val hx,hrel.val hy,eqGuard,binOp,run_equal_bool ht]
theorem PY.aaB {t t':TypeId}{x y:Operand}{a b:Bool}(hx:ev s x=some (.val (.bool a))) (hy:ev s y=some (.val (.bool b))) (ht:P.underlying t=some .bool):
  PY P s ⟨dst,.binOp .neq t x y t',ty,pos,after,guard⟩ (.val (.bool (!(a==b)))):=fun _ _ _ _ _ hrel=>by
 refine⟨_,.aF (.val _),fun w'=>?_⟩;simp[execOp,hrel.val hx,hrel.val hy,eqGuard,binOp,run_equal_bool ht]
end
end Go.AM
/-
 AM,part S:is a slice nil?
-/
namespace Go.AM
noncomputable def EC {ρ:Type}(n:Int) (m1 m2:Option ρ):Option ρ:=open Classical in if n=0 then(if m1=m2 then m1 else none) else m2
theorem Jt {ρ:Type}{n:Int}{m1 m2:Option ρ}{r:ρ}(h:EC n m1 m2=some r):(n=0→m1=some r)∧m2=some r:=by
 unfold EC at h;split at h
 ·split at h
  ·rename_i e;exact⟨fun _=>h,e▸h⟩
  ·cases h
 ·exact⟨fun e=>absurd e (by assumption),h⟩
section
variable {P:Program}{N:Nat}{cx:Cx}{Q:Exit→St→Prop}{s:St}{ops:Array Oper}{rest:List Oper}
theorem aU.T9 {O:Nat→Prop}{base:Nat}{w:World}{μ:Mu}{g:G}{v:Value}{n:Int}(h:aU O base w μ g v) (hn:Qr g=some n):∃b m c,v=.slice b m c∧(m:Int)=n∧(b=none→n=0):=by
 have sl:∀(O:Nat→Prop) (n:Nat) (cells:List G) (v:Value),bH O w (.sl n cells) v→∃b m c,v=.slice b m c∧m=n∧(b=none→n=0):=by
  intro O n cells v h;cases h with
  | nil=>exact⟨none,0,0,rfl,rfl,fun _=>rfl⟩
  | jb a cap=>exact⟨some a,0,cap,rfl,rfl,fun h=>rfl⟩
  | sl _ _ b off cap=>exact⟨_,n,cap,rfl,rfl,fun h=>by cases h⟩
 cases g with
 | sl n' cells=>
  cases hn;cases h with
  | aF h=>obtain⟨b,m,c,e1,e2,e3⟩:=sl _ _ _ _ h;exact⟨b,m,c,e1,by rw[e2],fun h=>by rw[e3 h];rfl⟩
 | fr g=>
  cases h with
  | aF h=>cases h
  | fr h=>
   cases g with
   | sl n' cells=>cases hn;obtain⟨b,m,c,e1,e2,e3⟩:=sl _ _ _ _ h;exact⟨b,m,c,e1,by rw[e2],fun h=>by rw[e3 h];rfl⟩
   | _=>cases hn
 | aL h' sz off n'=>
  cases hn;cases h with
  | aF h=>cases h
  | gk=>exact⟨none,0,0,rfl,rfl,fun _=>rfl⟩
  | aL _ _ _ _ b m cap=>exact⟨_,n',cap,rfl,rfl,fun h=>by cases h⟩
  | fq _ _ off0 b m _ _=>exact⟨_,0,0,rfl,rfl,fun _=>rfl⟩
 | ks h' i sz n'=>
  cases hn;cases h with
  | aF h=>cases h
  | mh _ _ _ x cap=>exact⟨x,0,cap,rfl,rfl,fun _=>rfl⟩
  | ks _ _ _ _ b m c k cap=>exact⟨_,n',cap,rfl,rfl,fun h=>by cases h⟩
 | val v0=>
  cases h with
  | aF h=>
   cases h;cases v with
   | slice b m c=>
    cases b with
    | none=>cases m with
     | zero=>cases c with
      | zero=>cases hn;exact⟨none,0,0,rfl,rfl,fun _=>rfl⟩
      | succ c=>cases hn
     | succ m=>cases hn
    | some b=>cases hn
   | _=>cases hn
 | _=>cases hn
theorem RM {t e:TypeId}(ht:P.underlying t=some (.slice e)) (xo yo:Operand) (b:Option Addr) (m c:Nat) (w:World):
  (do eqGuard .eql t xo yo (.slice b m c) (.slice none 0 0);binOp .eql t (.slice b m c) (.slice none 0 0):Sem Value).run P w=.ok (.bool b.isNone) w:=by
 have h:=Lib.run_eql_slice_nil (P:=P) w t e b m c 0 0 ht;have hg:(eqGuard .eql t xo yo (.slice b m c) (.slice none 0 0)).run P w=.ok () w:=by simp[eqGuard]
 simp only[Sem.run_bind,hg,Result.andThen_ok,h]
theorem RL {t e:TypeId}(ht:P.underlying t=some (.slice e)) (xo yo:Operand) (b:Option Addr) (m c:Nat) (w:World):
  (do eqGuard .neq t xo yo (.slice b m c) (.slice none 0 0);binOp .neq t (.slice b m c) (.slice none 0 0):Sem Value).run P w=.ok (.bool (!b.isNone)) w:=by
 have h:=run_neq_slice_nil_any (P:=P) w t e b m c 0 0 ht;have hg:(eqGuard .neq t xo yo (.slice b m c) (.slice none 0 0)).run P w=.ok () w:=by simp[eqGuard]
 simp only[Sem.run_bind,hg,Result.andThen_ok,h]
end
end Go.AM
/-
 AM,part T:a block said in other words;slices given out of hand;a nil slice in a box taken in hand;lists written out.
-/
namespace Go.AM
section
variable {P:Program}{N:Nat}{cx:Cx}{Q:Exit→St→Prop}{s:St}{ops:Array Oper}{rest:List Oper}
theorem Rel.C4 {μ:Mu}{a:Act}{w:World}(h:Rel N cx μ s a w){hh:Nat}{k k':av}(hk:ay s.st hh=some k) (he:k'.bI=k.bI) (hmine:k'.ew=k.ew) (hsz:k'.sz=k.sz) (hl:k'.cells.length≤k.cells.length) (hlp:k.lp=none) (hlp':k'.lp=none)
  (hc:∀(j:Nat) (g':G),k'.cells[j]?=some g'→∃g,k.cells[j]?=some g∧∀v,cZ (cx.O s.st μ) cx.base w μ k g v→cZ (cx.O s.st μ) cx.base w μ k' g' v):
  Rel N cx μ {fr:=s.fr,st:=dF s.st hh k',df:=s.df} a w:=by
 have hb:=h.st.en hh k hk;cases hm:μ hh with
 | some bm=>
  obtain⟨b,m⟩:=bm;rw[hm] at hb;obtain⟨cs,h1,h2,h3,h4,h5,h6⟩:=hb.cells hlp;exact(h.write hk hm (by rw[he];exact h1) h2 rfl (fun _ _=>rfl) rfl rfl rfl (fun e=>hmine▸e) (cK hl h3) (by rw[hsz];exact h5) (fun j g' hg'=>by
   obtain⟨g,hg,hr⟩:=hc j g' hg';obtain⟨v,hv,hrv⟩:=h6 j g hg;exact⟨v,hv,hr v hrv⟩) [hh] (by simp) hlp').1
 | none=>
  rw[hm] at hb;obtain⟨hb,_⟩:=hb;have hb':k'.cells=[]:=bu (by rw[hb] at hl;simpa using hl);have hOO:∀b,cx.O (dF s.st hh k') μ b↔cx.O s.st μ b:=fun b=>or_congr Iff.rfl (Own.dF hk);have hO:∀b,b<w.heap.size→¬cx.O s.st μ b→¬cx.O (dF s.st hh k') μ b:=fun b _ hn ho=>hn ((hOO b).1 ho);have f:∀x k1,ay (dF s.st hh k') x=some k1→∃k1,ay s.st x=some k1:=fun x k1 h1=>by
   rcases dm hk h1 with ⟨rfl,rfl⟩ | ⟨_,h1⟩
   ·exact⟨k,hk⟩
   ·exact⟨_,h1⟩
  refine {st:={en:=?_,de:=?_,cq:=?_,fD:=?_,fg:=h.st.fg,hb:=h.st.hb,os:=h.st.os,tape:=h.st.tape,output:=h.st.output,gl:=h.st.gl,dq:=h.st.dq},nd:=h.nd.mono (Kept.refl _ _) hO,sz:=h.sz,fr:=fun t g hg=>?_}
  ·intro x k1 h1;rcases dm hk h1 with ⟨rfl,rfl⟩ | ⟨_,h1⟩
   ·rw[hm];exact .nil hb' hlp'
   ·exact(h.st.en x k1 h1).mono (fun _ _ _ _ _=>rfl) (Kept.refl _ _) hO
  ·intro x x' k1 k2 y b1 m1 b2 m2 h1 h2;obtain⟨k1',h1'⟩:=f x k1 h1;obtain⟨k2',h2'⟩:=f x' k2 h2;exact h.st.de x x' k1' k2' y b1 m1 b2 m2 h1' h2'
  ·intro x k1 b1 m1 y h1 h2;intro hi;rcases dm hk h1 with ⟨rfl,rfl⟩ | ⟨_,h1⟩
   ·obtain⟨a1,a2,a3,a4⟩:=h.st.cq x k b1 m1 y hk h2 hi;exact⟨a1,a2,a3,fun hm=>a4 (hmine▸hm)⟩
   ·exact h.st.cq x k1 b1 m1 y h1 h2 hi
  ·intro x k1 h1 h2;obtain⟨k1',h1'⟩:=f x k1 h1;exact h.st.fD x k1' h1' h2
  ·obtain⟨v,hv,hr⟩:=h.fr t g hg;exact⟨v,hv,hr.mono (Kept.refl _ _) hO (aG _)⟩
theorem Rel.yM {μ : Mu} {a : Act} {w : World} (h : Rel N cx μ s a w) (hd : Nat) (k : av) (hf : fresh s hd = true) (hk : ∀ O base w μ, aV O base w μ k none) : Rel N cx (lk μ hd none) { fr := s.fr, st := (hd, k) :: s.st, df := s.df } a w := by
 obtain ⟨h1, h2, h3, h5, h6⟩ := gr hf
 obtain ⟨h4, hO⟩ := h.st.yM h1 h3 (j5 h6) hk
 refine { st := h4, nd := (h.nd.mono (Kept.refl _ _) (fun b _ => hO b)).gS (fun g hg y hy => aZ fun e => by subst e; rw [pP h5 hg] at hy; cases hy), sz := h.sz, fr := fun t' g hg' => ?_ }
 obtain ⟨v, hv, hr⟩ := h.fr t' g hg'
 refine ⟨v, hv, (hr.mono (Kept.refl _ _) (fun b _ => hO b) (aG _)).gS fun y hy => aZ ?_⟩
 intro e
 subst e
 rw [mX h2 hg'] at hy
 cases hy
theorem Rel.F7 {μ : Mu} {a : Act} {w : World} (h : Rel N cx μ s a w) (hd : Nat) (k : av) (hf : fresh s hd = true) (hk : k.cells = []) (hlp : k.lp = none) : Rel N cx (lk μ hd none) { fr := s.fr, st := (hd, k) :: s.st, df := s.df } a w := h.yM hd k hf fun _ _ _ _ => .nil hk hlp
end
end Go.AM
/-
 AM,part U:parts of slices and of texts.
-/
namespace Go.AM
section
variable {α:Type}[aH α]
variable {P:Program}{N:Nat}{cx:Cx}{s:St}{W:List Nat}
variable {dst:Option Tmp}{ty:TypeId}{pos:String}{after:Array Edge}{guard:Option (Nat×Bool)}
theorem Im {t e:TypeId}(ht:P.underlying t=some (.slice e)):P.underlying t=some (.slice (P.elem t)):=by
 have:P.elem t=e:=by unfold Program.elem;rw[ht]
 rw[this];exact ht
def eG (l:List α) (i j:Int):List α:=(l.drop i.toNat).take (j.toNat-i.toNat)
omit [aH α] in
theorem wc {l:List α}{i j:Int}(_:0≤i) (h1:i≤j) (h2:j≤(l.length:Int)):(eG l i j).length=j.toNat-i.toNat:=by
 unfold eG;rw[br,cf];omega
theorem bH.part {O:Nat→Prop}{w:World}{l:List α}{v:Value}{i j:Int}(h:bH O w (.sl l.length (cr l)) v) (h0:0≤i) (h1:i≤j) (h2:j≤(l.length:Int)):
  ∃(a:Option Addr) (len cap:Nat),v=.slice a len cap∧(len:Int)=l.length∧j≤cap∧(len:Int)≤cap∧∀m:Nat,(m:Int)=cap→bH O w (.sl (eG l i j).length (cr (eG l i j))) (sliced a i.toNat j.toNat m (aH.sz α)):=by
 have zero:l=[]→eG l i j=[]:=fun e=>by subst e;simp[eG]
 generalize hn:l.length=n at h;generalize hc:cr l=cs at h;cases h with
 | nil=>
  have hl:l=[]:=bu hn;refine⟨none,0,0,rfl,by omega,by omega,by omega,fun m hm=>?_⟩;rw[zero hl];obtain rfl:m=0:=by omega
  obtain rfl:i=0:=by omega
  obtain rfl:j=0:=by omega
  exact .nil
 | jb a cap=>
  have hl:l=[]:=bu hn;refine⟨some a,0,cap,rfl,by omega,by omega,by omega,fun m hm=>?_⟩;rw[zero hl];obtain rfl:i=0:=by omega
  obtain rfl:j=0:=by omega
  unfold sliced;split
  ·exact .jb _ _
  ·exact .jb _ _
 | sl _ _ b off cap us hle hO hb hcell hr=>
  subst hn;subst hc;refine⟨_,_,cap,rfl,rfl,by omega,by omega,fun m hm=>?_⟩;obtain rfl:m=cap:=by omega
  unfold sliced
  by_cases e:m=i.toNat
  ·have:(eG l i j).length=0:=by rw[wc h0 h1 h2];omega
   have e2:eG l i j=[]:=bu this;rw[e2,if_pos e];have e3:j.toNat-i.toNat=0:=by omega
   rw[e3];exact .jb _ _
  ·rw[if_neg e,cd,Addr.lz,wc h0 h1 h2];have hsub:cr (eG l i j)=((cr l).drop (i.toNat*aH.sz α)).take ((j.toNat-i.toNat)*aH.sz α):=by
    unfold eG;rw[←uz,←Cn]
   have hlen:(cr (eG l i j)).length=(j.toNat-i.toNat)*aH.sz α:=by rw[fG,wc h0 h1 h2]
   have hbig:i.toNat*aH.sz α+(j.toNat-i.toNat)*aH.sz α≤l.length*aH.sz α:=by
    rw[←ff];exact bW _ (by omega)
   refine .sl _ _ b (off+i.toNat*aH.sz α) (m-i.toNat) (fun q=>us (i.toNat*aH.sz α+q)) (by omega) hO hb (fun q hq=>?_) (fun q g hg=>?_)
   ·rw[hlen] at hq;have:=hcell (i.toNat*aH.sz α+q) (by rw[fG];omega);rw[←this];congr 2;omega
   ·have hq:=(ai.1 hg).1;rw[hlen] at hq;rw[hsub,bo,if_pos hq,bE] at hg;exact hr _ g hg
theorem Lq {t e:TypeId}(ht:P.underlying t=some (.slice e)) (hsz:∀w,(sizeOf e).run P w=.ok (aH.sz α) w){k k':IntKind}{i j:Int}(a:Option Addr) (len cap:Nat) (h0:0≤i) (h1:i≤j) (h2:j≤cap) (w:World):
  (Instr.sliceAt t (.slice a len cap) (some (.int k i)) (some (.int k' j)) none).run P w=.ok (sliced a i.toNat j.toNat cap (aH.sz α)) w:=by
 have he:=Im ht;have e:P.elem t=e:=by unfold Program.elem;rw[ht]
 rw[run_sliceAt_slice w t _ _ _ _ he,run_slice_lh w t a len cap he k k' i j h0 h1 h2,e,hsz w];rfl
theorem FR {t e:TypeId}(ht:P.underlying t=some (.slice e)) (hsz:∀w,(sizeOf e).run P w=.ok (aH.sz α) w){k:IntKind}{i:Int}(a:Option Addr) (len cap:Nat) (h0:0≤i) (h1:i≤len) (w:World):
  (Instr.sliceAt t (.slice a len cap) (some (.int k i)) none none).run P w=.ok (sliced a i.toNat len cap (aH.sz α)) w:=by
 have he:=Im ht;have e:P.elem t=e:=by unfold Program.elem;rw[ht]
 rw[run_sliceAt_slice w t _ _ _ _ he,run_slice_l w t a len cap he k i h0 h1,e,hsz w];rfl
theorem va {t e:TypeId}(ht:P.underlying t=some (.slice e)) (hsz:∀w,(sizeOf e).run P w=.ok (aH.sz α) w){k:IntKind}{j:Int}(a:Option Addr) (len cap:Nat) (h0:0≤j) (h1:j≤cap) (w:World):
  (Instr.sliceAt t (.slice a len cap) none (some (.int k j)) none).run P w=.ok (sliced a 0 j.toNat cap (aH.sz α)) w:=by
 have he:=Im ht;have e:P.elem t=e:=by unfold Program.elem;rw[ht]
 rw[run_sliceAt_slice w t _ _ _ _ he,run_slice_h w t a len cap he k j h0 h1,e,hsz w];rfl
def FO (f:Bool) (l:List α):G:=bif f then .fr (.sl l.length (cr l)) else .sl l.length (cr l)
theorem aU.part {O:Nat→Prop}{base:Nat}{w:World}{μ:Mu}{f:Bool}{l:List α}{v:Value}{i j:Int}(h:aU O base w μ (FO f l) v) (h0:0≤i) (h1:i≤j) (h2:j≤(l.length:Int)):
  ∃(a:Option Addr) (len cap:Nat),v=.slice a len cap∧(len:Int)=l.length∧j≤cap∧(len:Int)≤cap∧aU O base w μ (FO f (eG l i j)) (sliced a i.toNat j.toNat cap (aH.sz α)):=by
 cases f with
 | false=>
  cases h with
  | aF h=>obtain⟨a,len,cap,e1,e2,e3,e4,e5⟩:=h.part h0 h1 h2;exact⟨a,len,cap,e1,e2,e3,e4,.aF (e5 cap rfl)⟩
 | true=>
  cases h with
  | aF h=>cases h
  | fr h=>obtain⟨a,len,cap,e1,e2,e3,e4,e5⟩:=h.part h0 h1 h2;exact⟨a,len,cap,e1,e2,e3,e4,.fr (e5 cap rfl)⟩
theorem PY.slice {t e:TypeId}{x lo hi:Operand}{f:Bool}{l:List α}{k k':IntKind}{i j:Int}(hx:ev s x=some (FO f l)) (hl:ev s lo=some (.val (.int k i))) (hh:ev s hi=some (.val (.int k' j))) (ht:P.underlying t=some (.slice e)) (hsz:∀w,(sizeOf e).run P w=.ok (aH.sz α) w)
  (h0:0≤i) (h1:i≤j) (h2:j≤(l.length:Int)):PY P s ⟨dst,.slice t x (some lo) (some hi) none,ty,pos,after,guard⟩ (FO f (eG l i j)):=fun N cx μ a w hr=>by
 obtain⟨ad,len,cap,e1,e2,e3,e4,e5⟩:=(hr.ev hx).part h0 h1 h2;refine⟨_,e5,fun w'=>?_⟩;simp[execOp,e1,hr.val hl,hr.val hh,Lq ht hsz ad len cap h0 h1 e3]
theorem PY.Yd {t e:TypeId}{x lo:Operand}{f:Bool}{l:List α}{k:IntKind}{i:Int}(hx:ev s x=some (FO f l)) (hl:ev s lo=some (.val (.int k i))) (ht:P.underlying t=some (.slice e)) (hsz:∀w,(sizeOf e).run P w=.ok (aH.sz α) w)
  (h0:0≤i) (h1:i≤(l.length:Int)):PY P s ⟨dst,.slice t x (some lo) none none,ty,pos,after,guard⟩ (FO f (eG l i (l.length:Int))):=fun N cx μ a w hr=>by
 obtain⟨ad,len,cap,e1,e2,e3,e4,e5⟩:=(hr.ev hx).part h0 h1 (iY _);have e6:len=((l.length:Int)).toNat:=by omega
 refine⟨_,e5,fun w'=>?_⟩;have:=FR (α:=α) (P:=P) ht hsz (k:=k) ad len cap h0 (by omega) w';rw[←e6];simp[execOp,e1,hr.val hl,this]
theorem PY.Ye {t e:TypeId}{x hi:Operand}{f:Bool}{l:List α}{k:IntKind}{j:Int}(hx:ev s x=some (FO f l)) (hh:ev s hi=some (.val (.int k j))) (ht:P.underlying t=some (.slice e)) (hsz:∀w,(sizeOf e).run P w=.ok (aH.sz α) w)
  (h0:0≤j) (h2:j≤(l.length:Int)):PY P s ⟨dst,.slice t x none (some hi) none,ty,pos,after,guard⟩ (FO f (eG l 0 j)):=fun N cx μ a w hr=>by
 obtain⟨ad,len,cap,e1,e2,e3,e4,e5⟩:=(hr.ev hx).part (iY 0) h0 h2;refine⟨_,e5,fun w'=>?_⟩;have:=va (α:=α) (P:=P) ht hsz (k:=k) ad len cap h0 e3 w';simp[execOp,e1,hr.val hh,this]
theorem PY.Ya {t : TypeId} {x lo hi : Operand} {b : ByteArray} {k k' : IntKind} {i j : Int} (hx : ev s x = some (.val (.string b))) (hl : ev s lo = some (.val (.int k i))) (hh : ev s hi = some (.val (.int k' j))) (ht : P.underlying t = some .string)
  (h0 : 0 ≤ i) (h1 : i ≤ j) (h2 : j ≤ (b.size : Int)) : PY P s ⟨dst, .slice t x (some lo) (some hi) none, ty, pos, after, guard⟩ (.val (.string (b.extract i.toNat j.toNat))) := fun N cx μ a w hr => by
 refine ⟨_, .aF (.val _), fun w' => ?_⟩
 have eh : (j.toNat : Int) = j := gD (by omega)
 have : (Instr.slice t (.string b) (some (.int k i)) (some (.int k' j)) none).run P w' = .ok (.string (b.extract i.toNat j.toNat)) w' := by
  simp [Instr.slice, run_underlying ht, Instr.sliceBounds, run_sliceBound, *, eh, (by omega : 0 ≤ i), (by omega : 0 ≤ j)]
 simp [execOp, hr.val hx, hr.val hl, hr.val hh, run_sliceAt_string w' t _ _ _ _ ht, this]
theorem PY.WN {t:TypeId}{x lo:Operand}{b:ByteArray}{k:IntKind}{i:Int}(hx:ev s x=some (.val (.string b))) (hl:ev s lo=some (.val (.int k i))) (ht:P.underlying t=some .string)
  (h0:0≤i) (h1:i≤(b.size:Int)):PY P s ⟨dst,.slice t x (some lo) none none,ty,pos,after,guard⟩ (.val (.string (b.extract i.toNat b.size))):=fun N cx μ a w hr=>by
 refine⟨_,.aF (.val _),fun w'=>?_⟩;simp[execOp,hr.val hx,hr.val hl,run_sliceAt_string w' t _ _ _ _ ht,run_slice_string_l w' t b ht k i h0 h1]
theorem PY.WO {t:TypeId}{x hi:Operand}{b:ByteArray}{k:IntKind}{j:Int}(hx:ev s x=some (.val (.string b))) (hh:ev s hi=some (.val (.int k j))) (ht:P.underlying t=some .string)
  (h0:0≤j) (h2:j≤(b.size:Int)):PY P s ⟨dst,.slice t x none (some hi) none,ty,pos,after,guard⟩ (.val (.string (b.extract 0 j.toNat))):=fun N cx μ a w hr=>by
 refine⟨_,.aF (.val _),fun w'=>?_⟩;simp[execOp,hr.val hx,hr.val hh,run_sliceAt_string w' t _ _ _ _ ht,run_slice_string_h w' t b ht k j h0 h2]
theorem PY.Yb {t e:TypeId}{x hi:Operand}{h n:Nat}{k:IntKind}{j:Int}(hx:ev s x=some (.aL h (aH.sz α) 0 n)) (hh:ev s hi=some (.val (.int k j))) (ht:P.underlying t=some (.slice e)) (hsz:∀w,(sizeOf e).run P w=.ok (aH.sz α) w)
  (h0:0≤j) (h2:j≤(n:Int)):PY P s ⟨dst,.slice t x none (some hi) none,ty,pos,after,guard⟩ (.aL h (aH.sz α) 0 j.toNat):=fun N cx μ a w hr=>by
 have hv:=hr.ev hx;have key:∃(ad:Option Addr) (len cap:Nat),a.eval x=.slice ad len cap∧j≤(cap:Int)∧aU (cx.O s.st μ) cx.base w μ (.aL h (aH.sz α) 0 j.toNat) (sliced ad 0 j.toNat cap (aH.sz α)):=by
  generalize a.eval x=v at hv;have hz:∀ad:Option Addr,sliced ad 0 0 0 (aH.sz α)=.slice ad 0 0:=fun ad=>by simp[sliced]
  cases hv with
  | aF hv=>cases hv
  | gk _ _ hm=>
   obtain rfl:j=0:=by omega
   exact⟨none,0,0,rfl,by omega,.gk h _ hm⟩
  | aL _ _ _ _ b m cap hm hn hc=>
   refine⟨_,_,cap,rfl,by omega,?_⟩;unfold sliced;have:(if cap=0 then(some ⟨b,0,none⟩:Option Addr) else(some (⟨b,0,none⟩:Addr)).map (·.add (0*aH.sz α)))=some ⟨b,0,none⟩:=by
    split
    ·rfl
    ·simp[Addr.add]
   rw[this];exact .aL h _ 0 _ b m cap hm (by omega) hc
  | fq _ _ off0 b m hm hpos=>omega
 obtain⟨ad,len,cap,e1,e2,e3⟩:=key;refine⟨_,e3,fun w'=>?_⟩;have:=va (α:=α) (P:=P) ht hsz (k:=k) ad len cap h0 e2 w';simp[execOp,e1,hr.val hh,this]
theorem Rel.Pt {μ:Mu}{a:Act}{w:World}(h:Rel N cx μ s a w){hh:Nat}{k:av}{l:List α}(hk:ay s.st hh=some k) (hc:k.cells=cr l) (n:Nat) (hlp:k.lp=none):
  Rel N cx μ {fr:=s.fr,st:=dF s.st hh {k with cells:=cr (l.take n)},df:=s.df} a w:=by
 refine h.C4 hk rfl rfl rfl ?_ hlp hlp fun j g' hg'=>⟨g',?_,fun v hv=>hv⟩
 ·simp only;rw[hc,←uz,br];omega
 ·simp only at hg';rw[←uz,bo] at hg';split at hg'
  ·rw[hc];exact hg'
  ·cases hg'
theorem GL.Pt {Q:Exit→St→Prop}{ops:Array Oper}{rest:List Oper}(hh:Nat){k:av}{l:List α}(hk:ay s.st hh=some k) (hc:k.cells=cr l) (n:Nat)
  (h:GL P N cx ops Q rest {fr:=s.fr,st:=dF s.st hh {k with cells:=cr (l.take n)},df:=s.df}) (hlp:k.lp=none:=by rfl):GL P N cx ops Q rest s:=fun μ a w hr=>h μ a w (hr.Pt hk hc n hlp)
theorem T0 {l:List α}{j:Int}(h0:0≤j) (h1:j≤(l.length:Int)):j.toNat=(l.take j.toNat).length:=by rw[br];omega
end
end Go.AM
/-
 AM,part V:results that lean on what was handed in;calls that hand in nothing of the call's own.
-/
namespace Go.AM
def RC:G→G
 | .fr g=>g
 | .agg gs=>.agg (go gs)
 | .bB gs=>.bB (go gs)
 | .ba f gs=>.ba f (go gs)
 | g=>g
where go:List G→List G
 | []=>[]
 | g::r=>RC g::go r
def gK:G→Option G
 | .val v=>some (nQ v)
 | .dw b=>some (.dw b)
 | .sl n cs=>some (.sl n cs)
 | .ptr cs=>some (.ptr cs)
 | .fr g=>some g
 | .agg gs=>(go gs).map .agg
 | .ba f caps=>(go caps).map (.ba f)
 | _=>none
where go:List G→Option (List G)
 | []=>some []
 | g::r=>match gK g,go r with
  | some g',some r'=>some (g'::r')
  | _,_=>none
theorem qU:∀{gs gs':List G},gK.go gs=some gs'→gs'.length=gs.length∧∀(j:Nat) (g':G),gs'[j]?=some g'→∃g,gs[j]?=some g∧gK g=some g'
 | [],_,h=>by cases h;exact⟨rfl,fun j g h=>by simp at h⟩
 | g::r,gs',h=>by
  simp only[gK.go] at h;cases h1:gK g with
  | none=>rw[h1] at h;cases h
  | some g1=>
   rw[h1] at h;cases h2:gK.go r with
   | none=>rw[h2] at h;cases h
   | some r1=>
    rw[h2] at h;cases h;obtain⟨h3,h4⟩:=qU h2;refine⟨by simp[h3],fun j g' hg'=>?_⟩;cases j with
    | zero=>cases hg';exact⟨g,rfl,h1⟩
    | succ j=>exact h4 j g' hg'
theorem Rp {O:Nat→Prop}{base:Nat}{μ:Mu}{w:World}{g g':G}{v:Value}(h:bH O w g v) (hf:gK g=some g'):aU O base w μ g' v:=by
 induction h generalizing g' with
 | any v=>cases hf
 | val v=>
  cases hf;unfold nQ;split
  ·exact .aF .nil
  ·exact .aF (.val _)
 | dw b v h=>cases hf;exact .aF (.dw b v h)
 | nil=>cases hf;exact .aF .nil
 | jb a c=>cases hf;exact .aF (.jb a c)
 | sl n cells b off cap us h1 h2 h3 h4 h5 ih=>cases hf;exact .aF (.sl n cells b off cap us h1 h2 h3 h4 h5)
 | ptr cells b off us h1 h2 h3 h4 ih=>cases hf;exact .aF (.ptr cells b off us h1 h2 h3 h4)
 | agg cells us hl hr ih=>
  simp only[gK,az] at hf;obtain⟨gs',h1,rfl⟩:=hf;obtain⟨h2,h3⟩:=qU h1;refine .agg gs' us (by omega) fun j g v hg hv=>?_;obtain⟨g0,h4,h5⟩:=h3 j g hg;exact ih j g0 v h4 hv h5
theorem Pn {O:Nat→Prop}{base base':Nat}{μ μ':Mu}{w:World}{g g':G}{v:Value}(h:aU O base w μ g v) (hf:gK g=some g'):aU O base' w μ' g' v:=by
 induction h generalizing g' with
 | aF h=>exact Rp h hf
 | fr h=>cases hf;exact .aF h.Ot
 | agg cells us hl hr ih=>
  simp only[gK,az] at hf;obtain⟨gs',h1,rfl⟩:=hf;obtain⟨h2,h3⟩:=qU h1;refine .agg gs' us (by omega) fun j g v hg hv=>?_;obtain⟨g0,h4,h5⟩:=h3 j g hg;exact ih j g0 v h4 hv h5
 | ba f caps us hl hr ih=>
  simp only[gK,az] at hf;obtain⟨gs',h1,rfl⟩:=hf;obtain⟨h2,h3⟩:=qU h1;refine .ba f gs' us (by omega) fun j g v hg hv=>?_;obtain⟨g0,h4,h5⟩:=h3 j g hg;exact ih j g0 v h4 hv h5
 | _=>cases hf
def nB:G→Bool
 | .val _=>true
 | .dw _=>true
 | .sl _ _=>true
 | .ptr _=>true
 | .fr _=>true
 | .agg gs=>go gs
 | .bB gs=>go gs
 | .ba _ gs=>go gs
 | _=>false
where go:List G→Bool
 | []=>true
 | g::r=>nB g&&go r
theorem tl {gs:List G}(h:nB.go gs=true):∀(j:Nat) (g:G),gs[j]?=some g→nB g=true:=by
 induction gs with
 | nil=>intro j g hg;simp at hg
 | cons x r ih=>
  simp only[nB.go,af] at h;intro j g hg;cases j with
  | zero=>cases hg;exact h.1
  | succ j=>exact ih h.2 j g hg
theorem SL {O O':Nat→Prop}{base base':Nat}{μ μ':Mu}{w:World}{g:G}{v:Value}(h:aU O base w μ g v) (hi:nB g=true) (hO:∀b,O' b→O b) (hb:∀b,b<base'→b<base):aU O' base' w μ' g v:=by
 induction h with
 | aF h=>exact .aF (h.mono (Kept.refl _ _) fun b _ hn ho=>hn (hO b ho))
 | fr h=>
  refine .fr (h.mono (Kept.refl _ _) ?_);rintro b _ hn (ho | ho)
  ·exact hn (.inl (hb b ho))
  ·exact hn (.inr (hO b ho))
 | agg cells us hl hr ih=>exact .agg cells us hl fun j g v hg hv=>ih j g v hg hv (tl hi j g hg)
 | bB cells us hl hr ih=>exact .bB cells us hl fun j g v hg hv=>ih j g v hg hv (tl hi j g hg)
 | ba f cells us hl hr ih=>exact .ba f cells us hl fun j g v hg hv=>ih j g v hg hv (tl hi j g hg)
 | _=>cases hi
section
variable {P:Program}{N:Nat}{cx:Cx}{s:St}
variable {ty:TypeId}{pos:String}{after:Array Edge}{guard:Option (Nat×Bool)}{W:List Nat}{d:Nat}
theorem G4 {f:FuncId}{vs:List Value}{gs gs':List G}{Q:G→List (Nat×av)→Prop}{μ:Mu}{a:Act}{w:World}(hr:Rel N cx μ s a w) (hv:eS gK gs=some gs')
  (hvs:vs.length=gs.length) (hrep:∀(j:Nat) (g:G) (v:Value),gs[j]?=some g→vs[j]?=some v→aU (cx.O s.st μ) cx.base w μ g v)
  (hcon:GM P f gs' [] Q) (hres:∀r st',Q r st'→nB r=true∧st'=[]):
  Calls P f vs.toArray w fun e w'=>∃v r st',e=.returned v∧Q r st'∧Rel N cx μ s a w'∧aU (cx.O s.st μ) cx.base w' μ r v∧Step W s.st μ s.st μ w w':=by
 obtain⟨h1,h2⟩:=ra hv;have hX:∀b,cx.O s.st μ b→b<w.heap.size:=fun b hb=>by
  rcases hb with hb | hb
  ·have:=hr.st.fg b hb;have:=hr.st.hb;omega
  ·exact qC hr.st hb
 refine(hcon.returned (cx.O s.st μ) (fun _=>none) w vs hX (BS hX (hr.st.Wo fun _ h=>(oH h).elim)) (by omega) fun j g v hg hv=>?_).mono ?_
 ·obtain⟨g0,h3,h4⟩:=h2 j g hg;have:=Pn (base':=w.heap.size) (μ':=fun _=>none) (hrep j g0 v h3 hv) h4;exact this.mono (Kept.refl _ _) (fun b _ hn ho=>ho.elim hn oH) (aG _)
 ·rintro e w' ⟨v,r,st',μ',rfl,hq,hst,hrv⟩;have hkeep:∀b,b<w.heap.size→w'.heap[b]?=w.heap[b]?:=fun b hb=>hst.dq b hb oH;obtain⟨hf,hs⟩:=hres r st' hq;subst hs;refine⟨v,r,[],rfl,hq,hr.kept hst.hb hkeep hst.os hst.tape hst.output,?_,⟨hst.hb,fun b hb _=>hkeep b hb,fun h k c m b hw h1 h2 hi=>.inl ⟨h,k,c,m,hw,h1,h2,hi⟩⟩⟩;exact SL hrv hf (fun b hb=>.inl hb) (fun b hb=>cJ hb hr.st.hb)
theorem EF.ZX {f:FuncId}{xs:Array Operand}{ts:Array TypeId}{gs gs':List G}{Q:G→List (Nat×av)→Prop}(hc:∀args w,(callFunc f args).run P w=.ok (.enter f args) w)
  (hx:wu s xs.toList=some gs) (hv:eS gK gs=some gs') (hcon:GM P f gs' [] Q) (hres:∀r st',Q r st'→nB r=true∧st'=[]):
  cm P W s ⟨some d,.call ⟨.value (.func f),xs,ts⟩,ty,pos,after,guard⟩ (fun s'=>∃r st',Q r st'∧s'=s.put d r):=by
 refine⟨(fun _ h=>by cases h),?_⟩;intro N cx μ a w hr hN K Q' hK;obtain⟨h1,h2⟩:=oJ hx;have hcall:=G4 (vs:=xs.toList.map a.eval) (W:=W) hr hv (by simp[h1]) (fun j g v hg hv=>by
  obtain⟨x,hxj,he⟩:=h2 j g hg;rw[ak,hxj] at hv;cases hv;exact hr.ev he) hcon hres
 unfold Oper.wp;have:(execOp a.eval ⟨some d,.call ⟨.value (.func f),xs,ts⟩,ty,pos,after,guard⟩).run P w=.ok (.enter f (xs.toList.map a.eval).toArray) w:=by
  have e:xs.map a.eval=(xs.toList.map a.eval).toArray:=by rw[←iu]
  simp[execOp,resolve,invoke,Deferred.ofValue,Act.eval,hc,e]
 rw[this];refine hcall.mono ?_;rintro e w' ⟨v,r,st',rfl,hq,hr',hrv,hst⟩;exact hK μ _ _ w' (hr'.put (hN d rfl) hrv) ⟨r,st',hq,rfl⟩ hst
end
end Go.AM
/-
 AM,part W:lists without references.
-/
namespace Go.AM
class Flat (α:Type) [aH α]:Prop where
 flat:∀(a:α) (g:G),g∈aH.cells a→∃v,g=.val v
instance:Flat Int:=⟨fun a g h=>by simp[aH.cells] at h;exact⟨_,h⟩⟩
instance:Flat Bool:=⟨fun a g h=>by simp[aH.cells] at h;exact⟨_,h⟩⟩
instance:Flat ByteArray:=⟨fun a g h=>by simp[aH.cells] at h;exact⟨_,h⟩⟩
section
variable {α:Type}[aH α] [Flat α]
variable {P:Program}{N:Nat}{cx:Cx}{Q:Exit→St→Prop}{s:St}{ops:Array Oper}{rest:List Oper}
theorem Rel.C6 {μ:Mu}{a:Act}{w:World}(h:Rel N cx μ s a w){hh:Nat}{k:av}{l:List α}(hk:ay s.st hh=some k) (hc:k.cells=cr l) (hp:k.pure=true) (hlp:k.lp=none):
  Rel N cx μ {fr:=s.fr,st:=dF s.st hh {k with fresh:=true},df:=s.df} a w:=by
 refine h.C4 hk rfl rfl rfl (aG _) hlp hlp fun j g' hg'=>⟨g',hg',fun v hv=>?_⟩;simp only at hg';rw[hc] at hg';obtain⟨x,_,hx⟩:=pW.1 (aj hg');obtain⟨u,rfl⟩:=Flat.flat x g' hx;unfold cZ at hv⊢;simp only[hp] at hv⊢;cases hv;exact .val _
theorem GL.C6 (hh:Nat){k:av}{l:List α}(hk:ay s.st hh=some k) (hc:k.cells=cr l) (hp:k.pure=true) (h:GL P N cx ops Q rest {fr:=s.fr,st:=dF s.st hh {k with fresh:=true},df:=s.df}) (hlp:k.lp=none:=by rfl):GL P N cx ops Q rest s:=
 fun μ a w hr=>h μ a w (hr.C6 hk hc hp hlp)
end
section
variable {P:Program}{N:Nat}{cx:Cx}{Q:Exit→St→Prop}{s:St}{ops:Array Oper}{rest:List Oper}
end
section
variable {P:Program}{N:Nat}{cx:Cx}{Q:Exit→St→Prop}{s:St}{ops:Array Oper}
def wN (P:Program) (N:Nat) (cx:Cx) (ops:Array Oper) (Q:Exit→St→Prop) (W:List Nat) (bG:Nat) (listed:Array Bool) (s:St) (i:Nat):Prop:=
 ∀(ws:World) (Wb:Nat→Prop) (μ:Mu) (a:Act) (w:World),Rel N cx μ s a w→Sw ws Wb w→(∀h k c m b,h∈W→ay s.st h=some k→μ h=some (c,m)→In b c m→Wb b∨ws.heap.size≤b)→
  wpOp P ops (lift N cx Q) i (fun a' w'=>Sw ws Wb w'∧wpAnyH P .any ops (lift N cx Q) (Sw ws Wb) bG (listed.setIfInBounds i true) a' w') a w
theorem wN.y {W:List Nat}{bG:Nat}{listed:Array Bool}(i:Nat){o:Oper}{d:Nat}{g:G}(hi:ops[i]?=some o) (hw:ej ops s o.guard=some true) (hd:o.dst=some d) (hN:d<N) (hy:fI P [] s o g)
  (h:fY P N cx ops Q W bG (listed.setIfInBounds i true) (s.put d g)):wN P N cx ops Q W bG listed s i:=by
 intro ws Wb μ a w hrel hS hW;obtain⟨v,hv,hrun⟩:=hy N cx μ a w hrel;have hrun:=hrun w (aG _) (fun _ _ _=>rfl);unfold wpOp;simp only[hi];rw[if_pos (fB hrel hw)];refine .inl ?_;unfold Oper.wp;rw[hrun];show Sw ws Wb w∧_;refine⟨hS,?_⟩;rw[hd];exact h ws Wb μ _ w (hrel.put hN hv) hS hW
theorem wN.e {W:List Nat}{bG:Nat}{listed:Array Bool}(i:Nat){o:Oper}{T:St→Prop}(hi:ops[i]?=some o) (hw:ej ops s o.guard=some true) (hN:∀d,o.dst=some d→d<N) (he:cm P W s o T)
  (h:∀s',T s'→fY P N cx ops Q W bG (listed.setIfInBounds i true) s'):wN P N cx ops Q W bG listed s i:=by
 intro ws Wb μ a w hrel hS hW;unfold wpOp;simp only[hi];rw[if_pos (fB hrel hw)];have:=he.2 N cx μ a w hrel hN (fun a' w'=>Sw ws Wb w'∧wpAnyH P .any ops (lift N cx Q) (Sw ws Wb) bG (listed.setIfInBounds i true) a' w') (lift N cx Q) ?_
 ·exact .inl this
 ·intro μ' s' a' w' hrel' ht hst;have hS':Sw ws Wb w':=by
   refine⟨cK hS.size hst.size,fun b hb hn=>?_⟩;rw[hst.block b (cJ hb hS.size) ?_]
   ·exact hS.block b hb hn
   ·intro h k c m h1 h2 h3 hi;rcases hW h k c m b h1 h2 h3 hi with h4 | h4
    ·exact hn h4
    ·omega
  refine⟨hS',h s' ht ws Wb μ' a' w' hrel' hS' ?_⟩;intro h k' c m b h1 h2 h3 hi;rcases hst.hand h k' c m b h1 h2 h3 hi with ⟨h0,k,c0,m0,hw0,h4,h5,h6⟩ | h4
  ·exact hW h0 k c0 m0 b hw0 h4 h5 h6
  ·exact .inr (cK hS.size h4)
theorem wN.eP {W:List Nat}{bG:Nat}{listed:Array Bool}(i:Nat){o:Oper}{T:St→Prop}{Tp:List PanicEntry→St→Prop}(hi:ops[i]?=some o) (hw:ej ops s o.guard=some true) (hN:∀d,o.dst=some d→d<N) (he:nH P W s o T Tp)
  (h:∀s',T s'→fY P N cx ops Q W bG (listed.setIfInBounds i true) s') (hp:∀ch s',Tp ch s'→Q (.panic ch) s'):wN P N cx ops Q W bG listed s i:=by
 intro ws Wb μ a w hrel hS hW;unfold wpOp;simp only[hi];rw[if_pos (fB hrel hw)];have:=he.2 N cx μ a w hrel hN (fun a' w'=>Sw ws Wb w'∧wpAnyH P .any ops (lift N cx Q) (Sw ws Wb) bG (listed.setIfInBounds i true) a' w') (lift N cx Q) ?_ (fun ch μ' s' w' hr' ht=>⟨μ',s',hr',hp ch s' ht⟩)
 ·exact .inl this
 ·intro μ' s' a' w' hrel' ht hst;have hS':Sw ws Wb w':=by
   refine⟨cK hS.size hst.size,fun b hb hn=>?_⟩;rw[hst.block b (cJ hb hS.size) ?_]
   ·exact hS.block b hb hn
   ·intro h k c m h1 h2 h3 hi;rcases hW h k c m b h1 h2 h3 hi with h4 | h4
    ·exact hn h4
    ·omega
  refine⟨hS',h s' ht ws Wb μ' a' w' hrel' hS' ?_⟩;intro h k' c m b h1 h2 h3 hi;rcases hst.hand h k' c m b h1 h2 h3 hi with ⟨h0,k,c0,m0,hw0,h4,h5,h6⟩ | h4
  ·exact hW h0 k c0 m0 b hw0 h4 h5 h6
  ·exact .inr (cK hS.size h4)
def Hs (P:Program) (N:Nat) (cx:Cx) (ops:Array Oper) (Q:Exit→St→Prop) (W:List Nat) (bG:Nat) (listed:Array Bool) (s:St):List Nat→Prop
 | []=>True
 | i::r=>wN P N cx ops Q W bG listed s i∧Hs P N cx ops Q W bG listed s r
theorem Hs.get {W:List Nat}{bG:Nat}{listed:Array Bool}:∀{rs:List Nat},Hs P N cx ops Q W bG listed s rs→∀i∈rs,wN P N cx ops Q W bG listed s i
 | [],_,_,h=>by cases h
 | j::r,⟨h1,h2⟩,i,h=>by
  rcases bf.1 h with rfl | h
  ·exact h1
  ·exact Hs.get h2 i h
theorem fY.any {W:List Nat}{bG:Nat}{listed:Array Bool}(i:Nat) (r:List Nat) (hr:Region.ready .any ops listed=i::r) (h:Hs P N cx ops Q W bG listed s (i::r)):fY P N cx ops Q W (bG+1) listed s:=by
 intro ws Wb μ a w hrel hS hW;refine wpAnyH_all hr (by simp) fun j hj=>h.get j hj ws Wb μ a w hrel hS hW
end
end Go.AM
/-
 AM,part X:calls to which blocks of the caller's own are lent:how handles are told anew,there and back.
-/
namespace Go.AM
def dD:List Nat→Nat→Option Nat
 | [],_=>none
 | x::r,h=>bif Nat.beq x h then some 0 else(dD r h).map (·+1)
theorem eY:∀{H:List Nat}{h i:Nat},dD H h=some i→H[i]?=some h
 | [],_,_,e=>by cases e
 | x::r,h,i,e=>by
  simp only[dD] at e;cases hb:Nat.beq x h with
  | true=>rw[hb] at e;cases e;have:=ab hb;subst this;rfl
  | false=>
   rw[hb] at e;obtain⟨n,h1,h2⟩:=az.1 e;subst h2;exact eY (H:=r) h1
theorem pH:∀{H:List Nat}{h:Nat},dD H h=none→h∉H
 | [],_,_=>fun h=>by cases h
 | x::r,h,e=>by
  simp only[dD] at e;cases hb:Nat.beq x h with
  | true=>rw[hb] at e;cases e
  | false=>
   rw[hb] at e;intro hm;rcases bf.1 hm with rfl | hm
   ·rw[aW] at hb;cases hb
   ·exact pH (Option.map_eq_none_iff.1 e) hm
def bR (H:List Nat) (stv:List (Nat×av)):G→Option G
 | .loc h off=>match dD H h with
  | some i=>some (.loc (1000+i) off)
  | none=>view 4 stv (.loc h off)
 | .aL h sz off m=>match dD H h with
  | some i=>some (.aL (1000+i) sz off m)
  | none=>view 4 stv (.aL h sz off m)
 | .cW h=>match dD H h with
  | some i=>some (.cW (1000+i))
  | none=>none
 | .eN h=>match dD H h with
  | some i=>some (.eN (1000+i))
  | none=>none
 | .kp h j off=>match dD H h with
  | some i=>some (.kp (1000+i) j off)
  | none=>none
 | .ks h j sz n=>match dD H h with
  | some i=>some (.ks (1000+i) j sz n)
  | none=>none
 | .agg gs=>(go gs).map .agg
 | .ba f gs=>(go gs).map (.ba f)
 | .val v=>some (nQ v)
 | .dw b=>some (.dw b)
 | .sl n cs=>some (.sl n cs)
 | .ptr cs=>some (.ptr cs)
 | .fr g=>some g
 | _=>none
where go:List G→Option (List G)
 | []=>some []
 | g::r=>match bR H stv g,go r with
  | some g',some r'=>some (g'::r')
  | _,_=>none
theorem n5 {H:List Nat}{stv:List (Nat×av)}:∀{gs gs':List G},bR.go H stv gs=some gs'→gs'.length=gs.length∧∀(j:Nat) (g':G),gs'[j]?=some g'→∃g,gs[j]?=some g∧bR H stv g=some g'
 | [],_,h=>by cases h;exact⟨rfl,fun j g h=>by simp at h⟩
 | g::r,gs',h=>by
  simp only[bR.go] at h;cases h1:bR H stv g with
  | none=>rw[h1] at h;cases h
  | some g1=>
   rw[h1] at h;cases h2:bR.go H stv r with
   | none=>rw[h2] at h;cases h
   | some r1=>
    rw[h2] at h;cases h;obtain⟨h3,h4⟩:=n5 h2;refine⟨by simp[h3],fun j g' hg'=>?_⟩;cases j with
    | zero=>cases hg';exact⟨g,rfl,h1⟩
    | succ j=>exact h4 j g' hg'
def sj (H:List Nat) (stv:List (Nat×av)) (k:av):Option av:=
 bif k.pure then some {k with ew:=false,fresh:=false} else match bR.go H stv k.cells with
  | some cs=>some {k with ew:=false,fresh:=false,cells:=cs}
  | none=>none
theorem Qo {H:List Nat}{stv:List (Nat×av)}{k k':av}(h:sj H stv k=some k'):k'.ew=false:=by
 unfold sj at h;cases hp:k.pure with
 | true=>rw[hp] at h;cases h;rfl
 | false=>
  rw[hp,cond_false] at h;split at h
  ·cases h;rfl
  ·cases h
def gz (H:List Nat) (stv st:List (Nat×av)):List Nat→Nat→Option (List (Nat×av))
 | [],_=>some []
 | h::r,i=>match ay st h with
  | some k=>match sj H stv k,gz H stv st r (i+1) with
   | some k',some r'=>some ((1000+i,k')::r')
   | _,_=>none
  | none=>none
theorem p7 {H:List Nat}{stv st:List (Nat×av)}:∀{r:List Nat}{i:Nat}{ei:List (Nat×av)},gz H stv st r i=some ei→∀{j:Nat}{k':av},ay ei j=some k'→
  ∃n h k,j=1000+(i+n)∧r[n]?=some h∧ay st h=some k∧sj H stv k=some k'
 | [],_,_,e,_,_,h=>by cases e;cases h
 | x::r,i,ei,e,j,k',h=>by
  simp only[gz] at e;cases hk:ay st x with
  | none=>rw[hk] at e;cases e
  | some k=>
   rw[hk] at e;dsimp only at e;cases h1:sj H stv k with
   | none=>rw[h1] at e;cases e
   | some k1=>
    rw[h1] at e;cases h2:gz H stv st r (i+1) with
    | none=>rw[h2] at e;cases e
    | some r'=>
     rw[h2] at e;cases e;simp only[ay] at h;cases hb:Nat.beq (1000+i) j with
     | true=>
      rw[hb] at h;cases h;exact⟨0,x,k,(ab hb).symm,rfl,hk,h1⟩
     | false=>
      rw[hb] at h;obtain⟨n,y,k2,e1,e2,e3,e4⟩:=p7 h2 h;exact⟨n+1,y,k2,by omega,e2,e3,e4⟩
theorem Gi {H:List Nat}{stv st:List (Nat×av)}:∀{r:List Nat}{i:Nat}{ei:List (Nat×av)},gz H stv st r i=some ei→∀{n h:Nat},r[n]?=some h→(∃k',ay ei (1000+(i+n))=some k')∧∃k,ay st h=some k
 | [],_,_,_,_,_,h=>by cases h
 | x::r,i,ei,e,n,y,h=>by
  simp only[gz] at e;cases hk:ay st x with
  | none=>rw[hk] at e;cases e
  | some k=>
   rw[hk] at e;dsimp only at e;cases h1:sj H stv k with
   | none=>rw[h1] at e;cases e
   | some k1=>
    rw[h1] at e;cases h2:gz H stv st r (i+1) with
    | none=>rw[h2] at e;cases e
    | some r'=>
     rw[h2] at e;cases e;cases n with
     | zero=>cases h;exact⟨⟨k1,by rw[fZ,dU]⟩,k,hk⟩
     | succ n=>
      obtain⟨⟨k',h3⟩,h4⟩:=Gi h2 (n:=n) (h:=y) h;refine⟨⟨k',?_⟩,h4⟩;rw[aB _ _ (by omega),show 1000+(i+(n+1))=1000+(i+1+n) by omega];exact h3
def kf (H:List Nat) (μ:Mu):Mu:=fun j=>bif pinned j then(H[j-1000]?).bind μ else none
theorem sa (i:Nat):pinned (1000+i)=true:=Nat.ble_eq_true_of_le (by omega)
theorem kc {H:List Nat}{μ:Mu}{i h:Nat}(e:H[i]?=some h):kf H μ (1000+i)=μ h:=by
 unfold kf;rw[sa,cond_true,show 1000+i-1000=i by omega,e];rfl
def gd (H:List Nat):List (Nat×av)→List (Nat×av)
 | []=>[]
 | (h,k)::r=>match dD H h with
  | some _=>gd H r
  | none=>(h,k)::gd H r
theorem ul {H:List Nat}{h:Nat}{k:av}:∀{st:List (Nat×av)},ay (gd H st) h=some k→dD H h=none∧ay st h=some k
 | [],e=>by cases e
 | (x,k')::r,e=>by
  simp only[gd] at e;cases hx:dD H x with
  | some i=>
   rw[hx] at e;obtain⟨h1,h2⟩:=ul e;refine⟨h1,?_⟩;rw[aB _ _ fun e=>by subst e;rw[hx] at h1;cases h1];exact h2
  | none=>
   rw[hx] at e;simp only[ay] at e⊢;cases hb:Nat.beq x h with
   | true=>
    rw[hb] at e;have:=ab hb;subst this;exact⟨hx,e⟩
   | false=>rw[hb] at e;exact ul e
theorem zH {H:List Nat}{h:Nat}{k:av}(hi:dD H h=none):∀{st:List (Nat×av)},ay st h=some k→ay (gd H st) h=some k
 | [],e=>by cases e
 | (x,k')::r,e=>by
  simp only[gd];simp only[ay] at e;cases hb:Nat.beq x h with
  | true=>
   rw[hb] at e;have:=ab hb;subst this;rw[hi];simp only[ay,aW];exact e
  | false=>
   rw[hb] at e;have:=zH hi (st:=r) e;split
   ·exact this
   ·simp only[ay,hb];exact this
def j6 (cx:Cx) (st:List (Nat×av)) (μ:Mu) (H:List Nat) (vw:Bool):Nat→Prop:=fun b=>cx.X b∨(vw=false∧Own (gd H st) μ b)
def ft (st:List (Nat×av)) (H:List Nat) (vw:Bool):List (Nat×av):=bif vw then gd H st else[]
section
variable {P:Program}{N:Nat}{cx:Cx}{s:St}
theorem jR {st ei stv:List (Nat×av)}{H:List Nat}{μ:Mu}(hls:gz H stv st H 0=some ei){b:Nat}(ho:Own ei (kf H μ) b):∃(i h:Nat) (k:av) (c:Nat) (m:Mm),H[i]?=some h∧ay st h=some k∧μ h=some (c,m)∧In b c m:=by
 obtain⟨j,k',c,m,h1,h2,hi⟩:=ho;obtain⟨n,h,k,rfl,e2,e3,_⟩:=p7 hls h1;rw[da,kc e2] at h2;exact⟨n,h,k,c,m,e2,e3,h2,hi⟩
theorem yH {st:List (Nat×av)}{H:List Nat}{μ:Mu}{b:Nat}(ho:Own (gd H st) μ b):∃h k c m,dD H h=none∧ay st h=some k∧μ h=some (c,m)∧In b c m:=by
 obtain⟨h,k,c,m,h1,h2,hi⟩:=ho;obtain⟨h3,h4⟩:=ul h1;exact⟨h,k,c,m,h3,h4,h2,hi⟩
theorem nY {H:List Nat}{i h:Nat}(e:H[i]?=some h):h∈H:=aj e
theorem td {st:List (Nat×av)}{H:List Nat}{μ:Mu}{w:World}(hst:cI cx μ st w){i h h' b c c':Nat}{m m':Mm}{k k':av}(e:H[i]?=some h) (hk:ay st h=some k) (hm:μ h=some (c,m)) (hi:In b c m) (e':dD H h'=none) (hk':ay st h'=some k') (hm':μ h'=some (c',m')) (hi':In b c' m'):False:=by
 have:=hst.de h h' k k' b c m c' m' hk hk' hm hm' hi hi';subst this;exact pH e' (nY e)
theorem Wg {st ei stv:List (Nat×av)}{H:List Nat}{μ:Mu}(vw:Bool) (hls:gz H stv st H 0=some ei) (w:World) (b:Nat) (ho:(jc (j6 cx st μ H vw) ei (kf H μ) w).O ei (kf H μ) b):cx.O st μ b:=by
 rcases ho with (ho | ⟨_,ho⟩) | ho
 ·exact .inl ho
 ·obtain⟨h,k,c,m,_,h2,h3,hi⟩:=yH ho;exact .inr ⟨h,k,c,m,h2,h3,hi⟩
 ·obtain⟨i,h,k,c,m,_,h2,h3,hi⟩:=jR hls ho;exact .inr ⟨h,k,c,m,h2,h3,hi⟩
theorem si {st ei:List (Nat×av)}{H:List Nat}{vw:Bool}{μ:Mu}{w:World}(hst:cI cx μ st w) (hls:gz H (ft st H vw) st H 0=some ei){g g':G}{v:Value}(hv:aU (cx.O st μ) cx.base w μ g v)
  (hg:bR H (ft st H vw) g=some g'):aU ((jc (j6 cx st μ H vw) ei (kf H μ) w).O ei (kf H μ)) w.heap.size w (kf H μ) g' v:=by
 have hO:=Wg (cx:=cx) (μ:=μ) vw hls w;generalize hOd:(jc (j6 cx st μ H vw) ei (kf H μ) w).O ei (kf H μ)=O' at hO;have hstv:∀h k,ay (ft st H vw) h=some k→vw=true∧dD H h=none∧ay st h=some k:=by
  intro h k hk;unfold ft at hk;cases vw with
  | true=>exact⟨rfl,ul hk⟩
  | false=>cases hk
 have look:∀{g g':G}{v:Value},aU (cx.O st μ) cx.base w μ g v→view 4 (ft st H vw) g=some g'→bH O' w g' v:=by
  intro g g' v hv hg;refine zo (fun h k hk=>hst.en h k (hstv h k hk).2.2) (fun h k b m x hk hm hi' ho=>?_) hO 4 hv hg;obtain⟨e0,e1,e2⟩:=hstv h k hk;rw[←hOd] at ho;rcases ho with (ho | ⟨ho,_⟩) | ho
  ·exact(hst.cq h k b m x e2 hm hi').1 ho
  ·rw[e0] at ho;cases ho
  ·obtain⟨i,h',k',c',m',h1,h2,h3,hi⟩:=jR hls ho;exact td hst h1 h2 h3 hi e1 e2 hm hi'
 have aF:∀{g:G}{v:Value},bH (cx.O st μ) w g v→∀{g'},bR H (ft st H vw) g=some g'→aU O' w.heap.size w (kf H μ) g' v:=by
  intro g v h
  induction h with
  | any v=>intro g' hg;cases hg
  | val v=>intro g' hg;cases hg;exact .aF (Bt v)
  | dw b v h=>intro g' hg;cases hg;exact .aF (.dw b v h)
  | nil=>intro g' hg;cases hg;exact .aF .nil
  | jb a c=>intro g' hg;cases hg;exact .aF (.jb a c)
  | sl n cells b off cap us h1 h2 h3 h4 h5 ih=>intro g' hg;cases hg;exact .aF ((bH.sl n cells b off cap us h1 h2 h3 h4 h5).mono (Kept.refl _ _) fun b _ hn ho=>hn (hO b ho))
  | ptr cells b off us h1 h2 h3 h4 ih=>intro g' hg;cases hg;exact .aF ((bH.ptr cells b off us h1 h2 h3 h4).mono (Kept.refl _ _) fun b _ hn ho=>hn (hO b ho))
  | agg cells us hl hr ih=>
   intro g' hg;simp only[bR,az] at hg;obtain⟨gs',h1,rfl⟩:=hg;obtain⟨h2,h3⟩:=n5 h1;refine .agg gs' us (by omega) fun j g v hg hv=>?_;obtain⟨g0,h4,h5⟩:=h3 j g hg;exact ih j g0 v h4 hv h5
 induction hv generalizing g' with
 | aF h=>exact aF h hg
 | fr h=>cases hg;exact .aF (h.Ot.mono (Kept.refl _ _) fun b _ hn ho=>hn (hO b ho))
 | loc h off b m hm=>
  simp only[bR] at hg;cases hi:dD H h with
  | some i=>rw[hi] at hg;cases hg;exact .loc _ _ b m (by rw[kc (eY hi)];exact hm)
  | none=>rw[hi] at hg;exact .aF (look (.loc h off b m hm) hg)
 | gk h sz hm=>
  simp only[bR] at hg;cases hi:dD H h with
  | some i=>rw[hi] at hg;cases hg;exact .gk _ _ (by rw[kc (eY hi)];exact hm)
  | none=>rw[hi] at hg;exact .aF (look (.gk h sz hm) hg)
 | aL h sz off n b m cap hm hn hc=>
  simp only[bR] at hg;cases hi:dD H h with
  | some i=>rw[hi] at hg;cases hg;exact .aL _ _ _ _ b m cap (by rw[kc (eY hi)];exact hm) hn hc
  | none=>rw[hi] at hg;exact .aF (look (.aL h sz off n b m cap hm hn hc) hg)
 | fq h sz off0 b m hm hpos=>
  simp only[bR] at hg;cases hi:dD H h with
  | some i=>rw[hi] at hg;cases hg;exact .fq _ _ off0 b m (by rw[kc (eY hi)];exact hm) hpos
  | none=>rw[hi] at hg;exact .aF (look (.fq h sz off0 b m hm hpos) hg)
 | agg cells us hl hr ih=>
  simp only[bR,az] at hg;obtain⟨gs',h1,rfl⟩:=hg;obtain⟨h2,h3⟩:=n5 h1;refine .agg gs' us (by omega) fun j g v hg hv=>?_;obtain⟨g0,h4,h5⟩:=h3 j g hg;exact ih j g0 v h4 hv h5
 | bB cells us hl hr ih=>cases hg
 | ba f caps us hl hr ih=>
  simp only[bR,az] at hg;obtain⟨gs',h1,rfl⟩:=hg;obtain⟨h2,h3⟩:=n5 h1;refine .ba f gs' us (by omega) fun j g v hg hv=>?_;obtain⟨g0,h4,h5⟩:=h3 j g hg;exact ih j g0 v h4 hv h5
 | cW h b m hm=>
  simp only[bR] at hg;cases hi:dD H h with
  | some i=>rw[hi] at hg;cases hg;exact .cW _ b m (by rw[kc (eY hi)];exact hm)
  | none=>rw[hi] at hg;cases hg
 | eN h b m hm=>
  simp only[bR] at hg;cases hi:dD H h with
  | some i=>rw[hi] at hg;cases hg;exact .eN _ b m (by rw[kc (eY hi)];exact hm)
  | none=>rw[hi] at hg;cases hg
 | kp h j off b m c n hm hk=>
  simp only[bR] at hg;cases hi:dD H h with
  | some i=>rw[hi] at hg;cases hg;exact .kp _ j off b m c n (by rw[kc (eY hi)];exact hm) hk
  | none=>rw[hi] at hg;cases hg
 | mh h j sz x cap hb=>
  simp only[bR] at hg;cases hi:dD H h with
  | some i=>rw[hi] at hg;cases hg;exact .mh _ j sz x cap hb
  | none=>rw[hi] at hg;cases hg
 | ks h j sz n b m c k cap hm hk hn hc=>
  simp only[bR] at hg;cases hi:dD H h with
  | some i=>rw[hi] at hg;cases hg;exact .ks _ j sz n b m c k cap (by rw[kc (eY hi)];exact hm) hk hn hc
  | none=>rw[hi] at hg;cases hg
theorem Mg {st ei:List (Nat×av)}{H:List Nat}{vw:Bool}{μ:Mu}{w:World}(hst:cI cx μ st w) (hls:gz H (ft st H vw) st H 0=some ei) (di:H.Nodup):
  cI (jc (j6 cx st μ H vw) ei (kf H μ) w) (kf H μ) ei w:=by
 have hO:=Wg (cx:=cx) (μ:=μ) vw hls w;refine {en:=?_,de:=?_,cq:=?_,fD:=fun _ _ _ _=>.inl rfl,fg:=?_,hb:=aG _,os:=rfl,tape:=rfl,output:=rfl,gl:=hst.Wo fun b hb=>(by
  obtain⟨i,h,k,c,m',q1,q2,q3,q4⟩:=jR hls hb;obtain⟨_,z2,_⟩:=hst.cq h k c m' b q2 q3 q4;exact z2),dq:=fun _ _ _=>rfl}
 ·intro j k' hk';obtain⟨n,h,k,rfl,e2,e3,e4⟩:=p7 hls hk';rw[da,kc e2];have hb:=hst.en h k e3;unfold sj at e4;cases hp:k.pure with
  | true=>
   rw[hp] at e4;cases e4;cases hm:μ h with
   | none=>rw[hm] at hb;exact hb.yL rfl rfl hp.symm
   | some bm=>
    obtain⟨b,m⟩:=bm;rw[hm] at hb;cases hl:k.lp with
    | none=>
     obtain⟨cs,h1,h2,h3,h4,h5,h6⟩:=hb.cells hl;refine .mk rfl (hb.nf hl) ⟨cs,h1,h2,h3,(fun h=>by cases h),h5,fun j g hg=>?_⟩;obtain⟨v,hv,hrv⟩:=h6 j g hg;refine⟨v,hv,?_⟩;unfold cZ at hrv⊢;simp only[hp] at hrv⊢;have hrv:=hrv.flag (f':=false) (fun h=>by cases h);exact bH.mono hrv (Kept.refl _ _) fun b _ hn ho=>hn (hO b ho)
    | some kd=>
     cases kd with
     | loop lp=>
      obtain⟨D,vs,_,_,_,h4,_⟩:=(aV.loop hl).1 hb;rw[hp] at h4;cases h4
     | deep d=>
      obtain⟨h1,h2,h3,h4⟩:=(aV.deep hl).1 hb;refine(aV.deep rfl).2 ⟨d.mono h1 (Kept.refl _ _) (fun x _ hn ho=>hn ?_) (fun _ _=>rfl),rfl,h3,fun h=>by cases h⟩;cases k.fresh with
      | false=>exact hO x ho
      | true=>exact .inr (hO x ho)
  | false=>
   rw[hp,cond_false] at e4;cases hgo:bR.go H (ft st H vw) k.cells with
   | none=>rw[hgo] at e4;cases e4
   | some cs'=>
    rw[hgo] at e4;cases e4;obtain⟨q1,q2⟩:=n5 hgo;cases hm:μ h with
    | none=>
     rw[hm] at hb;obtain⟨hb1,hb2⟩:=hb;refine⟨bu (by simp only;rw[q1,hb1];rfl),?_⟩;dsimp only;split at hb2
     ·trivial
     ·exact hb2.elim
     ·rw[hp] at hb2;cases hb2.2
    | some bm=>
     obtain⟨b,m⟩:=bm;rw[hm] at hb;cases hl:k.lp with
     | none=>
      obtain⟨cs,h1,h2,h3,h4,h5,h6⟩:=hb.cells hl;refine .mk rfl (hb.nf hl) ⟨cs,h1,h2,by simp only;omega,(fun h=>by cases h),h5,fun j g hg=>?_⟩;obtain⟨g0,q3,q4⟩:=q2 j g hg;obtain⟨v,hv,hrv⟩:=h6 j g0 q3;refine⟨v,hv,?_⟩;unfold cZ at hrv⊢;simp only[hp] at hrv⊢;exact si hst hls hrv q4
     | some kd=>
      cases kd with
      | deep d=>have:=((aV.deep hl).1 hb).2.1;rw[hp] at this;cases this
      | loop lp=>
       obtain⟨D,vs,h1,h2,h3,h4,h5⟩:=(aV.loop hl).1 hb;refine(aV.loop rfl).2 ⟨D,vs,h1,h2,rfl,rfl,fun j t g ht hg=>?_⟩;obtain⟨g0,q3,q4⟩:=q2 j g hg;obtain⟨v,hv,hrv⟩:=h5 j t g0 ht q3;exact⟨v,hv,si hst hls hrv q4⟩
 ·intro j j' k1 k2 y b m b' m' h1 h2 h3 h4 hi hi';obtain⟨n,h,k,rfl,e2,e3,_⟩:=p7 hls h1;obtain⟨n',h',k',rfl,e2',e3',_⟩:=p7 hls h2;rw[da,kc e2] at h3;rw[da,kc e2'] at h4;have:=hst.de h h' k k' y b m b' m' e3 e3' h3 h4 hi hi';subst this;have:=(List.getElem?_inj (ai.1 e2).1 di).1 (e2.trans e2'.symm);subst this;rfl
 ·intro j k1 b m y h1 h2 hi;obtain⟨n,h,k,rfl,e2,e3,e4⟩:=p7 hls h1;have hA:Own ei (kf H μ) y:=⟨_,_,_,_,h1,h2,hi⟩;rw[da,kc e2] at h2;refine⟨?_,.inr hA,(hst.cq h k b m y e3 h2 hi).2.2.1,fun hm=>?_⟩
  ·rintro(ho | ⟨_,ho⟩)
   ·exact(hst.cq h k b m y e3 h2 hi).1 ho
   ·obtain⟨h',k',c',m',q1,q2,q3,q4⟩:=yH ho;exact td hst e2 e3 h2 hi q1 q2 q3 q4
  ·rw[Qo e4] at hm;cases hm
 ·rintro b (ho | ⟨_,ho⟩)
  ·have:=hst.fg b ho;have:=hst.hb;show b<w.heap.size;omega
  ·obtain⟨h',k',c',m',q1,q2,q3,q4⟩:=yH ho;exact qC hst ⟨h',k',c',m',q2,q3,q4⟩
end
end Go.AM
/-
 AM,part Y:plain facts of partial functions.
-/
namespace Go.AM
theorem Sv {σ ρ:Type}{body:σ→Option (σ⊕ρ)}(I:σ→Prop) (m:σ→Nat) (R:ρ→Prop)
  (hstep:∀x,I x→(∃x',body x=some (.inl x')∧I x'∧m x'<m x)∨∃r,body x=some (.inr r)∧R r):
  ∀(n:Nat) (x:σ),I x→m x<n→∃r,aP body n x=some r∧R r:=by
 intro n
 induction n with
 | zero=>intro x _ h;omega
 | succ n ih=>
  intro x hI hm;rcases hstep x hI with ⟨x',h1,h2,h3⟩ | ⟨r,h1,h2⟩
  ·obtain⟨r,h4,h5⟩:=ih x' h2 (by omega);exact⟨r,by simp only[aP,h1];exact h4,h5⟩
  ·exact⟨r,by simp only[aP,h1],h2⟩
theorem aC {α:Type}{l:List α}{i:Nat}{x:α}(h:l[i]?=some x):idx l (i:Int)=some x:=by
 unfold idx;rw[if_pos (by omega)];simpa using h
theorem YJ {α:Type}{l:List α}{i:Int}(h0:0≤i) (h1:i<(l.length:Int)):∃x,idx l i=some x∧l[i.toNat]?=some x:=by
 refine⟨l[i.toNat]'(by omega),?_,?_⟩
 ·unfold idx;rw[if_pos h0];exact ag _
 ·exact ag _
theorem ey {p:Prop}[Decidable p] (h:p):bj p=some ():=by unfold bj;rw[if_pos h]
theorem i64 {n:Int}(h0:-9223372036854775808≤n) (h1:n≤9223372036854775807):IntKind.i64.wrap n=n:=IntWalk.i64_in n ⟨h0,h1⟩
theorem u64 {n:Int}(h0:0≤n) (h1:n≤18446744073709551615):IntKind.u64.wrap n=n:=IntWalk.u64_in n ⟨h0,h1⟩
def nk {σ α ρ:Type}(g:σ→α→Option (σ⊕ρ)) (e:σ→ρ):σ→List α→Option ρ
 | s,[]=>some (e s)
 | s,x::r=>match g s x with
  | some (.inl s')=>nk g e s' r
  | some (.inr v)=>some v
  | none=>none
def zr {σ τ ρ:Type}(f:σ→τ):Option (σ⊕ρ)→Option (τ⊕ρ)
 | some (.inl s)=>some (.inl (f s))
 | some (.inr r)=>some (.inr r)
 | none=>none
theorem B5 {σ τ α ρ:Type}{body:τ→Option (τ⊕ρ)}(l:List α) (st:σ→Int→τ) (g:σ→α→Option (σ⊕ρ)) (e:σ→ρ)
  (hbody:∀(s:σ) (k:Nat) (x:α),l[k]?=some x→body (st s k)=zr (fun s'=>st s' ((k+1:Nat):Int)) (g s x)) (hend:∀s:σ,body (st s (l.length:Int))=some (.inr (e s)))
  (n:Nat) (hn:l.length<n) (s:σ):aP body n (st s 0)=nk g e s l:=by
 have key:∀(m k n:Nat) (s:σ),m=l.length-k→k≤l.length→m<n→aP body n (st s (k:Int))=nk g e s (l.drop k):=by
  intro m
  induction m with
  | zero=>
   intro k n s hm hk hn;obtain rfl:k=l.length:=by omega
   cases n with
   | zero=>omega
   | succ n=>simp only[aP,hend,jQ,nk]
  | succ m ih=>
   intro k n s hm hk hn;cases n with
   | zero=>omega
   | succ n=>
    have hlt:k<l.length:=by omega
    have hx:l[k]?=some l[k]:=ag hlt;rw[cM hlt];simp only[aP,hbody s k _ hx,nk];cases hg:g s l[k] with
    | none=>simp only[zr]
    | some o=>
     cases o with
     | inl s'=>simp only[zr];exact ih (k+1) n s' (by omega) (by omega) (by omega)
     | inr v=>simp only[zr]
 have:=key l.length 0 n s (by omega) (by omega) hn;simpa using this
theorem aT {k n:Nat}(h:k<n) (hn:n≤9223372036854775807):IntKind.i64.wrap ((k:Int)+1)=((k+1:Nat):Int):=by
 rw[i64 (by omega) (by omega)];omega
theorem bP {α:Type}{l:List α}{k:Nat}{x:α}(h:l[k]?=some x):k<l.length:=(ai.1 h).1
theorem dec_lt {α:Type}{l:List α}{k:Nat}{x:α}(h:l[k]?=some x):decide ((k:Int)<(l.length:Int))=true:=by have:=bP h;simp;omega
theorem bw {α:Type}(l:List α):decide ((l.length:Int)<(l.length:Int))=false:=by simp
section
variable {α:Type}[DecidableEq α]
theorem xV {β:Type}(s:List β) (f:β→Option Bool) (p:β→Bool) (hf:∀x,f x=some (p x)) (h63:s.length≤9223372036854775807) (n:Nat) (hn:s.length<n):
  ∃r,aP (fun i:Int=>cond (decide (i<(List.length s:Int))) ((idx s i).bind fun x2=>(f x2).bind fun r3=>cond r3 (some (.inr (Ex.ret i))) (some (.inl (IntKind.i64.wrap (i+1))))) (some (.inr (.bJ ())))) n 0=some r∧
   (match r with | .bJ _=>s.any p=false | .ret i=>0≤i∧s.any p=true):=by
 refine Sv (fun i:Int=>∃k:Nat,i=(k:Int)∧k≤s.length∧(s.take k).any p=false) (fun i:Int=>s.length-i.toNat) _ ?_ n 0 ⟨0,rfl,by omega,by simp⟩ (by simpa using hn);rintro i ⟨k,rfl,hk,hv⟩
 by_cases h:k<s.length
 ·have hx:s[k]?=some s[k]:=ag h;cases hv':p s[k] with
  | true=>
   right;refine⟨.ret k,?_,by omega,?_⟩
   ·simp only[dec_lt hx,cond_true,aC hx,aa,hf,hv']
   ·rw[List.any_eq_true];exact⟨s[k],fQ h,hv'⟩
  | false=>
   left;refine⟨((k+1:Nat):Int),?_,⟨k+1,rfl,by omega,?_⟩,by simp only[bO];omega⟩
   ·simp only[dec_lt hx,cond_true,aC hx,aa,aT h h63,hf,hv',cond_false]
   ·rw[List.take_add_one,hx];simp only[Option.toList_some,List.any_append,mU,List.any_nil,hv,hv',Bool.or_self]
 ·right;obtain rfl:k=s.length:=by omega
  refine⟨.bJ (),by simp only[bw,cond_false],?_⟩;simpa using hv
end
end Go.AM
