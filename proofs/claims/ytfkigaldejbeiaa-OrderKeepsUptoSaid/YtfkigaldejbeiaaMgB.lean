/-
  AM, second part.
-/
import Derived.Test.YtfkigaldejbeiaaMgA
import Derived.Laws.Tables
import Derived.WalkSpells
import Derived.Laws.Slices
import Derived.Laws.Strings2
import Derived.IntWalk
set_option linter.unusedSectionVars false
set_option linter.unusedSimpArgs false
set_option linter.unusedVariables false
/-
 AM,part L:a eo from a walk;calls by eo.
-/
namespace Go.AM
def DP (P:Program) (fn:Func) (Q:G→List (Nat×ap)→Prop):Exit→St→Prop:=fun e s=>
 (e=.ret∨e=.normal)∧s.df=[]∧∃gs r st',zc P s fn.results.toList gs∧kj s.st st'∧iT s.st st' (pack gs)=some r∧Q r st'
def Rl (P:Program) (fn:Func) (Q:G→List (Nat×ap)→Prop) (Qp:List PanicEntry→List (Nat×ap)→Prop):Exit→St→Prop:=fun e s=>
 DP P fn Q e s∨∃c,e=.panic c∧s.df=[]∧∃st',kj s.st st'∧Qp c st'
theorem gO.refl (Z:Nat→Prop) (w:World):gO Z w w:=⟨rfl,fun _=>.inl rfl,rfl,rfl,rfl⟩
theorem gO.put {Z:Nat→Prop}{w:World}{D:Nat}{o:Obj}(o':Obj) (hz:Z D) (ho:w.heap[D]?=some o) (hc:Kv o=false):gO Z w (w.putObj D o'):=by
 refine⟨by simp[World.putObj],fun b=>?_,rfl,rfl,rfl⟩
 by_cases e:b=D
 ·subst e;exact .inr ⟨hz,o,ho,hc⟩
 ·exact .inl (World.putObj_heap_other e)
theorem gO.cells {Z:Nat→Prop}{w w':World}(h:gO Z w w'){b:Nat}{cs:Array Value}{e:TypeId}{f:Nat×Nat}(hb:w.heap[b]?=some (.cells cs e f)):w'.heap[b]?=some (.cells cs e f):=by
 rcases h.block b with h1 | ⟨_,x,h1,h2⟩
 ·exact h1.trans hb
 ·rw[hb] at h1;cases h1;cases h2
theorem gO.cell {Z:Nat→Prop}{w w':World}(h:gO Z w w'){b j:Nat}{v:Value}(hb:w.cell? ⟨b,j,none⟩=some v):w'.cell? ⟨b,j,none⟩=some v:=by
 rcases h.block b with h1 | ⟨_,x,h1,h2⟩
 ·rw[World.cell?_of_block (w:=w) h1];exact hb
 ·cases x with
  | cells cs e f=>cases h2
  | _=>simp[World.cell?,h1] at hb
theorem bA.shut {O Z:Nat→Prop}{w w':World}{g:G}{v:Value}(hr:bA O w g v) (h:gO Z w w'):bA O w' g v:=by
 induction hr with
 | any v=>exact .any v
 | val v=>exact .val v
 | nil=>exact .nil
 | gM a cap=>exact .gM a cap
 | sl n cells b off cap us hn hO1 hb1 hc hr ih=>exact .sl n cells b off cap us hn hO1 (by rw[h.size];exact hb1) (fun j hj=>h.cell (hc j hj)) ih
 | ptr cells b off us hO1 hb1 hc hr ih=>exact .ptr cells b off us hO1 (by rw[h.size];exact hb1) (fun j hj=>h.cell (hc j hj)) ih
 | agg cells us hl hr ih=>exact .agg cells us hl ih
theorem aW.shut {O Z:Nat→Prop}{base:Nat}{w w':World}{μ:Mu}{g:G}{v:Value}(hr:aW O base w μ g v) (h:gO Z w w'):aW O base w' μ g v:=by
 induction hr with
 | aF hr=>exact .aF (hr.shut h)
 | fr hr=>exact .fr (hr.shut h)
 | loc h off b m hm=>exact .loc h off b m hm
 | eL h sz hm=>exact .eL h sz hm
 | aO h sz off n b m cap hm hn hc=>exact .aO h sz off n b m cap hm hn hc
 | dF h sz off0 b m hm hpos=>exact .dF h sz off0 b m hm hpos
 | agg cells us hl hr ih=>exact .agg cells us hl ih
 | bj cells us hl hr ih=>exact .bj cells us hl ih
 | aM f caps us hl hr ih=>exact .aM f caps us hl ih
 | cq h b m hm=>exact .cq h b m hm
 | kp h i off b m c n hm hk=>exact .kp h i off b m c n hm hk
 | gW h i sz x cap hi=>exact .gW h i sz x cap hi
 | ks h i sz n b m c k cap hm hk hn hc=>exact .ks h i sz n b m c k cap hm hk hn hc
 | dR h b m hm=>exact .dR h b m hm
theorem aN.shut {O Z:Nat→Prop}{base:Nat}{w w':World}{μ:Mu}{k:ap}{x:Option (Nat×Mm)}(hr:aN O base w μ k x) (h:gO Z w w') (hz:∀b m,x=some (b,m)→k.lp≠none→∀y,In y b m→¬Z y):aN O base w' μ k x:=by
 cases x with
 | none=>exact hr
 | some bm=>
  obtain⟨b,m⟩:=bm
  cases hl:k.lp with
  | none=>
   obtain⟨cs,h2,h3,h4,h6,h8,h5⟩:=hr.cells hl
   refine .mk hl (hr.kf hl) ⟨cs,h.cells h2,h3,h4,h6,h8,fun j g hg=>?_⟩
   obtain⟨v,hv,hrv⟩:=h5 j g hg
   refine⟨v,hv,?_⟩
   unfold cv at hrv⊢
   cases hp:k.pure with
   | true=>rw[hp] at hrv;exact hrv.shut h
   | false=>rw[hp] at hrv;exact hrv.shut h
  | some kd=>
   have hz:=hz b m rfl (by rw[hl];exact fun h=>by cases h)
   cases kd with
   | loop lp=>
    obtain⟨D,vs,h2,h3,h4,h5,h6⟩:=(aN.loop hl).1 hr
    refine(aN.loop hl).2 ⟨D,vs,?_,h3,h4,h5,fun j t g ht hg=>let ⟨v,hv,hrv⟩:=h6 j t g ht hg;⟨v,hv,hrv.shut h⟩⟩
    rcases h.block b with h7 | ⟨h7,_⟩
    ·exact h7.trans h2
    ·exact absurd h7 (hz b (.self _ _))
   | deep d=>
    obtain⟨h1,h2,h3,h4⟩:=(aN.deep hl).1 hr
    exact(aN.deep hl).2 ⟨d.shut h1 h hz,h2,h3,h4⟩
theorem cN.shut {cx:Cx}{μ:Mu}{st:List (Nat×ap)}{w w' w0:World}{Z:Nat→Prop}(hr:cN cx μ st w) (h:gO Z w w') (hz:∀x k b m,aq st x=some k→μ x=some (b,m)→k.lp≠none→∀y,In y b m→¬Z y)
  (h0:w0.os=cx.w0.os∧w0.tape=cx.w0.tape∧w0.output=cx.w0.output) (hk:∀b,b<cx.base→¬cx.A b→w'.heap[b]?=w0.heap[b]?):cN {cx with w0:=w0} μ st w':=
 {c8:=fun x k hx=>(hr.c8 x k hx).shut h fun b m hm hl=>hz x k b m hx hm hl,cz:=hr.cz,bR:=fun x k b m y h1 h2 h3=>by rw[h.size];exact hr.bR x k b m y h1 h2 h3,dZ:=hr.dZ,dY:=hr.dY,hb:=by rw[h.size];exact hr.hb,
  os:=(h.os.trans hr.os).trans h0.1.symm,tape:=(h.tape.trans hr.tape).trans h0.2.1.symm,output:=(h.output.trans hr.output).trans h0.2.2.symm,cY:=hk}
theorem gG.shut {O Z:Nat→Prop}{base:Nat}{w w':World}{μ:Mu}{ds:List Deferred}{gs:List G}(hr:gG O base w μ ds gs) (h:gO Z w w') (hz:∀d∈ds,∀D,d.target=.collected D→¬Z D):gG O base w' μ ds gs:=by
 induction hr with
 | nil=>exact .nil
 | mark h1 h2 h3 h4 h5 h6 ih=>
  refine .mark h1 h2 (by rw[h.size];exact h3) ?_ h5 (ih fun d hd=>hz d (ao _ hd))
  rcases h.block _ with h7 | ⟨h7,_⟩
  ·exact h7.trans h4
  ·exact absurd h7 (hz _ av _ rfl)
 | aM h1 h2 ih=>exact .aM (h1.shut h) (ih fun d hd=>hz d (ao _ hd))
theorem tu {F:Fence}{n:Nat}{P:Program}{fn:Func}{tmps:Array Value}{R:Ending→World→Prop}{u:FrameMode}(hu:u≠.run){O:Nat→Prop}{base:Nat}{μ:Mu}:
  ∀{ds:List Deferred}{w:World},gG O base w μ ds []→(∀w',gO (fun b=>¬O b∧base≤b) w w'→LeavesIn F n P fn tmps R [] u w')→LeavesInM F n P fn tmps R ds u w
 | [],w,_,K=>K w (gO.refl _ _)
 | d::ds,w,h,K=>by
  cases h with
  | mark h1 h2 h3 h4 h5 h6=>
   rename_i D
   refine⟨hu,.inl ⟨D,_,rfl,run_takeDeferred h4,?_⟩⟩
   have hs:gO (fun b=>¬O b∧base≤b) w (w.putObj D (.deferred none)):=gO.put _ ⟨h1,h2⟩ h4 rfl
   have hs1:gO (fun b=>b=D) w (w.putObj D (.deferred none)):=gO.put _ rfl h4 rfl
   refine tu hu (O:=O) (base:=base) (μ:=μ) (w:=w.putObj D (.deferred none)) (h6.shut hs1 fun d hd D' e e'=>h5 d hd (by rw[e,e'])) fun w' hw'=>K w' ⟨hw'.size.trans hs.size,fun b=>?_,hw'.os.trans hs.os,hw'.tape.trans hs.tape,hw'.output.trans hs.output⟩
   by_cases e:b=D
   ·subst e;exact .inr ⟨⟨h1,h2⟩,_,h4,rfl⟩
   ·rcases hw'.block b with h7 | ⟨h7,o,h8,h9⟩
    ·exact .inl (h7.trans (World.putObj_heap_other e))
    ·exact .inr ⟨h7,o,by rw[←World.putObj_heap_other (o:=.deferred none) e];exact h8,h9⟩
theorem cN.IA {cx:Cx}{μ:Mu}{st:List (Nat×ap)}{w w':World}(hr:cN cx μ st w) (h:gO (fun b=>¬cx.O st μ b∧cx.base≤b) w w'):cN cx μ st w':=
 hr.shut (w0:=cx.w0) h (fun x k b m h1 h2 _ y hy hz=>hz.1 (.inr ⟨x,k,b,m,h1,h2,hy⟩)) ⟨rfl,rfl,rfl⟩ fun b hb hA=>by
  rcases h.block b with h1 | ⟨⟨_,h1⟩,_⟩
  ·exact h1.trans (hr.cY b hb hA)
  ·omega
section
variable {P:Program}{N:Nat}{cx:Cx}{s:St}
theorem Nm {O:Nat→Prop}{base:Nat}{w:World}{μ:Mu}{gs:List G}{vs:List Value}(hl:vs.length=gs.length) (hr:∀(j:Nat) (g:G) (v:Value),gs[j]?=some g→vs[j]?=some v→aW O base w μ g v):
  aW O base w μ (pack gs) (if h:vs.toArray.size=1 then vs.toArray[0] else .tuple vs.toArray):=by
 match gs,vs,hl,hr with
 | [],[],_,hr=>exact .bj [] [] rfl hr
 | [g],[v],_,hr=>exact hr 0 g v rfl rfl
 | g::g'::gs,v::v'::vs,hl,hr=>
  rw[dif_neg (by simp)]
  exact .bj _ _ hl hr
theorem JR (fn:Func) (a:Act):results fn a.tmps=(do let vs ←fn.results.mapM (vn a);pure (if h:vs.size=1 then vs[0] else .tuple vs)):=rfl
theorem C0 {α:Type}(f:α→Sem Value) (xs:Array α) (w w':World) (vs:List Value) (h:(xs.toList.mapM f).run P w=.ok vs w'):(xs.mapM f).run P w=.ok vs.toArray w':=by
 rw[Array.mapM_eq_mapM_toList]
 simp[Sem.run_map,h]
theorem GP.of {f : FuncId} {fn : Func} {c : Code} {args : List G} {st : List (Nat × ap)} {Q : G → List (Nat × ap) → Prop} {Qp : List PanicEntry → List (Nat × ap) → Prop} (hf : P.funcs[f]? = some fn) (hb : fn.body = some c) (hN : fn.ntmps = N) (hle : Nat.ble args.length N = true)
    (h : ∀ cx, cx.ro = none → GW P N cx c (Rl P fn Q Qp) { fr := nF args 0, st := st, df := [] }) : GP P f args st Q Qp := by
  intro X μ w vs hX hst hl ha
  have hle := eV hle
  have hrel : Rel N (jr X st μ w) μ { fr := nF args 0, st := st, df := [] } { tmps := vs.toArray ++ Array.replicate (fn.ntmps - vs.toArray.size) undef, defers := [] } w := by
    refine { st := hst, nd := .nil, sz := by simp; omega, fr := fun t g hg => ?_ }
    obtain ⟨_, h2⟩ := Ad hg
    simp only [Nat.sub_zero] at h2
    have ht : t < vs.length := by have := (al.1 h2).1; omega
    refine ⟨vs[t], ?_, ha t g vs[t] h2 (ag ht)⟩
    rw [Array.getElem?_append_left (by simpa using ht)]
    simp [ht]
  refine xh.1 (callsIn_of_wp_marks (F := FF none) (n := 0) hf hb trivial ?_)
  refine wpIn_mono (h (jr X st μ w) rfl μ _ w hrel) fun e a' w' hl => ?_
  have fin : ∀ (μ' : Mu) (s' : St), Rel N (jr X st μ w) μ' s' a' w' → Rl P fn Q Qp e s' → (e = .ret ∨ e = .normal) → LeavesInM (FF none) 0 P fn a'.tmps (DQ X st μ w Q Qp) a'.defers .returning w' := by
    rintro μ' s' hr' hq he
    have hq : DP P fn Q e s' := by
      rcases hq with hq | ⟨c, h1, _⟩
      · exact hq
      · subst h1; rcases he with he | he <;> cases he
    obtain ⟨_, hdf, gs, r, st', h1, h2, h3, h4⟩ := hq
    have cP := hr'.nd
    rw [hdf] at cP
    refine tu (fun h => by cases h) cP fun w'' hs => ?_
    have hr'' : Rel N (jr X st μ w) μ' { s' with df := [] } { a' with defers := [] } w'' :=
      { st := hr'.st.IA hs, nd := .nil, sz := hr'.sz, fr := fun t g hg => let ⟨v, hv, hrv⟩ := hr'.fr t g hg; ⟨v, hv, hrv.shut hs⟩ }
    have h1' : zc P { s' with df := [] } fn.results.toList gs := by
      have : ({ s' with df := [] } : St) = s' := by cases s'; simp only at hdf; subst hdf; rfl
      rw [this]; exact h1
    obtain ⟨vs', hl', hvs, hrun⟩ := h1'.run hr''
    have hp := Nm hl' hvs
    refine ⟨_, ?_, .inl ⟨_, r, st', μ', rfl, h4, hr''.st.sub h2, Hp hr''.st (fun h k hk => ⟨k, h2.get hk⟩) hp h3⟩⟩
    have e1 : results fn a'.tmps = results fn ({ a' with defers := [] } : Act).tmps := rfl
    rw [e1, JR]
    simp only [Sem.run_bind, C0 _ _ _ _ _ hrun, Result.andThen_ok, Sem.run_pure]
  cases e with
  | normal => obtain ⟨μ', s', hr', hq⟩ := hl; exact fin μ' s' hr' hq (.inr rfl)
  | ret => obtain ⟨μ', s', hr', hq⟩ := hl; exact fin μ' s' hr' hq (.inl rfl)
  | panic ch =>
    obtain ⟨μ', s', hr', hq⟩ := hl
    have h1 := hr'.st
    have h2 := hr'.nd
    rcases hq with ⟨hq, _⟩ | ⟨c', h4, hdf, st', h5, h6⟩
    · rcases hq with hq | hq <;> cases hq
    · cases h4
      rw [hdf] at h2
      refine tu (fun h => by cases h) h2 fun w'' hs => ?_
      exact .inr ⟨_, st', μ', rfl, h6, (h1.IA hs).sub h5⟩
  | outgrown => exact hl.elim
  | exit id =>
    obtain ⟨μ', s', hr', hq⟩ := hl
    rcases hq with ⟨hq, _⟩ | ⟨c, hq, _⟩
    · rcases hq with hq | hq <;> cases hq
    · cases hq
  | goto l =>
    obtain ⟨μ', s', hr', hq⟩ := hl
    rcases hq with ⟨hq, _⟩ | ⟨c, hq, _⟩
    · rcases hq with hq | hq <;> cases hq
    · cases hq
theorem GM.of {f : FuncId} {fn : Func} {c : Code} {args : List G} {st : List (Nat × ap)} {Q : G → List (Nat × ap) → Prop} (hf : P.funcs[f]? = some fn) (hb : fn.body = some c) (hN : fn.ntmps = N) (hle : Nat.ble args.length N = true)
  (h : ∀ cx, cx.ro = none → GW P N cx c (DP P fn Q) { fr := nF args 0, st := st, df := [] }) : GM P f args st Q :=
 GP.of hf hb hN hle fun cx hro => (h cx hro).mono fun _ _ hq => .inl hq
def dU (f:G→Option G):List G→Option (List G)
 | []=>some []
 | g::r=>match f g,dU f r with
  | some g',some r'=>some (g'::r')
  | _,_=>none
theorem oD {f:G→Option G}:∀{gs gs':List G},dU f gs=some gs'→gs'.length=gs.length∧∀(j:Nat) (g':G),gs'[j]?=some g'→∃g,gs[j]?=some g∧f g=some g'
 | [],_,h=>by cases h;exact⟨rfl,fun j g h=>by simp at h⟩
 | g::r,gs',h=>by
  simp only[dU] at h
  cases h1:f g with
  | none=>rw[h1] at h;cases h
  | some g1=>
   rw[h1] at h
   cases h2:dU f r with
   | none=>rw[h2] at h;cases h
   | some r1=>
    rw[h2] at h
    cases h
    obtain⟨h3,h4⟩:=oD h2
    refine⟨by simp[h3],fun j g' hg'=>?_⟩
    cases j with
    | zero=>cases hg';exact⟨g,rfl,h1⟩
    | succ j=>exact h4 j g' hg'
def ix:Value→G
 | .slice none 0 0=>.sl 0 []
 | v=>.val v
theorem rp {O:Nat→Prop}{w:World}(v:Value):bA O w (ix v) v:=by
 unfold ix
 split
 ·exact .nil
 ·exact .val _
def view:Nat→List (Nat×ap)→G→Option G
 | 0,_,_=>none
 | n+1,st,g=>match g with
  | .val v=>some (ix v)
  | .sl n cs=>some (.sl n cs)
  | .ptr cs=>some (.ptr cs)
  | .fr g=>some g
  | .aO h sz off m=>match aq st h with
   | some k=>match k.lp with
    | some _=>none
    | none=>match k.pure with
     | true=>some (.sl m ((k.cells.drop off).take (m*sz)))
     | false=>match dU (view n st) ((k.cells.drop off).take (m*sz)) with
      | some cs=>some (.sl m cs)
      | none=>none
   | none=>none
  | .loc h off=>match aq st h with
   | some k=>match k.lp with
    | some _=>none
    | none=>match k.pure with
     | true=>some (.ptr (k.cells.drop off))
     | false=>match dU (view n st) (k.cells.drop off) with
      | some cs=>some (.ptr cs)
      | none=>none
   | none=>none
  | .agg gs=>match dU (view n st) gs with
   | some gs'=>some (.agg gs')
   | none=>none
  | .ks h i sz m=>bif Nat.beq m 0&&Nat.beq i iC then some (.sl 0 []) else match aq st h with
   | some k=>match k.lp with
    | some (.deep d)=>match d.row i with
     | some gs=>bif Nat.beq gs.length (m*sz) then some (.sl m gs) else none
     | none=>none
    | _=>none
   | none=>none
  | _=>none
theorem vZ {st:List (Nat×ap)}{O X:Nat→Prop}{base:Nat}{μ:Mu}{w:World}(hblk:∀h k,aq st h=some k→aN O base w μ k (μ h)) (hout:∀h k b m x,aq st h=some k→μ h=some (b,m)→In x b m→¬X x) (hXO:∀b,X b→O b):
  ∀(n:Nat){g g':G}{v:Value},aW O base w μ g v→view n st g=some g'→bA X w g' v
 | 0,_,_,_,_,h=>by cases h
 | n+1,g,g',v,hv,h=>by
  have hX:∀{g v},bA O w g v→bA X w g v:=fun h=>h.mono (Kept.refl _ _) fun b _ hn hx=>hn (hXO b hx)
  have cells:∀(hh off cnt:Nat) (k:ap) (b:Nat) (m:Mm) (cs:List G),aq st hh=some k→k.lp=none→μ hh=some (b,m)→(match k.pure with | true=>some ((k.cells.drop off).take cnt) | false=>dU (view n st) ((k.cells.drop off).take cnt))=some cs→
    ∃us:Nat→Value,¬X b∧b<w.heap.size∧(∀j,j<cs.length→w.cell? ⟨b,off+j,none⟩=some (us j))∧(∀(j:Nat) (g:G),cs[j]?=some g→bA X w g (us j))∧cs.length≤m.1-off:=by
   intro hh off cnt k b m cs hk hlp hm hcs
   have hb:=hblk hh k hk
   rw[hm] at hb
   obtain⟨vs,h1,h2,h3,h4,h5,h6⟩:=hb.cells hlp
   have rd:cs.length≤m.1-off∧∀(j:Nat) (g:G),cs[j]?=some g→∃v,vs[off+j]?=some v∧bA X w g v:=by
    cases hp:k.pure with
    | true=>
     rw[hp] at hcs
     cases hcs
     refine⟨by rw[aU,cp];omega,fun j g hg=>?_⟩
     rw[a9] at hg
     split at hg
     ·rw[bi] at hg
      obtain⟨v,hv,hrv⟩:=h6 _ g hg
      refine⟨v,hv,?_⟩
      unfold cv at hrv
      rw[hp] at hrv
      exact hX (hrv.flag (f':=false) (fun h=>by cases h))
     ·cases hg
    | false=>
     rw[hp] at hcs
     obtain⟨h7,h8⟩:=oD hcs
     refine⟨by rw[h7,aU,cp];omega,fun j g hg=>?_⟩
     obtain⟨g0,h9,h10⟩:=h8 j g hg
     rw[a9] at h9
     split at h9
     ·rw[bi] at h9
      obtain⟨v,hv,hrv⟩:=h6 _ g0 h9
      refine⟨v,hv,?_⟩
      unfold cv at hrv
      rw[hp] at hrv
      exact vZ hblk hout hXO n hrv h10
     ·cases h9
   refine⟨fun j=>vs.getD (off+j) undef,hout hh k b m b hk hm (.self _ _),dj h1,fun j hj=>?_,fun j g hg=>?_,rd.1⟩
   ·obtain⟨v,hv,_⟩:=rd.2 j _ (ag hj)
    rw[cell_of h1,hv]
    simp[hv]
   ·obtain⟨v,hv,hrv⟩:=rd.2 j g hg
    simpa[hv] using hrv
  cases g with
  | val u=>cases h;cases hv with | aF hv=>cases hv;exact rp _
  | sl m cs=>cases h;cases hv with | aF hv=>exact hX hv
  | ptr cs=>cases h;cases hv with | aF hv=>exact hX hv
  | fr g=>cases h;cases hv with
   | aF hv=>cases hv
   | fr hv=>exact hX hv.rD
  | aO hh sz off m=>
   simp only[view] at h
   cases hk:aq st hh with
   | none=>rw[hk] at h;cases h
   | some k=>
    rw[hk] at h
    dsimp only at h
    cases hlp:k.lp with
    | some lp=>rw[hlp] at h;cases h
    | none=>
    rw[hlp] at h
    dsimp only at h
    have key:∃cs,g'=.sl m cs∧(match k.pure with | true=>some ((k.cells.drop off).take (m*sz)) | false=>dU (view n st) ((k.cells.drop off).take (m*sz)))=some cs:=by
     cases hp:k.pure with
     | true=>rw[hp] at h;cases h;exact⟨_,rfl,rfl⟩
     | false=>
      rw[hp] at h
      dsimp only at h⊢
      cases hq:dU (view n st) ((k.cells.drop off).take (m*sz)) with
      | none=>rw[hq] at h;cases h
      | some cs=>rw[hq] at h;cases h;exact⟨_,rfl,rfl⟩
    obtain⟨cs,rfl,hcs⟩:=key
    have Kr:∀{cs},m*sz=0→(match k.pure with | true=>some ((k.cells.drop off).take (m*sz)) | false=>dU (view n st) ((k.cells.drop off).take (m*sz)))=some cs→cs=[]:=by
     intro cs h0 h
     rw[h0,List.take_zero] at h
     cases hp:k.pure with
     | true=>rw[hp] at h;cases h;rfl
     | false=>rw[hp] at h;cases h;rfl
    cases hv with
    | aF hv=>cases hv
    | eL _ _ hm=>
     rw[Kr (ep _) hcs]
     exact .nil
    | aO _ _ _ _ b m0 cap hm hn hc=>
     obtain⟨us,h1,h2,h3,h4,_⟩:=cells hh off (m*sz) k b m0 cs hk hlp hm hcs
     exact .sl m cs b off cap us hn h1 h2 h3 h4
    | dF _ _ off0 b _ hm hpos=>
     rw[Kr (ep _) hcs]
     obtain⟨us,h1,h2,_⟩:=cells hh off (0*sz) k b _ cs hk hlp hm hcs
     exact .sl 0 [] b off0 0 us (az _) h1 h2 (fun j hj=>by simp at hj) (fun j g hg=>by simp at hg)
  | loc hh off=>
   simp only[view] at h
   cases hk:aq st hh with
   | none=>rw[hk] at h;cases h
   | some k=>
    rw[hk] at h
    dsimp only at h
    cases hlp:k.lp with
    | some lp=>rw[hlp] at h;cases h
    | none=>
    rw[hlp] at h
    dsimp only at h
    have tk:(k.cells.drop off).take (k.cells.length)=k.cells.drop off:=b6 (by rw[cp];omega)
    have key:∃cs,g'=.ptr cs∧(match k.pure with | true=>some ((k.cells.drop off).take k.cells.length) | false=>dU (view n st) ((k.cells.drop off).take k.cells.length))=some cs:=by
     rw[tk]
     cases hp:k.pure with
     | true=>rw[hp] at h;cases h;exact⟨_,rfl,rfl⟩
     | false=>
      rw[hp] at h
      dsimp only at h⊢
      cases hq:dU (view n st) (k.cells.drop off) with
      | none=>rw[hq] at h;cases h
      | some cs=>rw[hq] at h;cases h;exact⟨_,rfl,rfl⟩
    obtain⟨cs,rfl,hcs⟩:=key
    cases hv with
    | aF hv=>cases hv
    | loc _ _ b m0 hm=>
     obtain⟨us,h1,h2,h3,h4,_⟩:=cells hh off _ k b m0 cs hk hlp hm hcs
     exact .ptr cs b off us h1 h2 h3 h4
  | agg gs=>
   simp only[view] at h
   cases hq:dU (view n st) gs with
   | none=>rw[hq] at h;cases h
   | some gs'=>
    rw[hq] at h
    cases h
    obtain⟨h1,h2⟩:=oD hq
    have key:∃us:List Value,v=.agg us.toArray∧us.length=gs.length∧∀(j:Nat) (g:G) (v:Value),gs[j]?=some g→us[j]?=some v→aW O base w μ g v:=by
     cases hv with
     | aF hv=>cases hv with
      | agg _ us hl hr=>exact⟨us,rfl,hl,fun j g v h1 h2=>.aF (hr j g v h1 h2)⟩
     | agg _ us hl hr=>exact⟨us,rfl,hl,hr⟩
    obtain⟨us,rfl,hl,hr⟩:=key
    refine .agg gs' us (by omega) fun j g v hg hv=>?_
    obtain⟨g0,h3,h4⟩:=h2 j g hg
    exact vZ hblk hout hXO n (hr j g0 v h3 hv) h4
  | ks hh i sz m=>
   simp only[view] at h
   cases hb0:Nat.beq m 0&&Nat.beq i iC with
   | true=>
    rw[hb0] at h
    cases h
    simp only[ai] at hb0
    have hm0:=aa hb0.1
    have hi0:=aa hb0.2
    subst hm0
    cases hv with
    | aF hv=>cases hv
    | gW _ _ _ x cap hi=>obtain⟨rfl,rfl⟩:=hi hi0;exact .nil
    | ks _ _ _ _ b m' c k cap hm hk hn hc=>exact .gM _ _
   | false=>
   rw[hb0,cond_false] at h
   cases hk:aq st hh with
   | none=>rw[hk] at h;cases h
   | some k=>
    rw[hk] at h
    dsimp only at h
    split at h
    ·rename_i d hl
     split at h
     ·rename_i gs hrow
      cases hlen:Nat.beq gs.length (m*sz) with
      | false=>rw[hlen] at h;cases h
      | true=>
       rw[hlen] at h
       cases h
       have hl0:=aa hlen
       cases hmu:μ hh with
       | none=>
        cases hv with
        | aF hv=>cases hv
        | gW _ _ _ x cap hi=>exact absurd (bl (by rw[hl0,ep])) (d.F5 hrow)
        | ks _ _ _ _ b m' c kk cap hm=>rw[hmu] at hm;cases hm
       | some bm=>
        obtain⟨b,mm⟩:=bm
        have hb:=hblk hh k hk
        rw[hmu] at hb
        have hφ:=((aN.deep hl).1 hb).1
        obtain⟨c,kk,cs,bM,h1,h2,h3⟩:=d.JO hφ hrow
        have hXi:∀{g v},bA (bif k.fresh then ey O base else O) w g v→bA X w g v:=fun {g v} h=>by
         cases hkf:k.fresh with
         | false=>rw[hkf] at h;exact hX h
         | true=>rw[hkf] at h;exact hX h.rD
        have hsl:∀cap,m≤cap→bA X w (.sl m gs) (.slice (some ⟨c,0,none⟩) m cap):=fun cap hcap=>
         .sl m gs c 0 cap (fun j=>cs.getD j undef) hcap (hout hh k b mm c hk hmu (.inr ⟨kk,ar h1⟩)) (dj h2) (fun j hj=>by
          obtain⟨v,hv,_⟩:=h3 j _ (ag hj)
          rw[cell_of h2,bQ,hv]
          simp[hv]) fun j g hg=>by
          obtain⟨v,hv,hrv⟩:=h3 j g hg
          have:=hXi hrv
          simpa[hv] using this
        cases hv with
        | aF hv=>cases hv
        | gW _ _ _ x cap hi=>exact absurd (bl (by rw[hl0,ep])) (d.F5 hrow)
        | ks _ _ _ _ b' m' c' kk' cap hm hk' hn hc=>
         rw[hmu] at hm
         cases hm
         rw[h1] at hk'
         cases hk'
         exact hsl cap hn
     ·cases h
    ·cases h
  | _=>cases h
theorem DS {st:List (Nat×ap)}{μ:Mu}{w:World}(hst:cN cx μ st w) (n:Nat){g g':G}{v:Value}(hv:aW (cx.O st μ) cx.base w μ g v) (h:view n st g=some g'):bA cx.X w g' v:=
 vZ hst.c8 (fun h k b m x h1 h2 h3=>(hst.bR h k b m x h1 h2 h3).1) (fun _ h=>.inl h) n hv h
def jG:G→Bool
 | .val _=>true
 | .fr _=>true
 | .agg gs=>go gs
 | .bj gs=>go gs
 | _=>false
where go:List G→Bool
 | []=>true
 | g::r=>jG g&&go r
theorem yD {gs:List G}(h:jG.go gs=true):∀(j:Nat) (g:G),gs[j]?=some g→jG g=true:=by
 induction gs with
 | nil=>intro j g hg;simp at hg
 | cons x r ih=>
  simp only[jG.go,ai] at h
  intro j g hg
  cases j with
  | zero=>cases hg;exact h.1
  | succ j=>exact ih h.2 j g hg
end
end Go.AM
/-
 AM,part M:calls of functions by their contracts.
-/
namespace Go.AM
def qU (n:Nat) (st:List (Nat×ap)):G→Option G
 | .aM f caps=>match dU (view n st) caps with
  | some c=>some (.aM f c)
  | none=>none
 | g=>view n st g
def tF (s:St):List Operand→Option (List G)
 | []=>some []
 | x::r=>match ev s x,tF s r with
  | some g,some gs=>some (g::gs)
  | _,_=>none
section
variable {P:Program}{N:Nat}{cx:Cx}{s:St}
theorem ma:∀{xs:List Operand}{gs:List G},tF s xs=some gs→gs.length=xs.length∧∀(j:Nat) (g:G),gs[j]?=some g→∃x,xs[j]?=some x∧ev s x=some g
 | [],_,h=>by cases h;exact⟨rfl,fun j g h=>by simp at h⟩
 | x::r,gs,h=>by
  simp only[tF] at h
  cases h1:ev s x with
  | none=>rw[h1] at h;cases h
  | some g1=>
   rw[h1] at h
   cases h2:tF s r with
   | none=>rw[h2] at h;cases h
   | some r1=>
    rw[h2] at h
    cases h
    obtain⟨h3,h4⟩:=ma h2
    refine⟨by simp[h3],fun j g' hg'=>?_⟩
    cases j with
    | zero=>cases hg';exact⟨x,rfl,h1⟩
    | succ j=>exact h4 j g' hg'
theorem Jx {O:Nat→Prop}{base:Nat}{st:List (Nat×ap)}{μ μ':Mu}{w:World}(hst:cN cx μ st w) (n:Nat){g g':G}{v:Value}(hv:aW (cx.O st μ) cx.base w μ g v) (h:qU n st g=some g')
  (hO:∀b,b<w.heap.size→¬cx.X b→¬O b):aW O base w μ' g' v:=by
 have up:∀{g v},bA cx.X w g v→aW O base w μ' g v:=fun h=>.aF (h.mono (Kept.refl _ _) hO)
 cases g with
 | aM f caps=>
  simp only[qU] at h
  cases hq:dU (view n st) caps with
  | none=>rw[hq] at h;cases h
  | some c=>
   rw[hq] at h
   cases h
   obtain⟨h1,h2⟩:=oD hq
   cases hv with
   | aF hv=>cases hv
   | aM _ _ us hl hr=>
    refine .aM f c us (by omega) fun j g v hg hv=>?_
    obtain⟨g0,h3,h4⟩:=h2 j g hg
    exact up (DS hst n (hr j g0 v h3 hv) h4)
 | _=>exact up (DS hst n hv h)
theorem cN.kept {μ:Mu}{st:List (Nat×ap)}{w w':World}(h:cN cx μ st w) (hsz:w.heap.size≤w'.heap.size) (hb:∀b,b<w.heap.size→w'.heap[b]?=w.heap[b]?) (hos:w'.os=w.os) (htape:w'.tape=w.tape) (hout:w'.output=w.output):cN cx μ st w':=by
 have hk:∀O,Kept O w w':=fun O=>⟨hsz,fun b h _=>hb b h⟩
 refine {c8:=?_,cz:=h.cz,bR:=fun x k b m y h1 h2 h3=>let ⟨a1,a2,a3,a4⟩:=h.bR x k b m y h1 h2 h3;⟨a1,a2,bU a3 hsz,a4⟩,dZ:=h.dZ,dY:=h.dY,hb:=cH h.hb hsz,os:=hos.trans h.os,tape:=htape.trans h.tape,output:=hout.trans h.output,cY:=fun b h1 h2=>?_}
 ·intro x k hx
  exact(h.c8 x k hx).mono (fun b m hm y hy=>hb y (h.bR x k b m y hx hm hy).2.2.1) (hk _) (fun _ _ h=>h)
 ·rw[hb b (by have:=h.hb;omega)];exact h.cY b h1 h2
theorem Rel.kept {μ:Mu}{a:Act}{w w':World}(h:Rel N cx μ s a w) (hsz:w.heap.size≤w'.heap.size) (hb:∀b,b<w.heap.size→w'.heap[b]?=w.heap[b]?) (hos:w'.os=w.os) (htape:w'.tape=w.tape) (hout:w'.output=w.output):Rel N cx μ s a w':=
 {st:=h.st.kept hsz hb hos htape hout,nd:=h.nd.mono ⟨hsz,fun b h _=>hb b h⟩ (fun _ _ h=>h),sz:=h.sz,fr:=fun t g hg=>let ⟨v,hv,hr⟩:=h.fr t g hg;⟨v,hv,hr.mono ⟨hsz,fun b h _=>hb b h⟩ (fun _ _ h=>h) (az _)⟩}
theorem oc {μ:Mu}{st:List (Nat×ap)}{w:World}(h:cN cx μ st w){b:Nat}(ho:Own st μ b):b<w.heap.size:=by
 obtain⟨x,k,c,m,h1,h2,h3⟩:=ho
 exact(h.bR x k c m b h1 h2 h3).2.2.1
theorem ye {X:Nat→Prop}{μ:Mu}{w:World}(hX:∀b,X b→b<w.heap.size):cN (jr X [] μ w) μ [] w:=
 {c8:=fun _ _ h=>(by cases h),cz:=fun _ _ _ _ _ _ _ _ _ h=>(by cases h),bR:=fun _ _ _ _ _ h=>(by cases h),dZ:=fun _ _ h=>(by cases h),dY:=hX,hb:=az _,os:=rfl,tape:=rfl,output:=rfl,cY:=fun _ _ _=>rfl}
theorem sO {μ:Mu}{b:Nat}:¬Own [] μ b:=fun ⟨_,_,_,_,h,_⟩=>by cases h
variable {ty:TypeId}{pos:String}{after:Array Edge}{guard:Option (Nat×Bool)}{W:List Nat}{d:Nat}
theorem EJ {f:FuncId}{vs:List Value}{gs gs':List G}{Q:G→List (Nat×ap)→Prop}(n:Nat){μ:Mu}{a:Act}{w:World}(hr:Rel N cx μ s a w) (hv:dU (qU n s.st) gs=some gs')
  (hvs:vs.length=gs.length) (hrep:∀(j:Nat) (g:G) (v:Value),gs[j]?=some g→vs[j]?=some v→aW (cx.O s.st μ) cx.base w μ g v)
  (hcon:GM P f gs' [] Q) (hres:∀r st',Q r st'→jG r=true):
  Calls P f vs.toArray w fun e w'=>∃v r st',e=.returned v∧Q r st'∧Rel N cx μ s a w'∧aW (cx.O s.st μ) cx.base w' μ r v∧Step W s.st μ s.st μ w w':=by
 obtain⟨h1,h2⟩:=oD hv
 have hX:∀b,cx.X b→b<w.heap.size:=fun b hb=>by have:=hr.st.dY b hb;have:=hr.st.hb;omega
 refine(hcon.returned cx.X (fun _=>none) w vs hX (ye hX) (by omega) fun j g v hg hv=>?_).mono ?_
 ·obtain⟨g0,h3,h4⟩:=h2 j g hg
  exact Jx hr.st n (hrep j g0 v h3 hv) h4 fun b _ hn ho=>ho.elim hn sO
 ·rintro e w' ⟨v,r,st',μ',rfl,hq,hst,hrv⟩
  have hkeep:∀b,b<w.heap.size→w'.heap[b]?=w.heap[b]?:=fun b hb=>hst.cY b hb sO
  refine⟨v,r,st',rfl,hq,hr.kept hst.hb hkeep hst.os hst.tape hst.output,?_,⟨hst.hb,fun b hb _=>hkeep b hb,fun h k c m b hw h1 h2 hi=>.inl ⟨h,k,c,m,hw,h1,h2,hi⟩⟩⟩
  have hf:=hres r st' hq
  have hb:=hr.st.hb
  have hxl:=hr.st.dY
  have hol:∀b,Own s.st μ b→b<w.heap.size:=fun b ho=>oc hr.st ho
  generalize hO:(jr cx.X [] (fun _=>none) w).O st' μ'=O at hrv
  have aF:∀{g:G}{v:Value},bA O w' g v→jG g=true→aW (cx.O s.st μ) cx.base w' μ g v:=by
   intro g v h
   induction h with
   | any v=>intro hf;cases hf
   | val v=>intro _;exact .aF (.val v)
   | nil=>intro hf;cases hf
   | gM _ _=>intro hf;cases hf
   | sl _ _ _ _ _ _ _ _ _ _ _=>intro hf;cases hf
   | ptr _ _ _ _ _ _ _ _=>intro hf;cases hf
   | agg cells us hl hr ih=>intro hf;exact .agg cells us hl fun j g v hg hv=>ih j g v hg hv (yD hf j g hg)
  clear hq
  induction hrv with
  | aF h=>exact aF h hf
  | fr h=>
   refine .fr (h.mono (Kept.refl _ _) ?_)
   rintro b hb1 hn (ho | ho | ho)
   ·exact hn (.inl (by show b<w.heap.size;omega))
   ·exact hn (.inl (by have:=hxl b ho;show b<w.heap.size;omega))
   ·exact hn (.inl (hol b ho))
  | agg cells us hl hr ih=>exact .agg cells us hl fun j g v hg hv=>ih j g v hg hv (yD hf j g hg)
  | bj cells us hl hr ih=>exact .bj cells us hl fun j g v hg hv=>ih j g v hg hv (yD hf j g hg)
  | _=>cases hf
theorem EF.call {f:FuncId}{xs:Array Operand}{ts:Array TypeId}{gs gs':List G}{Q:G→List (Nat×ap)→Prop}(n:Nat) (hc:∀args w,(callFunc f args).run P w=.ok (.enter f args) w)
  (hx:tF s xs.toList=some gs) (hv:dU (qU n s.st) gs=some gs') (hcon:GM P f gs' [] Q) (hres:∀r st',Q r st'→jG r=true):
  bH P W s ⟨some d,.call ⟨.value (.func f),xs,ts⟩,ty,pos,after,guard⟩ (fun s'=>∃r st',Q r st'∧s'=s.put d r):=by
 refine⟨(fun _ h=>by cases h),?_⟩
 intro N cx μ a w hr hN K Q' hK
 obtain⟨h1,h2⟩:=ma hx
 have hcall:=EJ (vs:=xs.toList.map a.eval) (W:=W) n hr hv (by simp[h1]) (fun j g v hg hv=>by
  obtain⟨x,hxj,he⟩:=h2 j g hg
  rw[ay,hxj] at hv
  cases hv
  exact hr.ev he) hcon hres
 unfold Oper.wp
 have:(execOp a.eval ⟨some d,.call ⟨.value (.func f),xs,ts⟩,ty,pos,after,guard⟩).run P w=.ok (.enter f (xs.toList.map a.eval).toArray) w:=by
  have e:xs.map a.eval=(xs.toList.map a.eval).toArray:=by rw[←eg]
  simp[execOp,resolve,invoke,Deferred.ofValue,Act.eval,hc,e]
 rw[this]
 refine hcall.mono ?_
 rintro e w' ⟨v,r,st',rfl,hq,hr',hrv,hst⟩
 exact hK μ _ _ w' (hr'.put (hN d rfl) hrv) ⟨r,st',hq,rfl⟩ hst
theorem EF.RL {f:FuncId}{x:Operand}{xs:Array Operand}{ts:Array TypeId}{gs caps gs':List G}{Q:G→List (Nat×ap)→Prop}(n:Nat) (hc:∀args w,(callFunc f args).run P w=.ok (.enter f args) w)
  (hf:ev s x=some (.aM f caps)) (hx:tF s xs.toList=some gs) (hv:dU (qU n s.st) (gs++caps)=some gs') (hcon:GM P f gs' [] Q) (hres:∀r st',Q r st'→jG r=true):
  bH P W s ⟨some d,.call ⟨.value x,xs,ts⟩,ty,pos,after,guard⟩ (fun s'=>∃r st',Q r st'∧s'=s.put d r):=by
 refine⟨(fun _ h=>by cases h),?_⟩
 intro N cx μ a w hr hN K Q' hK
 obtain⟨h1,h2⟩:=ma hx
 have hcl:=hr.ev hf
 generalize hav:a.eval x=vf at hcl
 cases hcl with
 | aF h=>cases h
 | aM _ _ us hl hrc=>
  have hcall:=EJ (vs:=xs.toList.map a.eval++us) (W:=W) n hr hv (by simp[h1,hl]) (fun j g v hg hv=>by
   rw[a8] at hg hv
   rw[a5,←h1] at hv
   split at hg
   ·rename_i hj
    rw[if_pos hj] at hv
    obtain⟨x,hxj,he⟩:=h2 j g hg
    rw[ay,hxj] at hv
    cases hv
    exact hr.ev he
   ·rename_i hj
    rw[if_neg hj] at hv
    exact hrc _ g v hg hv) hcon hres
  unfold Oper.wp
  have:(execOp a.eval ⟨some d,.call ⟨.value x,xs,ts⟩,ty,pos,after,guard⟩).run P w=.ok (.enter f (xs.toList.map a.eval++us).toArray) w:=by
   have e:xs.map a.eval++us.toArray=(xs.toList.map a.eval++us).toArray:=by rw[←nS,←eg]
   simp[execOp,resolve,invoke,Deferred.ofValue,hav,hc,e]
  rw[this]
  refine hcall.mono ?_
  rintro e w' ⟨v,r,st',rfl,hq,hr',hrv,hst⟩
  exact hK μ _ _ w' (hr'.put (hN d rfl) hrv) ⟨r,st',hq,rfl⟩ hst
end
end Go.AM
/-
 AM,part N:the steps in the form in which a walk takes them;encodings.
-/
namespace Go.AM
section
variable {P:Program}{N:Nat}{cx:Cx}{Q:Exit→St→Prop}{s:St}{ops:Array Oper}{rest:List Oper}
variable {d:Nat}{op:Op}{ty:TypeId}{pos:String}{after:Array Edge}{guard:Option (Nat×Bool)}
theorem GL.y {g:G}(hy:fw P [] s ⟨some d,op,ty,pos,after,guard⟩ g) (hw:cV ops s guard=some true) (hN:Nat.blt d N=true) (h:GL P N cx ops Q rest (s.put d g)):
  GL P N cx ops Q (⟨some d,op,ty,pos,after,guard⟩::rest) s:=GL.yield hw rfl (by simpa[fS] using hN) hy h
theorem GL.e {W:List Nat}{T:St→Prop}(he:bH P W s ⟨some d,op,ty,pos,after,guard⟩ T) (hw:cV ops s guard=some true) (hN:Nat.blt d N=true) (h:∀s',T s'→GL P N cx ops Q rest s'):
  GL P N cx ops Q (⟨some d,op,ty,pos,after,guard⟩::rest) s:=GL.effect hw (fun d' e=>by cases e;simpa[fS] using hN) he h
theorem GL.e1 {W:List Nat}{s1:St}(he:bH P W s ⟨some d,op,ty,pos,after,guard⟩ (·=s1)) (hw:cV ops s guard=some true) (hN:Nat.blt d N=true) (h:GL P N cx ops Q rest s1):
  GL P N cx ops Q (⟨some d,op,ty,pos,after,guard⟩::rest) s:=GL.e he hw hN fun _ e=>e▸h
theorem GL.e0 {W:List Nat}{s1:St}(he:bH P W s ⟨none,op,ty,pos,after,guard⟩ (·=s1)) (hw:cV ops s guard=some true) (h:GL P N cx ops Q rest s1):
  GL P N cx ops Q (⟨none,op,ty,pos,after,guard⟩::rest) s:=GL.effect hw (fun d' e=>by cases e) he fun _ e=>e▸h
theorem GL.no (hw:cV ops s guard=some false) (h:GL P N cx ops Q rest {s with fr:=del s.fr d}):
  GL P N cx ops Q (⟨some d,op,ty,pos,after,guard⟩::rest) s:=GL.pass hw h
end
def ints (l:List Int):List G:=l.map fun n=>.val (.int .i64 n)
@[simp] theorem Rn (l:List Int):(ints l).length=l.length:=by simp[ints]
end Go.AM
/-
 AM,part O:data as Lean data:encodings;loops and joins as partial functions.
-/
namespace Go.AM
inductive Ex (β γ:Type) where
 | dS (b:β)
 | ret (r:γ)
def eR {β γ ο:Type}(inj:γ→ο) (m:Option (Ex β γ)) (k:β→Option ο):Option ο:=
 match m with
 | some (.dS b)=>k b
 | some (.ret r)=>some (inj r)
 | none=>none
def aB {σ ρ:Type}(body:σ→Option (σ⊕ρ)):Nat→σ→Option ρ
 | 0,_=>none
 | n+1,x=>match body x with
  | some (.inl x')=>aB body n x'
  | some (.inr r)=>some r
  | none=>none
def idx {α:Type}(l:List α) (i:Int):Option α:=if 0≤i then l[i.toNat]? else none
def Ow (l:ByteArray) (i:Int):Option UInt8:=if 0≤i then l[i.toNat]? else none
theorem MP {l:ByteArray}{i:Int}{x:UInt8}(h:Ow l i=some x):0≤i∧l[i.toNat]?=some x:=by
 unfold Ow at h
 split at h
 ·rename_i h0;exact⟨h0,h⟩
 ·cases h
def bq (p:Prop) [Decidable p]:Option Unit:=if p then some () else none
theorem tw {α:Type}{l:List α}{i:Int}{x:α}(h:idx l i=some x):0≤i∧i<(l.length:Int)∧l[i.toNat]?=some x:=by
 unfold idx at h
 split at h
 ·rename_i h0
  have:=(al.1 h).1
  exact⟨h0,by omega,h⟩
 ·cases h
theorem cj {p:Prop}[Decidable p]{u:Unit}(h:bq p=some u):p:=by
 unfold bq at h
 split at h
 ·assumption
 ·cases h
theorem bind_some {α β:Type}{m:Option α}{k:α→Option β}{r:β}(h:m.bind k=some r):∃x,m=some x∧k x=some r:=Option.bind_eq_some_iff.1 h
theorem CF {β γ ο:Type}{inj:γ→ο}{m:Option (Ex β γ)}{k:β→Option ο}{r:ο}(h:eR inj m k=some r):∃e,m=some e∧(∀b,e=.dS b→k b=some r)∧(∀r',e=.ret r'→inj r'=r):=by
 unfold eR at h
 split at h
 ·exact⟨_,rfl,fun b e=>(by cases e;exact h),fun r' e=>(by cases e)⟩
 ·exact⟨_,rfl,fun b e=>(by cases e),fun r' e=>(by cases e;cases h;rfl)⟩
 ·cases h
section
variable {P:Program}{N:Nat}{cx:Cx}{Q:Exit→St→Prop}
def QB {β:Type}(ke:Exit) (E:β→St) (b:β) (ex:Exit) (s:St):Prop:=ex=ke∧Sub s (E b)
def QL {σ ρ:Type}(E:σ→St) (R:ρ→Exit→St→Prop):σ⊕ρ→Exit→St→Prop
 | .inl x,ex,s=>ex=.normal∧Sub s (E x)
 | .inr r,ex,s=>ex≠.normal∧R r ex s
theorem GW.aB {σ ρ:Type}{c:Code}(E:σ→St) (R:ρ→Exit→St→Prop){body:σ→Option (σ⊕ρ)}{n:Nat}{x0:σ}{e:ρ}(hl:AM.aB body n x0=some e)
  (hr:∀x o,body x=some o→GW P N cx c (QL E R o) (E x)) (hq:∀ex s,ex≠.normal→R e ex s→Q ex s):GW P N cx (.loop c) Q (E x0):=by
 let Step:Nat→σ→Prop:=fun k x=>AM.aB body k x=some e
 refine(GW.loop (P:=P) (N:=N) (cx:=cx) (Q:=Q) (σ:=Nat×σ) (fun x=>E x.2) (fun x=>Step x.1 x.2) (fun x=>x.1) (n,x0) hl ?_)
 rintro⟨k,x⟩ hI
 cases k with
 | zero=>exact absurd hI (by simp[Step,AM.aB])
 | succ k=>
  simp only[Step,AM.aB] at hI
  cases hb:body x with
  | none=>rw[hb] at hI;cases hI
  | some o=>
   rw[hb] at hI
   refine(hr x o hb).mono fun ex s hx=>?_
   cases o with
   | inl x'=>
    obtain⟨rfl,hs⟩:=hx
    exact⟨(k,x'),hI,jQ k,hs⟩
   | inr r=>
    cases hI
    obtain⟨h1,h2⟩:=hx
    have:=hq ex s h1 h2
    cases ex <;> first | exact absurd rfl h1 | exact this
theorem QB.mk {β:Type}{ke:Exit}{E:β→St}{b:β}{s:St}(h:Sub s (E b)):QB ke E b ke s:=⟨rfl,h⟩
theorem DP.mk {fn:Func}{Qf:G→List (Nat×ap)→Prop}{s:St}{e:Exit}(he:e=.ret∨e=.normal) (gs:List G) (r:G) (st':List (Nat×ap)) (h1:zc P s fn.results.toList gs) (h2:kj s.st st') (h3:iT s.st st' (pack gs)=some r) (h4:Qf r st') (hdf:s.df=[]:=by rfl):DP P fn Qf e s:=
 ⟨he,hdf,gs,r,st',h1,h2,h3,h4⟩
theorem GW.join {x y:Code}{s:St}{o:Exit→St→Prop}(h1:GW P N cx x o s) (h2:∀ex s',o ex s'→K0 (GW P N cx y Q) Q ex s'):GW P N cx (.seq x y) Q s:=
 GW.seq (h1.mono h2)
end
def zW (n:Int):Prop:=-9223372036854775808≤n∧n≤9223372036854775807
def RR (s:ByteArray):Prop:=s.size≤9223372036854775807
def QH {α:Type}(ok:α→Prop) (l:List α):Prop:=l.length≤9223372036854775807∧∀x∈l,ok x
class aJ (α:Type) where
 sz:Nat
 cells:α→List G
 len:∀a,(cells a).length=sz
 pos:0<sz
 one:∀a g,g∈cells a→g.one=true
def cX {α:Type}[aJ α] (l:List α):List G:=l.flatMap aJ.cells
instance:aJ Int:=⟨1,fun n=>[.val (.int .i64 n)],fun _=>rfl,by decide,fun a g h=>by simp at h;subst h;rfl⟩
instance:aJ Bool:=⟨1,fun n=>[.val (.bool n)],fun _=>rfl,by decide,fun a g h=>by simp at h;subst h;rfl⟩
instance:aJ ByteArray:=⟨1,fun n=>[.val (.string n)],fun _=>rfl,by decide,fun a g h=>by simp at h;subst h;rfl⟩
instance {α:Type}[aJ α]:aJ (List α):=⟨1,fun l=>[.sl l.length (cX l)],fun _=>rfl,by decide,fun a g h=>by simp at h;subst h;rfl⟩
section
variable {α:Type}[aJ α]
theorem eO (l:List α):(cX l).length=l.length*aJ.sz α:=by
 unfold cX
 induction l with
 | nil=>simp
 | cons x r ih=>rw[cn,aj,ih,aJ.len,bN,dA];omega
theorem N7 (l:List α):∀g,g∈cX l→g.one=true:=by
 intro g hg
 obtain⟨a,_,h⟩:=g7.1 hg
 exact aJ.one a g h
theorem oK {l:List α}{i:Nat}{x:α}(h:l[i]?=some x){j:Nat}(hj:j<aJ.sz α):(cX l)[i*aJ.sz α+j]?=(aJ.cells x)[j]?:=by
 unfold cX
 rw[og aJ.cells (aJ.sz α) aJ.pos l (fun a _=>aJ.len a)]
 have h1:(i*aJ.sz α+j)/aJ.sz α=i:=by
  rw[jH,Nat.mul_add_div aJ.pos,Nat.div_eq_of_lt hj];rfl
 have h2:(i*aJ.sz α+j)%aJ.sz α=j:=by
  rw[jH,Nat.mul_add_mod,Nat.mod_eq_of_lt hj]
 rw[h1,h2,h]
 rfl
theorem EV {l:List α}{i:Nat}{x:α}(h:l[i]?=some x){j:Nat}(hj:j<aJ.sz α):((cX l).drop (i*aJ.sz α))[j]?=(aJ.cells x)[j]?:=by
 rw[bi];exact oK h hj
theorem Am (l m:List α):cX (l++m)=cX l++cX m:=by simp[cX]
theorem MB (x:α) (l:List α):cX (x::l)=aJ.cells x++cX l:=rfl
theorem yK (l:List α) (n:Nat):(cX l).take (n*aJ.sz α)=cX (l.take n):=by
 unfold cX
 induction l generalizing n with
 | nil=>simp
 | cons x r ih=>
  cases n with
  | zero=>simp
  | succ n=>
   rw[List.take_succ_cons,cn,cn,List.take_append,aJ.len,←ih n]
   have h1:(n+1)*aJ.sz α-aJ.sz α=n*aJ.sz α:=by rw[dA];omega
   rw[h1,b6 (by rw[aJ.len,dA];omega)]
theorem yL (l:List α) (n:Nat):(cX l).drop (n*aJ.sz α)=cX (l.drop n):=by
 unfold cX
 induction l generalizing n with
 | nil=>simp
 | cons x r ih=>
  cases n with
  | zero=>simp
  | succ n=>
   rw[List.drop_succ_cons,cn,List.drop_append,aJ.len,←ih n]
   have h1:(n+1)*aJ.sz α-aJ.sz α=n*aJ.sz α:=by rw[dA];omega
   rw[h1,List.drop_of_length_le (by rw[aJ.len,dA];omega),dc]
theorem N6 {l:List α}{i:Nat}{x:α}{g:G}(hx:aJ.cells x=[g]) (h1:aJ.sz α=1):(cX l).set (0+i*1) g=cX (l.set i x):=by
 rw[bQ,dX]
 unfold cX
 induction l generalizing i with
 | nil=>rfl
 | cons y r ih=>
  obtain⟨z,hz⟩:=List.length_eq_one_iff.1 ((aJ.len y).trans h1)
  cases i with
  | zero=>simp[hz,hx]
  | succ i=>simp only[List.set_cons_succ,cn,hz,bx,dc,ih]
end
end Go.AM
/-
 AM,part P:the steps dz encoded data.
-/
namespace Go.AM
section
variable {α:Type}[aJ α]
variable {P:Program}{N:Nat}{cx:Cx}{s:St}{W:List Nat}
variable {dst:Option Tmp}{ty:TypeId}{pos:String}{after:Array Edge}{guard:Option (Nat×Bool)}
theorem Jk {l:List α}{i:Int}{x:α}(h:idx l i=some x){j:Nat}{g:G}(hg:(aJ.cells x)[j]?=some g):(cX l)[i.toNat*aJ.sz α+j]?=some g:=by
 have hj:j<aJ.sz α:=by have:=(al.1 hg).1;rw[aJ.len] at this;exact this
 rw[oK (tw h).2.2 hj];exact hg
theorem YT.gF {l:List α}{i:Int}{x:α}{t:TypeId}{xo:Operand}{g:G}(hx:ev s xo=some (.ptr ((cX l).drop (i.toNat*aJ.sz α)))) (h:idx l i=some x) (hg:(aJ.cells x)[0]?=some g) (hag:∀w,(isAgg t).run P w=.ok false w):
  fw P W s ⟨dst,.load t xo,ty,pos,after,guard⟩ g:=YL.ptr hx (by rw[bi];exact Jk h hg) hag
theorem A7 {l:List α}{i:Int}{x:α}(h:idx l i=some x):((cX l).drop (i.toNat*aJ.sz α)).take (aJ.sz α)=aJ.cells x:=by
 apply kA
 intro j
 rw[a9]
 split
 ·rename_i hj
  exact EV (tw h).2.2 hj
 ·rename_i hj
  rw[List.getElem?_eq_none]
  rw[aJ.len];omega
theorem YT.agg {l:List α}{i:Int}{x:α}{t:TypeId}{xo:Operand}(hx:ev s xo=some (.ptr ((cX l).drop (i.toNat*aJ.sz α)))) (h:idx l i=some x) (hag:∀w,(isAgg t).run P w=.ok true w)
  (hsz:∀w,(sizeOf t).run P w=.ok (aJ.sz α) w):fw P W s ⟨dst,.load t xo,ty,pos,after,guard⟩ (.agg (aJ.cells x)):=by
 have:=YL.LN (P:=P) (W:=W) (dst:=dst) (ty:=ty) (pos:=pos) (after:=after) (guard:=guard) hx (sz:=aJ.sz α) (by
  rw[cp,eO]
  have h1:=(al.1 (tw h).2.2).1
  have:(i.toNat+1)*aJ.sz α≤l.length*aJ.sz α:=b5 _ h1
  rw[dA] at this
  omega) hag hsz
 rw[A7 h] at this
 exact this
theorem YT.own {l:List α}{i:Int}{x:α}{t h:Nat}{k:ap}{xo:Operand}{g g':G}(hx:ev s xo=some (.loc h (0+i.toNat*aJ.sz α))) (hk:aq s.st h=some k) (hc:k.cells=cX l) (hi:idx l i=some x) (hg:(aJ.cells x)[0]?=some g)
  (hag:∀w,(isAgg t).run P w=.ok false w) (hW:W.contains h=false) (hout:k.out g=g') (hlp:k.lp=none:=by rfl):fw P W s ⟨dst,.load t xo,ty,pos,after,guard⟩ g':=
 YL.load hx hk (by rw[hc,bQ];exact Jk hi hg) hag hW hout hlp
variable {d:Nat}
theorem ET.set {l:List α}{i:Int}{x:α}{t h:Nat}{k:ap}{xo yo:Operand}{g g':G}{f:Bool}(hx:ev s xo=some (.loc h (0+i.toNat*1))) (hy:ev s yo=some g) (hk:aq s.st h=some k) (hc:k.cells=cX l) (hp:k.pure=true)
  (hi:AZ g=some (g',f)) (hone:g.one=true) (he:aJ.cells x=[g']) (h1:aJ.sz α=1) (h0:0≤i) (hn:i<(l.length:Int)) (hsz:∀w,(sizeOf t).run P w=.ok 1 w) (hW:W.contains h=true) (hlp:k.lp=none:=by rfl):
  bH P W s ⟨none,.store t xo yo,ty,pos,after,guard⟩ (·={fr:=s.fr,st:=bw s.st h {k with fresh:=k.fresh&&f,cells:=cX (l.set i.toNat x)},df:=s.df}):=by
 have:=EF.Qm (P:=P) (W:=W) (ty:=ty) (pos:=pos) (after:=after) (guard:=guard) hx hy hk hp hi hone hsz (by rw[hc,eO,h1];omega) hW hlp
 rw[hc,N6 he h1] at this
 exact this
theorem ET.append {l m:List α}{t e:TypeId}{xo yo:Operand}{h bt:Nat}{k:ap}{gy:G}{f:Bool}{z:Value}(hx:ev s xo=some (.aO h (aJ.sz α) 0 l.length)) (hy:ev s yo=some gy) (hk:aq s.st h=some k) (hc:k.cells=cX l)
  (hp:k.pure=true) (hety:k.bM=e) (hksz:k.sz=aJ.sz α) (hsrc:oF s.st (aJ.sz α) gy=some (cX m,m.length,f)) (hap:gy.b7 h=false) (ht:P.underlying t=some (.slice e))
  (hi:(P.info? e).map (fun i=>(i.zero,i.size,i.bytes))=some (some z,aJ.sz α,bt)) (hzs:z.cells.size=aJ.sz α) (tz:l.length+m.length≤maxLen) (hbound:(l.length+m.length)*bt≤140737488355328) (hW:W.contains h=true) (hlp:k.lp=none:=by rfl) (hpn:pinned h=false:=by rfl) (hdf:pT h s.df=true:=by rfl):
  bH P W s ⟨some d,.call ⟨.builtin .append,#[xo,yo],#[t,t]⟩,ty,pos,after,guard⟩
   (·={fr:=(d,.aO h (aJ.sz α) 0 (l++m).length)::mX h s.fr,st:=(h,{k with fresh:=k.fresh&&f,cells:=cX (l++m)})::gn h s.st,df:=s.df}):=by
 have:=EF.append (P:=P) (d:=d) (W:=W) (ty:=ty) (pos:=pos) (after:=after) (guard:=guard) hx hy hk hp hety hksz (by rw[hc,eO]) hsrc (by rw[eO]) (fun g hg=>N7 m g hg) hap ht hi hzs aJ.pos tz hbound hW hlp hpn hdf
 rw[Am,aj,←hc]
 exact this
end
end Go.AM
/-
 AM,part Q:a slot whose value is known;two loads of which either may come up first.
-/
namespace Go.AM
section
variable {P:Program}{N:Nat}{cx:Cx}{Q:Exit→St→Prop}{s:St}{ops:Array Oper}{rest:List Oper}
theorem Rel.dup {μ:Mu}{a:Act}{w:World}{t:Nat}{g:G}(hr:Rel N cx μ s a w) (hg:get s.fr t=some g):Rel N cx μ {fr:=(t,g)::s.fr,st:=s.st,df:=s.df} a w:=
 {st:=hr.st,nd:=hr.nd,sz:=hr.sz,fr:=fun t' g' h=>by
   simp only[get] at h
   cases e:t.beq t' with
   | true=>
    rw[e,cond_true] at h
    cases h
    have e:=aa e
    subst e
    exact hr.fr _ _ hg
   | false=>
    rw[e,cond_false] at h
    exact hr.fr _ _ h}
theorem GL.lit (t:Nat){b v:Bool}(hg:get s.fr t=some (.val (.bool b))) (hb:b=v) (h:GL P N cx ops Q rest {fr:=(t,.val (.bool v))::s.fr,st:=s.st,df:=s.df}):GL P N cx ops Q rest s:=fun μ a w hr=>by
 subst hb
 exact h μ a w (hr.dup hg)
theorem GW.lit {c:Code}(t:Nat){b v:Bool}(hg:get s.fr t=some (.val (.bool b))) (hb:b=v) (h:GW P N cx c Q {fr:=(t,.val (.bool v))::s.fr,st:=s.st,df:=s.df}):GW P N cx c Q s:=fun μ a w hr=>by
 subst hb
 exact h μ a w (hr.dup hg)
theorem l6.lit {W:List Nat}{aI:Nat}{listed:Array Bool}(t:Nat){b v:Bool}(hg:get s.fr t=some (.val (.bool b))) (hb:b=v) (h:l6 P N cx ops Q W aI listed {fr:=(t,.val (.bool v))::s.fr,st:=s.st,df:=s.df}):l6 P N cx ops Q W aI listed s:=fun μ a w hr=>by
 subst hb
 exact h μ a w (hr.dup hg)
theorem dO.lit {W:List Nat}{aI:Nat}{listed:Array Bool}(t:Nat){b v:Bool}(hg:get s.fr t=some (.val (.bool b))) (hb:b=v) (h:dO P N cx ops Q W aI listed {fr:=(t,.val (.bool v))::s.fr,st:=s.st,df:=s.df}):dO P N cx ops Q W aI listed s:=fun ws Wb μ a w hr=>by
 subst hb
 exact h ws Wb μ a w (hr.dup hg)
end
section
variable {α:Type}[aJ α]
variable {P:Program}{N:Nat}{cx:Cx}{s:St}{W:List Nat}
variable {dst:Option Tmp}{ty:TypeId}{pos:String}{after:Array Edge}{guard:Option (Nat×Bool)}
end
end Go.AM
/-
 AM,part R:struct values put together;an empty slice written out;operations that were skipped.
-/
namespace Go.AM
section
variable {P:Program}{N:Nat}{cx:Cx}{Q:Exit→St→Prop}{s:St}{ops:Array Oper}{rest:List Oper}
theorem Rel.undef {μ:Mu}{a:Act}{w:World}{d:Nat}(h:Rel N cx μ s a w) (hN:d<N):Rel N cx μ (s.put d (.bj [])) (a.put (some d) Go.undef) w:=
 h.put hN (.bj [] [] rfl fun j g v hg=>by cases hg)
theorem GL.Ss {d:Nat}{op:Op}{ty:TypeId}{pos:String}{after:Array Edge}{guard:Option (Nat×Bool)}(hw:cV ops s guard=some false) (hN:Nat.blt d N=true) (h:GL P N cx ops Q rest (s.put d (.bj []))):
  GL P N cx ops Q (⟨some d,op,ty,pos,after,guard⟩::rest) s:=by
 intro μ a w hr
 unfold wpListIn
 rw[if_neg (by rw[dK hr hw];simp)]
 refine⟨fun _ _=>trivial,?_⟩
 exact h μ _ w (hr.undef (by simpa[fS] using hN))
theorem l6.zn {W:List Nat}{aI:Nat}{listed:Array Bool}(i:Nat){o:Oper}{d:Nat}(hp:CO Q (qI ops)) (hi:ops[i]?=some o) (hs:Region.noSelect ops=true) (hf:Region.free .any ops listed i=true)
  (hr:(Region.ready .any ops listed).contains i=true) (hw:cV ops s o.guard=some false) (hd:o.dst=some d) (hN:d<N)
  (h:l6 P N cx ops Q W aI (listed.setIfInBounds i true) (s.put d (.bj []))):l6 P N cx ops Q W (aI+1) listed s:=by
 intro μ a w hrel
 refine wpAnyH_take (v:=undef) hi hs hf hr (fun c a' w' h=>nB hp (qC hi hd) (hd▸h)) (.inr ⟨dK hrel hw,rfl⟩) ⟨az _,fun _ _ _=>rfl⟩ ?_
 rw[hd]
 exact h μ _ w (hrel.undef hN)
theorem dO.zn {W:List Nat}{aI:Nat}{listed:Array Bool}(i:Nat){o:Oper}{d:Nat}(hp:CO Q (qI ops)) (hi:ops[i]?=some o) (hs:Region.noSelect ops=true) (hf:Region.free .any ops listed i=true)
  (hr:(Region.ready .any ops listed).contains i=true) (hw:cV ops s o.guard=some false) (hd:o.dst=some d) (hN:d<N)
  (h:dO P N cx ops Q W aI (listed.setIfInBounds i true) (s.put d (.bj []))):dO P N cx ops Q W (aI+1) listed s:=by
 intro ws Wb μ a w hrel hS hW
 refine wpAnyH_take (v:=undef) hi hs hf hr (fun c a' w' h=>nB hp (qC hi hd) (hd▸h)) (.inr ⟨dK hrel hw,rfl⟩) hS ?_
 rw[hd]
 exact h ws Wb μ _ w (hrel.undef hN) hS hW
end
section
variable {P:Program}{N:Nat}{cx:Cx}{s:St}{W:List Nat}{d:Nat}
variable {dst:Option Tmp}{ty:TypeId}{pos:String}{after:Array Edge}{guard:Option (Nat×Bool)}
theorem EF.Io {t e:TypeId}{sz:Nat}{z:Value}{bt:Nat}(hd:Nat) (ht:P.underlying t=some (.slice e))
  (hi:(P.info? e).map (fun i=>(i.zero,i.size,i.bytes))=some (some z,sz,bt)) (hfr:fresh s hd=true):
  bH P W s ⟨some d,.buildSlice t 0 #[],ty,pos,after,guard⟩ (·={fr:=(d,.aO hd sz 0 0)::s.fr,st:=(hd,⟨e,true,true,true,sz,[],none⟩)::s.st,df:=s.df}):=by
 refine bH.of (s1:={fr:=s.fr,st:=(hd,⟨e,true,true,true,sz,[],none⟩)::s.st,df:=s.df}) (g:=.aO hd sz 0 0) rfl (fun _ h=>by cases h) ?_
 intro N cx μ a w hr
 obtain⟨i,hi1,lm⟩:=au.1 hi
 simp only[iU] at lm
 obtain⟨hz,hs1,hb1⟩:=lm
 obtain⟨μ',w',rfl,h1,h2,h3⟩:=hr.tU (k:=⟨e,true,true,true,sz,[],none⟩) (cs:=#[]) hfr rfl (by simp) (fun _=>by simp) (fun j g' hg'=>by simp at hg') (fun _ g' hg'=>by simp at hg') W
 refine⟨_,μ',_,?_,h1,.aO hd sz 0 0 _ _ 0 h2 (az _) (by simp),h3⟩
 have hrun:(Instr.buildSlice t 0 #[]).run P w=.ok (.slice (some ⟨w.heap.size,0,none⟩) 0 0) (w.alloc (.cells #[] e)):=by
  have e0:(Array.range 0).map (fun _=>(default:Value))=#[]:=by apply Array.eq_empty_of_size_eq_zero;simp
  simp[Instr.buildSlice,run_underlying ht,sizeOf,typeInfo,hi1,Instr.fill,newRow]
  rw[e0]
 simp[execOp,hrun]
def setAt {α:Type}(cs:List α) (off:Nat):List α→List α
 | []=>cs
 | x::r=>setAt (cs.set off x) (off+1) r
def zC (place:Nat→Option (Nat×Nat)) (cells:List G):List (Nat×G)→Option (List G)
 | []=>some cells
 | (i,g)::r=>match place i with
  | some (off,size)=>match Ci g&&(Nat.beq (cJ g).length size&&Nat.ble (off+size) cells.length) with
   | true=>zC place (setAt cells off (cJ g)) r
   | false=>none
  | none=>none
def Hy (s:St):List (Nat×Operand)→Option (List (Nat×G))
 | []=>some []
 | (i,x)::r=>match ev s x,Hy s r with
  | some g,some gs=>some ((i,g)::gs)
  | _,_=>none
def sc (O:Nat→Prop) (base:Nat) (w:World) (μ:Mu) (gs:List G) (vs:List Value):Prop:=vs.length=gs.length∧∀(j:Nat) (g:G) (v:Value),gs[j]?=some g→vs[j]?=some v→aW O base w μ g v
theorem sc.set {O:Nat→Prop}{base:Nat}{w:World}{μ:Mu}{gs:List G}{vs:List Value}(h:sc O base w μ gs vs) (off:Nat){g:G}{v:Value}(hv:aW O base w μ g v):sc O base w μ (gs.set off g) (vs.set off v):=by
 refine⟨by simp[h.1],fun j g' v' h1 h2=>?_⟩
 rw[dI] at h1 h2
 by_cases e:off=j
 ·subst e
  rw[if_pos rfl] at h1 h2
  split at h1
  ·split at h2
   ·cases h1;cases h2;exact hv
   ·cases h2
  ·cases h1
 ·rw[if_neg e] at h1 h2
  exact h.2 j g' v' h1 h2
theorem sc.setAt {O:Nat→Prop}{base:Nat}{w:World}{μ:Mu}:∀(gp:List G) (vp:List Value) (off:Nat){gs:List G}{vs:List Value},sc O base w μ gs vs→sc O base w μ gp vp→sc O base w μ (AM.setAt gs off gp) (AM.setAt vs off vp)
 | [],[],_,_,_,h,_=>h
 | [],_::_,_,_,_,_,h=>by cases h.1
 | _::_,[],_,_,_,_,h=>by cases h.1
 | g::gp,v::vp,off,_,_,h,hp=>sc.setAt gp vp (off+1) (h.set off (hp.2 0 g v rfl rfl)) ⟨by have:=hp.1;simpa using this,fun j g' v' h1 h2=>hp.2 (j+1) g' v' h1 h2⟩
theorem Ah (off:Nat):∀(l:List Value) (k:Nat) (cs:Array Value),((l.zipIdx k).foldl (fun cs (x:Value×Nat)=>cs.setIfInBounds (off+x.2) x.1) cs).toList=setAt cs.toList (off+k) l
 | [],_,_=>rfl
 | x::r,k,cs=>by
  simp only[List.zipIdx_cons,jx,setAt]
  rw[Ah off r (k+1)]
  simp[Nat.add_assoc]
theorem Cj {O:Nat→Prop}{base:Nat}{w:World}{μ:Mu}{place:Nat→Option (Nat×Nat)}:∀(gp:List (Nat×G)) (vp:List (Nat×Value)) (gs:List G) (vs:Array Value) (out:List G),
  zC place gs gp=some out→sc O base w μ gs vs.toList→vp.length=gp.length→(∀(j:Nat) (x:Nat×G) (y:Nat×Value),gp[j]?=some x→vp[j]?=some y→x.1=y.1∧aW O base w μ x.2 y.2)→
  ∃cs,Instr.fill place vs vp=some cs∧sc O base w μ out cs.toList
 | [],[],gs,vs,out,h,hr,_,_=>by cases h;exact⟨vs,rfl,hr⟩
 | [],_::_,_,_,_,_,_,hl,_=>by cases hl
 | _::_,[],_,_,_,_,_,hl,_=>by cases hl
 | (i,g)::gp,(i',v)::vp,gs,vs,out,h,hr,hl,hp=>by
  obtain⟨e,hv⟩:=hp 0 _ _ rfl rfl
  simp only at e hv
  subst e
  simp only[zC] at h
  cases hpl:place i with
  | none=>rw[hpl] at h;cases h
  | some os=>
   obtain⟨off,size⟩:=os
   rw[hpl] at h
   simp only at h
   cases hc:Ci g&&(Nat.beq (cJ g).length size&&Nat.ble (off+size) gs.length) with
   | false=>rw[hc] at h;cases h
   | true=>
    rw[hc] at h
    simp only[ai] at hc
    obtain⟨c1,c2,c3⟩:=hc
    have c2:=aa c2
    have c3:=eV c3
    obtain⟨d1,d2⟩:=hv.cells c1
    have hrl:sc O base w μ (cJ g) v.cells.toList:=by
     refine⟨by rw[Array.length_toList];exact d1,fun j g' v' h1 h2=>?_⟩
     obtain⟨u,hu,hru⟩:=d2 j g' h1
     rw[bn,hu] at h2
     cases h2
     exact hru
    have hrs:=sc.setAt _ _ off hr hrl
    have hvl:vs.size=gs.length:=by rw[←hr.1,Array.length_toList]
    have hstep:Instr.fill place vs ((i,v)::vp)=Instr.fill place (v.cells.zipIdx.foldl (fun cs (x:Value×Nat)=>cs.setIfInBounds (off+x.2) x.1) vs) vp:=by
     simp only[Instr.fill,hpl]
     rw[if_neg (by simp;omega)]
    rw[hstep]
    have hfold:(v.cells.zipIdx.foldl (fun cs (x:Value×Nat)=>cs.setIfInBounds (off+x.2) x.1) vs).toList=AM.setAt vs.toList off v.cells.toList:=by
     rw[←Array.foldl_toList,Array.toList_zipIdx]
     exact Ah off v.cells.toList 0 vs
    refine Cj gp vp _ _ out h (by rw[hfold];exact hrs) (by simpa using hl) fun j x y h1 h2=>hp (j+1) x y h1 h2
theorem Hx {μ:Mu}{a:Act}{w:World}(h:Rel N cx μ s a w):∀(l:List (Nat×Operand)) (gp:List (Nat×G)),Hy s l=some gp→
  (l.map fun x=>(x.1,a.eval x.2)).length=gp.length∧∀(j:Nat) (x:Nat×G) (y:Nat×Value),gp[j]?=some x→(l.map fun x=>(x.1,a.eval x.2))[j]?=some y→x.1=y.1∧aW (cx.O s.st μ) cx.base w μ x.2 y.2
 | [],gp,he=>by cases he;exact⟨rfl,fun j x y h=>by cases h⟩
 | (i,x)::r,gp,he=>by
  simp only[Hy] at he
  cases hx:AM.ev s x with
  | none=>rw[hx] at he;cases he
  | some g=>
   rw[hx] at he
   cases hr:Hy s r with
   | none=>rw[hr] at he;cases he
   | some gs=>
    rw[hr] at he
    cases he
    obtain⟨h1,h2⟩:=Hx h r gs hr
    refine⟨by simpa using h1,fun j x' y h3 h4=>?_⟩
    cases j with
    | zero=>cases h3;cases h4;exact⟨rfl,h.ev hx⟩
    | succ j=>exact h2 j x' y h3 h4
theorem PY.build {t:TypeId}{parts:Array (Nat×Operand)}{fs:Array Field}{z:Value}{places:List (Nat×Nat)}{gp:List (Nat×G)}{out:List G}(ht:P.underlying t=some (.struct fs)) (hz:(P.info? t).map (·.zero)=some (some z))
  (hp:fs.toList.mapM (fun f=>(P.info? f.type).map fun i=>(f.offset,i.size))=some places) (he:Hy s parts.toList=some gp) (hf:zC (places[·]?) (z.cells.toList.map .val) gp=some out):
  PY P s ⟨dst,.build t parts,ty,pos,after,guard⟩ (.agg out):=fun N cx μ a w hr=>by
 obtain⟨it,h1,h2⟩:=au.1 hz
 obtain⟨h3,h4⟩:=Hx hr _ _ he
 obtain⟨cs,h5,h6⟩:=Cj (O:=cx.O s.st μ) (base:=cx.base) (w:=w) (μ:=μ) gp _ _ z.cells out hf ⟨by simp,fun j g v hg hv=>by
  rw[ay,hv] at hg
  cases hg
  exact .aF (.val _)⟩ h3 h4
 have hb:∀w',(Instr.build t (parts.map fun (x:Nat×Operand)=>(x.1,a.eval x.2))).run P w'=.ok (.agg cs) w':=fun w'=>by
  refine Go.run_build w' t _ cs ?_
  unfold Program.built
  simp only[h1,ht,h2,hp]
  rw[eg]
  have e:(fun x:Nat=>places.toArray[x]?)=(fun x:Nat=>places[x]?):=by funext x;simp
  rw[e]
  exact h5
 refine⟨.agg cs,?_,fun w'=>?_⟩
 ·have:=aW.agg (O:=cx.O s.st μ) (base:=cx.base) (w:=w) (μ:=μ) out cs.toList h6.1 h6.2
  simpa using this
 ·simp[execOp,hb]
theorem run_equal_bool {t:TypeId}(ht:P.underlying t=some .bool) (a b:Bool) (w:World):(Op.equal t (.bool a) (.bool b)).run P w=.ok (a==b) w:=by
 have e:∃n,Op.maxDepth=n+1:=⟨_,rfl⟩
 obtain⟨n,e⟩:=e
 unfold Op.equal
 rw[e]
 simp[Op.equalIn,run_underlying ht]
theorem PY.Sy {t t':TypeId}{x y:Operand}{a b:Bool}(hx:ev s x=some (.val (.bool a))) (hy:ev s y=some (.val (.bool b))) (ht:P.underlying t=some .bool):
  PY P s ⟨dst,.binOp .eql t x y t',ty,pos,after,guard⟩ (.val (.bool (a==b))):=fun _ _ _ _ _ hrel=>by
 refine⟨_,.aF (.val _),fun w'=>?_⟩
 simp[execOp,hrel.val hx,hrel.val hy,eqGuard,binOp,run_equal_bool ht]
theorem PY.Su {t t':TypeId}{x y:Operand}{a b:Bool}(hx:ev s x=some (.val (.bool a))) (hy:ev s y=some (.val (.bool b))) (ht:P.underlying t=some .bool):
  PY P s ⟨dst,.binOp .neq t x y t',ty,pos,after,guard⟩ (.val (.bool (!(a==b)))):=fun _ _ _ _ _ hrel=>by
 refine⟨_,.aF (.val _),fun w'=>?_⟩
 simp[execOp,hrel.val hx,hrel.val hy,eqGuard,binOp,run_equal_bool ht]
end
end Go.AM
/-
 AM,part S:is a slice nil?
-/
namespace Go.AM
noncomputable def rR {ρ:Type}(n:Int) (m1 m2:Option ρ):Option ρ:=open Classical in if n=0 then(if m1=m2 then m1 else none) else m2
theorem Eb {ρ:Type}{n:Int}{m1 m2:Option ρ}{r:ρ}(h:rR n m1 m2=some r):(n=0→m1=some r)∧m2=some r:=by
 unfold rR at h
 split at h
 ·split at h
  ·rename_i e;exact⟨fun _=>h,e▸h⟩
  ·cases h
 ·exact⟨fun e=>absurd e (by assumption),h⟩
section
variable {P:Program}{N:Nat}{cx:Cx}{Q:Exit→St→Prop}{s:St}{ops:Array Oper}{rest:List Oper}
theorem aW.M7 {O:Nat→Prop}{base:Nat}{w:World}{μ:Mu}{g:G}{v:Value}{n:Int}(h:aW O base w μ g v) (hn:Kq g=some n):∃b m c,v=.slice b m c∧(m:Int)=n∧(b=none→n=0):=by
 have sl:∀(O:Nat→Prop) (n:Nat) (cells:List G) (v:Value),bA O w (.sl n cells) v→∃b m c,v=.slice b m c∧m=n∧(b=none→n=0):=by
  intro O n cells v h
  cases h with
  | nil=>exact⟨none,0,0,rfl,rfl,fun _=>rfl⟩
  | gM a cap=>exact⟨some a,0,cap,rfl,rfl,fun h=>rfl⟩
  | sl _ _ b off cap=>exact⟨_,n,cap,rfl,rfl,fun h=>by cases h⟩
 cases g with
 | sl n' cells=>
  cases hn
  cases h with
  | aF h=>obtain⟨b,m,c,e1,e2,e3⟩:=sl _ _ _ _ h;exact⟨b,m,c,e1,by rw[e2],fun h=>by rw[e3 h];rfl⟩
 | fr g=>
  cases h with
  | aF h=>cases h
  | fr h=>
   cases g with
   | sl n' cells=>cases hn;obtain⟨b,m,c,e1,e2,e3⟩:=sl _ _ _ _ h;exact⟨b,m,c,e1,by rw[e2],fun h=>by rw[e3 h];rfl⟩
   | _=>cases hn
 | aO h' sz off n'=>
  cases hn
  cases h with
  | aF h=>cases h
  | eL=>exact⟨none,0,0,rfl,rfl,fun _=>rfl⟩
  | aO _ _ _ _ b m cap=>exact⟨_,n',cap,rfl,rfl,fun h=>by cases h⟩
  | dF _ _ off0 b m _ _=>exact⟨_,0,0,rfl,rfl,fun _=>rfl⟩
 | ks h' i sz n'=>
  cases hn
  cases h with
  | aF h=>cases h
  | gW _ _ _ x cap=>exact⟨x,0,cap,rfl,rfl,fun _=>rfl⟩
  | ks _ _ _ _ b m c k cap=>exact⟨_,n',cap,rfl,rfl,fun h=>by cases h⟩
 | val v0=>
  cases h with
  | aF h=>
   cases h
   cases v with
   | slice b m c=>
    cases b with
    | none=>cases m with
     | zero=>cases c with
      | zero=>cases hn;exact⟨none,0,0,rfl,rfl,fun _=>rfl⟩
      | succ c=>cases hn
     | succ m=>cases hn
    | some b=>cases hn
   | _=>cases hn
 | _=>cases hn
theorem Lw {t e:TypeId}(ht:P.underlying t=some (.slice e)) (xo yo:Operand) (b:Option Addr) (m c:Nat) (w:World):
  (do eqGuard .eql t xo yo (.slice b m c) (.slice none 0 0);binOp .eql t (.slice b m c) (.slice none 0 0):Sem Value).run P w=.ok (.bool b.isNone) w:=by
 have h:=Lib.run_eql_slice_nil (P:=P) w t e b m c 0 0 ht
 have hg:(eqGuard .eql t xo yo (.slice b m c) (.slice none 0 0)).run P w=.ok () w:=by simp[eqGuard]
 simp only[Sem.run_bind,hg,Result.andThen_ok,h]
theorem Lv {t e:TypeId}(ht:P.underlying t=some (.slice e)) (xo yo:Operand) (b:Option Addr) (m c:Nat) (w:World):
  (do eqGuard .neq t xo yo (.slice b m c) (.slice none 0 0);binOp .neq t (.slice b m c) (.slice none 0 0):Sem Value).run P w=.ok (.bool (!b.isNone)) w:=by
 have h:=run_neq_slice_nil_any (P:=P) w t e b m c 0 0 ht
 have hg:(eqGuard .neq t xo yo (.slice b m c) (.slice none 0 0)).run P w=.ok () w:=by simp[eqGuard]
 simp only[Sem.run_bind,hg,Result.andThen_ok,h]
end
end Go.AM
/-
 AM,part T:a block said in other words;slices given out of hand;a nil slice in a box taken in hand;lists written out.
-/
namespace Go.AM
section
variable {P:Program}{N:Nat}{cx:Cx}{Q:Exit→St→Prop}{s:St}{ops:Array Oper}{rest:List Oper}
theorem Rel.vm {μ:Mu}{a:Act}{w:World}(h:Rel N cx μ s a w){hh:Nat}{k k':ap}(hk:aq s.st hh=some k) (he:k'.bM=k.bM) (hmine:k'.ct=k.ct) (hsz:k'.sz=k.sz) (hl:k'.cells.length≤k.cells.length) (hlp:k.lp=none) (hlp':k'.lp=none)
  (hc:∀(j:Nat) (g':G),k'.cells[j]?=some g'→∃g,k.cells[j]?=some g∧∀v,cv (cx.O s.st μ) cx.base w μ k g v→cv (cx.O s.st μ) cx.base w μ k' g' v):
  Rel N cx μ {fr:=s.fr,st:=bw s.st hh k',df:=s.df} a w:=by
 have hb:=h.st.c8 hh k hk
 cases hm:μ hh with
 | some bm=>
  obtain⟨b,m⟩:=bm
  rw[hm] at hb
  obtain⟨cs,h1,h2,h3,h4,h5,h6⟩:=hb.cells hlp
  exact(h.write hk hm (by rw[he];exact h1) h2 rfl (fun _ _=>rfl) rfl rfl rfl (fun e=>hmine▸e) (cH hl h3) (by rw[hsz];exact h5) (fun j g' hg'=>by
   obtain⟨g,hg,hr⟩:=hc j g' hg'
   obtain⟨v,hv,hrv⟩:=h6 j g hg
   exact⟨v,hv,hr v hrv⟩) [hh] (by simp) hlp').1
 | none=>
  rw[hm] at hb
  obtain⟨hb,_⟩:=hb
  have hb':k'.cells=[]:=bl (by rw[hb] at hl;simpa using hl)
  have hOO:∀b,cx.O (bw s.st hh k') μ b↔cx.O s.st μ b:=fun b=>or_congr Iff.rfl (Own.bw hk)
  have hO:∀b,b<w.heap.size→¬cx.O s.st μ b→¬cx.O (bw s.st hh k') μ b:=fun b _ hn ho=>hn ((hOO b).1 ho)
  have f:∀x k1,aq (bw s.st hh k') x=some k1→∃k1,aq s.st x=some k1:=fun x k1 h1=>by
   rcases cG hk h1 with ⟨rfl,rfl⟩ | ⟨_,h1⟩
   ·exact⟨k,hk⟩
   ·exact⟨_,h1⟩
  refine {st:={c8:=?_,cz:=?_,bR:=?_,dZ:=?_,dY:=h.st.dY,hb:=h.st.hb,os:=h.st.os,tape:=h.st.tape,output:=h.st.output,cY:=h.st.cY},nd:=h.nd.mono (Kept.refl _ _) hO,sz:=h.sz,fr:=fun t g hg=>?_}
  ·intro x k1 h1
   rcases cG hk h1 with ⟨rfl,rfl⟩ | ⟨_,h1⟩
   ·rw[hm];exact .nil hb' hlp'
   ·exact(h.st.c8 x k1 h1).mono (fun _ _ _ _ _=>rfl) (Kept.refl _ _) hO
  ·intro x x' k1 k2 y b1 m1 b2 m2 h1 h2
   obtain⟨k1',h1'⟩:=f x k1 h1
   obtain⟨k2',h2'⟩:=f x' k2 h2
   exact h.st.cz x x' k1' k2' y b1 m1 b2 m2 h1' h2'
  ·intro x k1 b1 m1 y h1 h2
   intro hi
   rcases cG hk h1 with ⟨rfl,rfl⟩ | ⟨_,h1⟩
   ·obtain⟨a1,a2,a3,a4⟩:=h.st.bR x k b1 m1 y hk h2 hi
    exact⟨a1,a2,a3,fun hm=>a4 (hmine▸hm)⟩
   ·exact h.st.bR x k1 b1 m1 y h1 h2 hi
  ·intro x k1 h1 h2
   obtain⟨k1',h1'⟩:=f x k1 h1
   exact h.st.dZ x k1' h1' h2
  ·obtain⟨v,hv,hr⟩:=h.fr t g hg
   exact⟨v,hv,hr.mono (Kept.refl _ _) hO (az _)⟩
theorem Rel.vz {μ : Mu} {a : Act} {w : World} (h : Rel N cx μ s a w) (hd : Nat) (k : ap) (hf : fresh s hd = true) (hk : k.cells = []) (hlp : k.lp = none) : Rel N cx (fR μ hd none) { fr := s.fr, st := (hd, k) :: s.st, df := s.df } a w := by
 obtain ⟨h1, h2, h3, h5, h6⟩ := eX hf
 obtain ⟨h4, hO⟩ := h.st.vz h1 h3 (gS h6) hk hlp
 refine { st := h4, nd := (h.nd.mono (Kept.refl _ _) (fun b _ => hO b)).fE (fun g hg y hy => aR fun e => by subst e; rw [lP h5 hg] at hy; cases hy), sz := h.sz, fr := fun t' g hg' => ?_ }
 obtain ⟨v, hv, hr⟩ := h.fr t' g hg'
 refine ⟨v, hv, (hr.mono (Kept.refl _ _) (fun b _ => hO b) (az _)).fE fun y hy => aR ?_⟩
 intro e
 subst e
 rw [kL h2 hg'] at hy
 cases hy
theorem Rel.vT {μ : Mu} {a : Act} {w : World} (h : Rel N cx μ s a w) (hh j hd : Nat) (e : TypeId) (sz : Nat) {k : ap} (hk : aq s.st hh = some k) (hp : k.pure = false) (hj : k.cells[j]? = some (.val (.slice none 0 0))) (hf : fresh s hd = true) (hlp : k.lp = none) :
    ∃ μ', Rel N cx μ' { fr := s.fr, st := bw ((hd, ⟨e, true, true, true, sz, [], none⟩) :: s.st) hh { k with cells := k.cells.set j (.aO hd sz 0 0) }, df := s.df } a w := by
  have h1 := h.vz hd ⟨e, true, true, true, sz, [], none⟩ hf rfl rfl
  have hne : hh ≠ hd := fun e => by
    subst e
    obtain ⟨h2, _⟩ := eX hf
    rw [hk] at h2; cases h2
  have hk2 : aq ((hd, ⟨e, true, true, true, sz, [], none⟩) :: s.st) hh = some k := by rw [aD _ _ hne]; exact hk
  refine ⟨_, h1.vm (s := { fr := s.fr, st := (hd, ⟨e, true, true, true, sz, [], none⟩) :: s.st, df := s.df }) hk2 rfl rfl rfl (by simp) hlp hlp fun i g' hg' => ?_⟩
  simp only [dI] at hg'
  by_cases e : j = i
  · subst e
    rw [if_pos rfl] at hg'
    split at hg'
    · cases hg'
      refine ⟨_, hj, fun v hv => ?_⟩
      unfold cv at hv ⊢
      simp only [hp] at hv ⊢
      cases hv with
      | aF hv => cases hv; exact .eL hd sz (bu _ _ _)
    · cases hg'
  · rw [if_neg e] at hg'
    refine ⟨g', hg', fun v hv => ?_⟩
    unfold cv at hv ⊢
    exact hv
theorem GW.vT {c:Code}(hh j hd:Nat) (e:TypeId) (sz:Nat){k:ap}(hk:aq s.st hh=some k) (hp:k.pure=false) (hj:k.cells[j]?=some (.val (.slice none 0 0))) (hf:fresh s hd=true)
  (h:GW P N cx c Q {fr:=s.fr,st:=bw ((hd,⟨e,true,true,true,sz,[],none⟩)::s.st) hh {k with cells:=k.cells.set j (.aO hd sz 0 0)},df:=s.df}) (hlp:k.lp=none:=by rfl):GW P N cx c Q s:=fun _ a w hr=>
 let ⟨μ',h'⟩:=hr.vT hh j hd e sz hk hp hj hf hlp
 h μ' a w h'
theorem GL.vT (hh j hd:Nat) (e:TypeId) (sz:Nat){k:ap}(hk:aq s.st hh=some k) (hp:k.pure=false) (hj:k.cells[j]?=some (.val (.slice none 0 0))) (hf:fresh s hd=true)
  (h:GL P N cx ops Q rest {fr:=s.fr,st:=bw ((hd,⟨e,true,true,true,sz,[],none⟩)::s.st) hh {k with cells:=k.cells.set j (.aO hd sz 0 0)},df:=s.df}) (hlp:k.lp=none:=by rfl):GL P N cx ops Q rest s:=fun _ a w hr=>
 let ⟨μ',h'⟩:=hr.vT hh j hd e sz hk hp hj hf hlp
 h μ' a w h'
def OX (st st':List (Nat×ap)) (g g':G):Prop:=iT st st' g=some g'∨g=g'
def KZ (st st':List (Nat×ap)) (fr:List (Nat×G)):List (Nat×G)→Prop
 | []=>True
 | (t,g')::r=>(∃g,get fr t=some g∧OX st st' g g')∧KZ st st' fr r
def Js (st st':List (Nat×ap)):List G→List G→Prop
 | [],[]=>True
 | g::r,g'::r'=>OX st st' g g'∧Js st st' r r'
 | _,_=>False
def KY (st st':List (Nat×ap)):List (Nat×ap)→Prop
 | []=>True
 | (h,k')::r=>(∃k,aq st h=some k∧k'.bM=k.bM∧k'.ct=k.ct∧k'.sz=k.sz∧k'.pure=k.pure∧k'.fresh=k.fresh∧k'.lp=k.lp∧((k.pure=true∧k'.cells=k.cells)∨(k.pure=false∧Js st st' k.cells k'.cells)))∧KY st st' r
theorem KZ.get {st st':List (Nat×ap)}{fr:List (Nat×G)}:∀{fr':List (Nat×G)},KZ st st' fr fr'→∀{t:Nat}{g':G},AM.get fr' t=some g'→∃g,AM.get fr t=some g∧OX st st' g g'
 | [],_,_,_,h=>by cases h
 | (k,g0)::r,⟨h1,h2⟩,t,g',h=>by
  simp only[AM.get] at h
  cases hk:Nat.beq k t with
  | true=>rw[hk] at h;have:=aa hk;subst this;simp at h;subst h;exact h1
  | false=>rw[hk] at h;exact KZ.get h2 h
theorem KY.get {st st':List (Nat×ap)}:∀{l:List (Nat×ap)},KY st st' l→∀{t:Nat}{k':ap},aq l t=some k'→∃k,aq st t=some k∧k'.bM=k.bM∧k'.ct=k.ct∧k'.sz=k.sz∧k'.pure=k.pure∧k'.fresh=k.fresh∧k'.lp=k.lp∧((k.pure=true∧k'.cells=k.cells)∨(k.pure=false∧Js st st' k.cells k'.cells))
 | [],_,_,_,h=>by cases h
 | (k,g0)::r,⟨h1,h2⟩,t,g',h=>by
  simp only[aq] at h
  cases hk:Nat.beq k t with
  | true=>rw[hk] at h;have:=aa hk;subst this;simp at h;subst h;exact h1
  | false=>rw[hk] at h;exact KY.get h2 h
theorem Js.get {st st':List (Nat×ap)}:∀{l l':List G},Js st st' l l'→l'.length=l.length∧∀{j:Nat}{g':G},l'[j]?=some g'→∃g,l[j]?=some g∧OX st st' g g'
 | [],[],_=>⟨rfl,fun h=>by cases h⟩
 | _::_,[],h=>h.elim
 | [],_::_,h=>h.elim
 | g::r,g1::r',⟨h1,h2⟩=>by
  obtain⟨h3,h4⟩:=Js.get h2
  refine⟨by simp[h3],fun {j g'} h=>?_⟩
  cases j with
  | zero=>cases h;exact⟨g,rfl,h1⟩
  | succ j=>exact h4 h
end
end Go.AM
/-
 AM,part U:parts of slices and of texts.
-/
namespace Go.AM
section
variable {α:Type}[aJ α]
variable {P:Program}{N:Nat}{cx:Cx}{s:St}{W:List Nat}
variable {dst:Option Tmp}{ty:TypeId}{pos:String}{after:Array Edge}{guard:Option (Nat×Bool)}
theorem DE {t e:TypeId}(ht:P.underlying t=some (.slice e)):P.underlying t=some (.slice (P.elem t)):=by
 have:P.elem t=e:=by unfold Program.elem;rw[ht]
 rw[this];exact ht
def kg (l:List α) (i j:Int):List α:=(l.drop i.toNat).take (j.toNat-i.toNat)
omit [aJ α] in
theorem tj {l:List α}{i j:Int}(_:0≤i) (h1:i≤j) (h2:j≤(l.length:Int)):(kg l i j).length=j.toNat-i.toNat:=by
 unfold kg;rw[aU,cp];omega
theorem bA.part {O:Nat→Prop}{w:World}{l:List α}{v:Value}{i j:Int}(h:bA O w (.sl l.length (cX l)) v) (h0:0≤i) (h1:i≤j) (h2:j≤(l.length:Int)):
  ∃(a:Option Addr) (len cap:Nat),v=.slice a len cap∧(len:Int)=l.length∧j≤cap∧(len:Int)≤cap∧∀m:Nat,(m:Int)=cap→bA O w (.sl (kg l i j).length (cX (kg l i j))) (sliced a i.toNat j.toNat m (aJ.sz α)):=by
 have zero:l=[]→kg l i j=[]:=fun e=>by subst e;simp[kg]
 generalize hn:l.length=n at h
 generalize hc:cX l=cs at h
 cases h with
 | nil=>
  have hl:l=[]:=bl hn
  refine⟨none,0,0,rfl,by omega,by omega,by omega,fun m hm=>?_⟩
  rw[zero hl]
  obtain rfl:m=0:=by omega
  obtain rfl:i=0:=by omega
  obtain rfl:j=0:=by omega
  exact .nil
 | gM a cap=>
  have hl:l=[]:=bl hn
  refine⟨some a,0,cap,rfl,by omega,by omega,by omega,fun m hm=>?_⟩
  rw[zero hl]
  obtain rfl:i=0:=by omega
  obtain rfl:j=0:=by omega
  unfold sliced
  split
  ·exact .gM _ _
  ·exact .gM _ _
 | sl _ _ b off cap us hle hO hb hcell hr=>
  subst hn
  subst hc
  refine⟨_,_,cap,rfl,rfl,by omega,by omega,fun m hm=>?_⟩
  obtain rfl:m=cap:=by omega
  unfold sliced
  by_cases e:m=i.toNat
  ·have:(kg l i j).length=0:=by rw[tj h0 h1 h2];omega
   have e2:kg l i j=[]:=bl this
   rw[e2,if_pos e]
   have e3:j.toNat-i.toNat=0:=by omega
   rw[e3]
   exact .gM _ _
  ·rw[if_neg e,bG,Addr.iS,tj h0 h1 h2]
   have hsub:cX (kg l i j)=((cX l).drop (i.toNat*aJ.sz α)).take ((j.toNat-i.toNat)*aJ.sz α):=by
    unfold kg
    rw[←yK,←yL]
   have hlen:(cX (kg l i j)).length=(j.toNat-i.toNat)*aJ.sz α:=by rw[eO,tj h0 h1 h2]
   have hbig:i.toNat*aJ.sz α+(j.toNat-i.toNat)*aJ.sz α≤l.length*aJ.sz α:=by
    rw[←dA];exact b5 _ (by omega)
   refine .sl _ _ b (off+i.toNat*aJ.sz α) (m-i.toNat) (fun q=>us (i.toNat*aJ.sz α+q)) (by omega) hO hb (fun q hq=>?_) (fun q g hg=>?_)
   ·rw[hlen] at hq
    have:=hcell (i.toNat*aJ.sz α+q) (by rw[eO];omega)
    rw[←this]
    congr 2
    omega
   ·have hq:=(al.1 hg).1
    rw[hlen] at hq
    rw[hsub,a9,if_pos hq,bi] at hg
    exact hr _ g hg
theorem F2 {t e:TypeId}(ht:P.underlying t=some (.slice e)) (hsz:∀w,(sizeOf e).run P w=.ok (aJ.sz α) w){k k':IntKind}{i j:Int}(a:Option Addr) (len cap:Nat) (h0:0≤i) (h1:i≤j) (h2:j≤cap) (w:World):
  (Instr.sliceAt t (.slice a len cap) (some (.int k i)) (some (.int k' j)) none).run P w=.ok (sliced a i.toNat j.toNat cap (aJ.sz α)) w:=by
 have he:=DE ht
 have e:P.elem t=e:=by unfold Program.elem;rw[ht]
 rw[run_sliceAt_slice w t _ _ _ _ he,run_slice_lh w t a len cap he k k' i j h0 h1 h2,e,hsz w]
 rfl
theorem BQ {t e:TypeId}(ht:P.underlying t=some (.slice e)) (hsz:∀w,(sizeOf e).run P w=.ok (aJ.sz α) w){k:IntKind}{i:Int}(a:Option Addr) (len cap:Nat) (h0:0≤i) (h1:i≤len) (w:World):
  (Instr.sliceAt t (.slice a len cap) (some (.int k i)) none none).run P w=.ok (sliced a i.toNat len cap (aJ.sz α)) w:=by
 have he:=DE ht
 have e:P.elem t=e:=by unfold Program.elem;rw[ht]
 rw[run_sliceAt_slice w t _ _ _ _ he,run_slice_l w t a len cap he k i h0 h1,e,hsz w]
 rfl
theorem BR {t e:TypeId}(ht:P.underlying t=some (.slice e)) (hsz:∀w,(sizeOf e).run P w=.ok (aJ.sz α) w){k:IntKind}{j:Int}(a:Option Addr) (len cap:Nat) (h0:0≤j) (h1:j≤cap) (w:World):
  (Instr.sliceAt t (.slice a len cap) none (some (.int k j)) none).run P w=.ok (sliced a 0 j.toNat cap (aJ.sz α)) w:=by
 have he:=DE ht
 have e:P.elem t=e:=by unfold Program.elem;rw[ht]
 rw[run_sliceAt_slice w t _ _ _ _ he,run_slice_h w t a len cap he k j h0 h1,e,hsz w]
 rfl
def BM (f:Bool) (l:List α):G:=bif f then .fr (.sl l.length (cX l)) else .sl l.length (cX l)
theorem aW.part {O:Nat→Prop}{base:Nat}{w:World}{μ:Mu}{f:Bool}{l:List α}{v:Value}{i j:Int}(h:aW O base w μ (BM f l) v) (h0:0≤i) (h1:i≤j) (h2:j≤(l.length:Int)):
  ∃(a:Option Addr) (len cap:Nat),v=.slice a len cap∧(len:Int)=l.length∧j≤cap∧(len:Int)≤cap∧aW O base w μ (BM f (kg l i j)) (sliced a i.toNat j.toNat cap (aJ.sz α)):=by
 cases f with
 | false=>
  cases h with
  | aF h=>obtain⟨a,len,cap,e1,e2,e3,e4,e5⟩:=h.part h0 h1 h2;exact⟨a,len,cap,e1,e2,e3,e4,.aF (e5 cap rfl)⟩
 | true=>
  cases h with
  | aF h=>cases h
  | fr h=>obtain⟨a,len,cap,e1,e2,e3,e4,e5⟩:=h.part h0 h1 h2;exact⟨a,len,cap,e1,e2,e3,e4,.fr (e5 cap rfl)⟩
theorem PY.slice {t e:TypeId}{x lo hi:Operand}{f:Bool}{l:List α}{k k':IntKind}{i j:Int}(hx:ev s x=some (BM f l)) (hl:ev s lo=some (.val (.int k i))) (hh:ev s hi=some (.val (.int k' j))) (ht:P.underlying t=some (.slice e)) (hsz:∀w,(sizeOf e).run P w=.ok (aJ.sz α) w)
  (h0:0≤i) (h1:i≤j) (h2:j≤(l.length:Int)):PY P s ⟨dst,.slice t x (some lo) (some hi) none,ty,pos,after,guard⟩ (BM f (kg l i j)):=fun N cx μ a w hr=>by
 obtain⟨ad,len,cap,e1,e2,e3,e4,e5⟩:=(hr.ev hx).part h0 h1 h2
 refine⟨_,e5,fun w'=>?_⟩
 simp[execOp,e1,hr.val hl,hr.val hh,F2 ht hsz ad len cap h0 h1 e3]
theorem PY.Qr {t e:TypeId}{x lo:Operand}{f:Bool}{l:List α}{k:IntKind}{i:Int}(hx:ev s x=some (BM f l)) (hl:ev s lo=some (.val (.int k i))) (ht:P.underlying t=some (.slice e)) (hsz:∀w,(sizeOf e).run P w=.ok (aJ.sz α) w)
  (h0:0≤i) (h1:i≤(l.length:Int)):PY P s ⟨dst,.slice t x (some lo) none none,ty,pos,after,guard⟩ (BM f (kg l i (l.length:Int))):=fun N cx μ a w hr=>by
 obtain⟨ad,len,cap,e1,e2,e3,e4,e5⟩:=(hr.ev hx).part h0 h1 (Int.le_refl _)
 have e6:len=((l.length:Int)).toNat:=by omega
 refine⟨_,e5,fun w'=>?_⟩
 have:=BQ (α:=α) (P:=P) ht hsz (k:=k) ad len cap h0 (by omega) w'
 rw[←e6]
 simp[execOp,e1,hr.val hl,this]
theorem PY.Qs {t e:TypeId}{x hi:Operand}{f:Bool}{l:List α}{k:IntKind}{j:Int}(hx:ev s x=some (BM f l)) (hh:ev s hi=some (.val (.int k j))) (ht:P.underlying t=some (.slice e)) (hsz:∀w,(sizeOf e).run P w=.ok (aJ.sz α) w)
  (h0:0≤j) (h2:j≤(l.length:Int)):PY P s ⟨dst,.slice t x none (some hi) none,ty,pos,after,guard⟩ (BM f (kg l 0 j)):=fun N cx μ a w hr=>by
 obtain⟨ad,len,cap,e1,e2,e3,e4,e5⟩:=(hr.ev hx).part (Int.le_refl 0) h0 h2
 refine⟨_,e5,fun w'=>?_⟩
 have:=BR (α:=α) (P:=P) ht hsz (k:=k) ad len cap h0 e3 w'
 simp[execOp,e1,hr.val hh,this]
theorem PY.Qq {t : TypeId} {x lo hi : Operand} {b : ByteArray} {k k' : IntKind} {i j : Int} (hx : ev s x = some (.val (.string b))) (hl : ev s lo = some (.val (.int k i))) (hh : ev s hi = some (.val (.int k' j))) (ht : P.underlying t = some .string)
  (h0 : 0 ≤ i) (h1 : i ≤ j) (h2 : j ≤ (b.size : Int)) : PY P s ⟨dst, .slice t x (some lo) (some hi) none, ty, pos, after, guard⟩ (.val (.string (b.extract i.toNat j.toNat))) := fun N cx μ a w hr => by
 refine ⟨_, .aF (.val _), fun w' => ?_⟩
 have eh : (j.toNat : Int) = j := nT (by omega)
 have : (Instr.slice t (.string b) (some (.int k i)) (some (.int k' j)) none).run P w' = .ok (.string (b.extract i.toNat j.toNat)) w' := by
  simp [Instr.slice, run_underlying ht, Instr.sliceBounds, run_sliceBound, *, eh, (by omega : 0 ≤ i), (by omega : 0 ≤ j)]
 simp [execOp, hr.val hx, hr.val hl, hr.val hh, run_sliceAt_string w' t _ _ _ _ ht, this]
theorem PY.Pf {t:TypeId}{x lo:Operand}{b:ByteArray}{k:IntKind}{i:Int}(hx:ev s x=some (.val (.string b))) (hl:ev s lo=some (.val (.int k i))) (ht:P.underlying t=some .string)
  (h0:0≤i) (h1:i≤(b.size:Int)):PY P s ⟨dst,.slice t x (some lo) none none,ty,pos,after,guard⟩ (.val (.string (b.extract i.toNat b.size))):=fun N cx μ a w hr=>by
 refine⟨_,.aF (.val _),fun w'=>?_⟩
 simp[execOp,hr.val hx,hr.val hl,run_sliceAt_string w' t _ _ _ _ ht,run_slice_string_l w' t b ht k i h0 h1]
theorem PY.Pg {t:TypeId}{x hi:Operand}{b:ByteArray}{k:IntKind}{j:Int}(hx:ev s x=some (.val (.string b))) (hh:ev s hi=some (.val (.int k j))) (ht:P.underlying t=some .string)
  (h0:0≤j) (h2:j≤(b.size:Int)):PY P s ⟨dst,.slice t x none (some hi) none,ty,pos,after,guard⟩ (.val (.string (b.extract 0 j.toNat))):=fun N cx μ a w hr=>by
 refine⟨_,.aF (.val _),fun w'=>?_⟩
 simp[execOp,hr.val hx,hr.val hh,run_sliceAt_string w' t _ _ _ _ ht,run_slice_string_h w' t b ht k j h0 h2]
end
end Go.AM
/-
 AM,part V:results that lean on what was handed in;calls that hand in nothing of the call's own.
-/
namespace Go.AM
def lV:G→G
 | .fr g=>g
 | .agg gs=>.agg (go gs)
 | .bj gs=>.bj (go gs)
 | .aM f gs=>.aM f (go gs)
 | g=>g
where go:List G→List G
 | []=>[]
 | g::r=>lV g::go r
theorem lj {gs:List G}:(lV.go gs).length=gs.length∧∀(j:Nat) (g':G),(lV.go gs)[j]?=some g'→∃g,gs[j]?=some g∧g'=lV g:=by
 induction gs with
 | nil=>exact⟨rfl,fun j g h=>by simp[lV.go] at h⟩
 | cons x r ih=>
  refine⟨by simp[lV.go,ih.1],fun j g' h=>?_⟩
  simp only[lV.go] at h
  cases j with
  | zero=>cases h;exact⟨x,rfl,rfl⟩
  | succ j=>exact ih.2 j g' h
theorem bA.Bz {O:Nat→Prop}{base:Nat}{w:World}{μ:Mu}{g:G}{v:Value}(h:bA O w g v):aW O base w μ (lV g) v:=by
 induction h with
 | any v=>exact .aF (.any v)
 | val v=>exact .aF (.val v)
 | nil=>exact .aF .nil
 | gM a c=>exact .aF (.gM a c)
 | sl n cells b off cap us h1 h2 h3 h4 h5 ih=>exact .aF (.sl n cells b off cap us h1 h2 h3 h4 h5)
 | ptr cells b off us h1 h2 h3 h4 ih=>exact .aF (.ptr cells b off us h1 h2 h3 h4)
 | agg cells us hl hr ih=>
  refine .agg _ us (by rw[lj.1];exact hl) fun j g v hg hv=>?_
  obtain⟨g0,h1,rfl⟩:=lj.2 j g hg
  exact ih j g0 v h1 hv
theorem aW.Bz {O:Nat→Prop}{base:Nat}{w:World}{μ:Mu}{g:G}{v:Value}(h:aW O base w μ g v):aW O base w μ (lV g) v:=by
 induction h with
 | aF h=>exact h.Bz
 | fr h=>exact .aF h.rD
 | loc h off b m hm=>exact .loc h off b m hm
 | eL h sz hm=>exact .eL h sz hm
 | aO h sz off n b m cap hm hn hc=>exact .aO h sz off n b m cap hm hn hc
 | dF h sz off0 b m hm hp=>exact .dF h sz off0 b m hm hp
 | agg cells us hl hr ih=>
  refine .agg _ us (by rw[lj.1];exact hl) fun j g v hg hv=>?_
  obtain⟨g0,h1,rfl⟩:=lj.2 j g hg
  exact ih j g0 v h1 hv
 | bj cells us hl hr ih=>
  refine .bj _ us (by rw[lj.1];exact hl) fun j g v hg hv=>?_
  obtain⟨g0,h1,rfl⟩:=lj.2 j g hg
  exact ih j g0 v h1 hv
 | aM f caps us hl hr ih=>
  refine .aM f _ us (by rw[lj.1];exact hl) fun j g v hg hv=>?_
  obtain⟨g0,h1,rfl⟩:=lj.2 j g hg
  exact ih j g0 v h1 hv
 | cq h b m hm=>exact .cq h b m hm
 | kp h i off b m c n hm hk=>exact .kp h i off b m c n hm hk
 | gW h i sz x cap hi=>exact .gW h i sz x cap hi
 | ks h i sz n b m c k cap hm hk hn hc=>exact .ks h i sz n b m c k cap hm hk hn hc
 | dR h b m hm=>exact .dR h b m hm
theorem GM.Bz {P:Program}{f:FuncId}{args:List G}{st:List (Nat×ap)}{R:G}{T:List (Nat×ap)→Prop}(h:GM P f args st (fun g st'=>lV g=R∧T st')):GM P f args st (fun g st'=>g=R∧T st'):=by
 intro X μ w vs h1 h2 h3 h4
 refine(h.returned X μ w vs h1 h2 h3 h4).mono fun e w' ⟨v,r,st',μ',e1,⟨e2,e3⟩,h5,h6⟩=>?_
 exact .inl ⟨v,lV r,st',μ',e1,⟨e2,e3⟩,h5,h6.Bz⟩
def fN:G→Option G
 | .val v=>some (ix v)
 | .sl n cs=>some (.sl n cs)
 | .ptr cs=>some (.ptr cs)
 | .fr g=>some g
 | .agg gs=>(go gs).map .agg
 | .aM f caps=>(go caps).map (.aM f)
 | _=>none
where go:List G→Option (List G)
 | []=>some []
 | g::r=>match fN g,go r with
  | some g',some r'=>some (g'::r')
  | _,_=>none
theorem oA:∀{gs gs':List G},fN.go gs=some gs'→gs'.length=gs.length∧∀(j:Nat) (g':G),gs'[j]?=some g'→∃g,gs[j]?=some g∧fN g=some g'
 | [],_,h=>by cases h;exact⟨rfl,fun j g h=>by simp at h⟩
 | g::r,gs',h=>by
  simp only[fN.go] at h
  cases h1:fN g with
  | none=>rw[h1] at h;cases h
  | some g1=>
   rw[h1] at h
   cases h2:fN.go r with
   | none=>rw[h2] at h;cases h
   | some r1=>
    rw[h2] at h
    cases h
    obtain⟨h3,h4⟩:=oA h2
    refine⟨by simp[h3],fun j g' hg'=>?_⟩
    cases j with
    | zero=>cases hg';exact⟨g,rfl,h1⟩
    | succ j=>exact h4 j g' hg'
theorem K7 {O:Nat→Prop}{base:Nat}{μ:Mu}{w:World}{g g':G}{v:Value}(h:bA O w g v) (hf:fN g=some g'):aW O base w μ g' v:=by
 induction h generalizing g' with
 | any v=>cases hf
 | val v=>
  cases hf
  unfold ix
  split
  ·exact .aF .nil
  ·exact .aF (.val _)
 | nil=>cases hf;exact .aF .nil
 | gM a c=>cases hf;exact .aF (.gM a c)
 | sl n cells b off cap us h1 h2 h3 h4 h5 ih=>cases hf;exact .aF (.sl n cells b off cap us h1 h2 h3 h4 h5)
 | ptr cells b off us h1 h2 h3 h4 ih=>cases hf;exact .aF (.ptr cells b off us h1 h2 h3 h4)
 | agg cells us hl hr ih=>
  simp only[fN,au] at hf
  obtain⟨gs',h1,rfl⟩:=hf
  obtain⟨h2,h3⟩:=oA h1
  refine .agg gs' us (by omega) fun j g v hg hv=>?_
  obtain⟨g0,h4,h5⟩:=h3 j g hg
  exact ih j g0 v h4 hv h5
theorem Jv {O:Nat→Prop}{base base':Nat}{μ μ':Mu}{w:World}{g g':G}{v:Value}(h:aW O base w μ g v) (hf:fN g=some g'):aW O base' w μ' g' v:=by
 induction h generalizing g' with
 | aF h=>exact K7 h hf
 | fr h=>cases hf;exact .aF h.rD
 | agg cells us hl hr ih=>
  simp only[fN,au] at hf
  obtain⟨gs',h1,rfl⟩:=hf
  obtain⟨h2,h3⟩:=oA h1
  refine .agg gs' us (by omega) fun j g v hg hv=>?_
  obtain⟨g0,h4,h5⟩:=h3 j g hg
  exact ih j g0 v h4 hv h5
 | aM f caps us hl hr ih=>
  simp only[fN,au] at hf
  obtain⟨gs',h1,rfl⟩:=hf
  obtain⟨h2,h3⟩:=oA h1
  refine .aM f gs' us (by omega) fun j g v hg hv=>?_
  obtain⟨g0,h4,h5⟩:=h3 j g hg
  exact ih j g0 v h4 hv h5
 | _=>cases hf
def lf:G→Bool
 | .val _=>true
 | .sl _ _=>true
 | .ptr _=>true
 | .fr _=>true
 | .agg gs=>go gs
 | .bj gs=>go gs
 | .aM _ gs=>go gs
 | _=>false
where go:List G→Bool
 | []=>true
 | g::r=>lf g&&go r
theorem qE {gs:List G}(h:lf.go gs=true):∀(j:Nat) (g:G),gs[j]?=some g→lf g=true:=by
 induction gs with
 | nil=>intro j g hg;simp at hg
 | cons x r ih=>
  simp only[lf.go,ai] at h
  intro j g hg
  cases j with
  | zero=>cases hg;exact h.1
  | succ j=>exact ih h.2 j g hg
theorem Mg {O O':Nat→Prop}{base base':Nat}{μ μ':Mu}{w:World}{g:G}{v:Value}(h:aW O base w μ g v) (hi:lf g=true) (hO:∀b,O' b→O b) (hb:∀b,b<base'→b<base):aW O' base' w μ' g v:=by
 induction h with
 | aF h=>exact .aF (h.mono (Kept.refl _ _) fun b _ hn ho=>hn (hO b ho))
 | fr h=>
  refine .fr (h.mono (Kept.refl _ _) ?_)
  rintro b _ hn (ho | ho)
  ·exact hn (.inl (hb b ho))
  ·exact hn (.inr (hO b ho))
 | agg cells us hl hr ih=>exact .agg cells us hl fun j g v hg hv=>ih j g v hg hv (qE hi j g hg)
 | bj cells us hl hr ih=>exact .bj cells us hl fun j g v hg hv=>ih j g v hg hv (qE hi j g hg)
 | aM f cells us hl hr ih=>exact .aM f cells us hl fun j g v hg hv=>ih j g v hg hv (qE hi j g hg)
 | _=>cases hi
section
variable {P:Program}{N:Nat}{cx:Cx}{s:St}
variable {ty:TypeId}{pos:String}{after:Array Edge}{guard:Option (Nat×Bool)}{W:List Nat}{d:Nat}
theorem CC {f:FuncId}{vs:List Value}{gs gs':List G}{Q:G→List (Nat×ap)→Prop}{μ:Mu}{a:Act}{w:World}(hr:Rel N cx μ s a w) (hv:dU fN gs=some gs')
  (hvs:vs.length=gs.length) (hrep:∀(j:Nat) (g:G) (v:Value),gs[j]?=some g→vs[j]?=some v→aW (cx.O s.st μ) cx.base w μ g v)
  (hcon:GM P f gs' [] Q) (hres:∀r st',Q r st'→lf r=true∧st'=[]):
  Calls P f vs.toArray w fun e w'=>∃v r st',e=.returned v∧Q r st'∧Rel N cx μ s a w'∧aW (cx.O s.st μ) cx.base w' μ r v∧Step W s.st μ s.st μ w w':=by
 obtain⟨h1,h2⟩:=oD hv
 have hX:∀b,cx.O s.st μ b→b<w.heap.size:=fun b hb=>by
  rcases hb with hb | hb
  ·have:=hr.st.dY b hb;have:=hr.st.hb;omega
  ·exact oc hr.st hb
 refine(hcon.returned (cx.O s.st μ) (fun _=>none) w vs hX (ye hX) (by omega) fun j g v hg hv=>?_).mono ?_
 ·obtain⟨g0,h3,h4⟩:=h2 j g hg
  have:=Jv (base':=w.heap.size) (μ':=fun _=>none) (hrep j g0 v h3 hv) h4
  exact this.mono (Kept.refl _ _) (fun b _ hn ho=>ho.elim hn sO) (az _)
 ·rintro e w' ⟨v,r,st',μ',rfl,hq,hst,hrv⟩
  have hkeep:∀b,b<w.heap.size→w'.heap[b]?=w.heap[b]?:=fun b hb=>hst.cY b hb sO
  obtain⟨hf,hs⟩:=hres r st' hq
  subst hs
  refine⟨v,r,[],rfl,hq,hr.kept hst.hb hkeep hst.os hst.tape hst.output,?_,⟨hst.hb,fun b hb _=>hkeep b hb,fun h k c m b hw h1 h2 hi=>.inl ⟨h,k,c,m,hw,h1,h2,hi⟩⟩⟩
  exact Mg hrv hf (fun b hb=>.inl hb) (fun b hb=>bU hb hr.st.hb)
theorem EF.RM {f:FuncId}{xs:Array Operand}{ts:Array TypeId}{gs gs':List G}{Q:G→List (Nat×ap)→Prop}(hc:∀args w,(callFunc f args).run P w=.ok (.enter f args) w)
  (hx:tF s xs.toList=some gs) (hv:dU fN gs=some gs') (hcon:GM P f gs' [] Q) (hres:∀r st',Q r st'→lf r=true∧st'=[]):
  bH P W s ⟨some d,.call ⟨.value (.func f),xs,ts⟩,ty,pos,after,guard⟩ (fun s'=>∃r st',Q r st'∧s'=s.put d r):=by
 refine⟨(fun _ h=>by cases h),?_⟩
 intro N cx μ a w hr hN K Q' hK
 obtain⟨h1,h2⟩:=ma hx
 have hcall:=CC (vs:=xs.toList.map a.eval) (W:=W) hr hv (by simp[h1]) (fun j g v hg hv=>by
  obtain⟨x,hxj,he⟩:=h2 j g hg
  rw[ay,hxj] at hv
  cases hv
  exact hr.ev he) hcon hres
 unfold Oper.wp
 have:(execOp a.eval ⟨some d,.call ⟨.value (.func f),xs,ts⟩,ty,pos,after,guard⟩).run P w=.ok (.enter f (xs.toList.map a.eval).toArray) w:=by
  have e:xs.map a.eval=(xs.toList.map a.eval).toArray:=by rw[←eg]
  simp[execOp,resolve,invoke,Deferred.ofValue,Act.eval,hc,e]
 rw[this]
 refine hcall.mono ?_
 rintro e w' ⟨v,r,st',rfl,hq,hr',hrv,hst⟩
 exact hK μ _ _ w' (hr'.put (hN d rfl) hrv) ⟨r,st',hq,rfl⟩ hst
end
end Go.AM
/-
 AM,part W:lists without references.
-/
namespace Go.AM
class Flat (α:Type) [aJ α]:Prop where
 flat:∀(a:α) (g:G),g∈aJ.cells a→∃v,g=.val v
instance:Flat Int:=⟨fun a g h=>by simp[aJ.cells] at h;exact⟨_,h⟩⟩
instance:Flat Bool:=⟨fun a g h=>by simp[aJ.cells] at h;exact⟨_,h⟩⟩
instance:Flat ByteArray:=⟨fun a g h=>by simp[aJ.cells] at h;exact⟨_,h⟩⟩
section
variable {α:Type}[aJ α] [Flat α]
variable {P:Program}{N:Nat}{cx:Cx}{Q:Exit→St→Prop}{s:St}{ops:Array Oper}{rest:List Oper}
theorem Rel.qp {μ:Mu}{a:Act}{w:World}(h:Rel N cx μ s a w){hh:Nat}{k:ap}{l:List α}(hk:aq s.st hh=some k) (hc:k.cells=cX l) (hp:k.pure=true) (hlp:k.lp=none):
  Rel N cx μ {fr:=s.fr,st:=bw s.st hh {k with fresh:=true},df:=s.df} a w:=by
 refine h.vm hk rfl rfl rfl (az _) hlp hlp fun j g' hg'=>⟨g',hg',fun v hv=>?_⟩
 simp only at hg'
 rw[hc] at hg'
 obtain⟨x,_,hx⟩:=g7.1 (ar hg')
 obtain⟨u,rfl⟩:=Flat.flat x g' hx
 unfold cv at hv⊢
 simp only[hp] at hv⊢
 cases hv
 exact .val _
theorem GL.qp (hh:Nat){k:ap}{l:List α}(hk:aq s.st hh=some k) (hc:k.cells=cX l) (hp:k.pure=true) (h:GL P N cx ops Q rest {fr:=s.fr,st:=bw s.st hh {k with fresh:=true},df:=s.df}) (hlp:k.lp=none:=by rfl):GL P N cx ops Q rest s:=
 fun μ a w hr=>h μ a w (hr.qp hk hc hp hlp)
theorem dO.qp {W:List Nat}{aI:Nat}{listed:Array Bool}(hh:Nat){k:ap}{l:List α}(hk:aq s.st hh=some k) (hc:k.cells=cX l) (hp:k.pure=true)
  (h:dO P N cx ops Q W aI listed {fr:=s.fr,st:=bw s.st hh {k with fresh:=true},df:=s.df}) (hlp:k.lp=none:=by rfl):dO P N cx ops Q W aI listed s:=fun ws Wb μ a w hr hS hW=>
 h ws Wb μ a w (hr.qp hk hc hp hlp) hS fun x k' c m b h1 h2 h3 h4=>by
  rcases cG hk h2 with ⟨rfl,rfl⟩ | ⟨_,h2⟩
  ·exact hW x k c m b h1 hk h3 h4
  ·exact hW x k' c m b h1 h2 h3 h4
end
section
variable {P:Program}{N:Nat}{cx:Cx}{Q:Exit→St→Prop}{s:St}{ops:Array Oper}{rest:List Oper}
end
section
variable {P:Program}{N:Nat}{cx:Cx}{Q:Exit→St→Prop}{s:St}{ops:Array Oper}
def tW (P:Program) (N:Nat) (cx:Cx) (ops:Array Oper) (Q:Exit→St→Prop) (W:List Nat) (aI:Nat) (listed:Array Bool) (s:St) (i:Nat):Prop:=
 ∀(ws:World) (Wb:Nat→Prop) (μ:Mu) (a:Act) (w:World),Rel N cx μ s a w→Sw ws Wb w→(∀h k c m b,h∈W→aq s.st h=some k→μ h=some (c,m)→In b c m→Wb b∨ws.heap.size≤b)→
  wpOp P ops (lift N cx Q) i (fun a' w'=>Sw ws Wb w'∧wpAnyH P .any ops (lift N cx Q) (Sw ws Wb) aI (listed.setIfInBounds i true) a' w') a w
theorem tW.y {W:List Nat}{aI:Nat}{listed:Array Bool}(i:Nat){o:Oper}{d:Nat}{g:G}(hi:ops[i]?=some o) (hw:cV ops s o.guard=some true) (hd:o.dst=some d) (hN:d<N) (hy:fw P [] s o g)
  (h:dO P N cx ops Q W aI (listed.setIfInBounds i true) (s.put d g)):tW P N cx ops Q W aI listed s i:=by
 intro ws Wb μ a w hrel hS hW
 obtain⟨v,hv,hrun⟩:=hy N cx μ a w hrel
 have hrun:=hrun w (az _) (fun _ _ _=>rfl)
 unfold wpOp
 simp only[hi]
 rw[if_pos (dK hrel hw)]
 refine .inl ?_
 unfold Oper.wp
 rw[hrun]
 show Sw ws Wb w∧_
 refine⟨hS,?_⟩
 rw[hd]
 exact h ws Wb μ _ w (hrel.put hN hv) hS hW
theorem tW.e {W:List Nat}{aI:Nat}{listed:Array Bool}(i:Nat){o:Oper}{T:St→Prop}(hi:ops[i]?=some o) (hw:cV ops s o.guard=some true) (hN:∀d,o.dst=some d→d<N) (he:bH P W s o T)
  (h:∀s',T s'→dO P N cx ops Q W aI (listed.setIfInBounds i true) s'):tW P N cx ops Q W aI listed s i:=by
 intro ws Wb μ a w hrel hS hW
 unfold wpOp
 simp only[hi]
 rw[if_pos (dK hrel hw)]
 have:=he.2 N cx μ a w hrel hN (fun a' w'=>Sw ws Wb w'∧wpAnyH P .any ops (lift N cx Q) (Sw ws Wb) aI (listed.setIfInBounds i true) a' w') (lift N cx Q) ?_
 ·exact .inl this
 ·intro μ' s' a' w' hrel' ht hst
  have hS':Sw ws Wb w':=by
   refine⟨cH hS.size hst.size,fun b hb hn=>?_⟩
   rw[hst.block b (bU hb hS.size) ?_]
   ·exact hS.block b hb hn
   ·intro h k c m h1 h2 h3 hi
    rcases hW h k c m b h1 h2 h3 hi with h4 | h4
    ·exact hn h4
    ·omega
  refine⟨hS',h s' ht ws Wb μ' a' w' hrel' hS' ?_⟩
  intro h k' c m b h1 h2 h3 hi
  rcases hst.hand h k' c m b h1 h2 h3 hi with ⟨h0,k,c0,m0,hw0,h4,h5,h6⟩ | h4
  ·exact hW h0 k c0 m0 b hw0 h4 h5 h6
  ·exact .inr (cH hS.size h4)
theorem tW.eP {W:List Nat}{aI:Nat}{listed:Array Bool}(i:Nat){o:Oper}{T:St→Prop}{Tp:List PanicEntry→St→Prop}(hi:ops[i]?=some o) (hw:cV ops s o.guard=some true) (hN:∀d,o.dst=some d→d<N) (he:li P W s o T Tp)
  (h:∀s',T s'→dO P N cx ops Q W aI (listed.setIfInBounds i true) s') (hp:∀ch s',Tp ch s'→Q (.panic ch) s'):tW P N cx ops Q W aI listed s i:=by
 intro ws Wb μ a w hrel hS hW
 unfold wpOp
 simp only[hi]
 rw[if_pos (dK hrel hw)]
 have:=he.2 N cx μ a w hrel hN (fun a' w'=>Sw ws Wb w'∧wpAnyH P .any ops (lift N cx Q) (Sw ws Wb) aI (listed.setIfInBounds i true) a' w') (lift N cx Q) ?_ (fun ch μ' s' w' hr' ht=>⟨μ',s',hr',hp ch s' ht⟩)
 ·exact .inl this
 ·intro μ' s' a' w' hrel' ht hst
  have hS':Sw ws Wb w':=by
   refine⟨cH hS.size hst.size,fun b hb hn=>?_⟩
   rw[hst.block b (bU hb hS.size) ?_]
   ·exact hS.block b hb hn
   ·intro h k c m h1 h2 h3 hi
    rcases hW h k c m b h1 h2 h3 hi with h4 | h4
    ·exact hn h4
    ·omega
  refine⟨hS',h s' ht ws Wb μ' a' w' hrel' hS' ?_⟩
  intro h k' c m b h1 h2 h3 hi
  rcases hst.hand h k' c m b h1 h2 h3 hi with ⟨h0,k,c0,m0,hw0,h4,h5,h6⟩ | h4
  ·exact hW h0 k c0 m0 b hw0 h4 h5 h6
  ·exact .inr (cH hS.size h4)
def CM (P:Program) (N:Nat) (cx:Cx) (ops:Array Oper) (Q:Exit→St→Prop) (W:List Nat) (aI:Nat) (listed:Array Bool) (s:St):List Nat→Prop
 | []=>True
 | i::r=>tW P N cx ops Q W aI listed s i∧CM P N cx ops Q W aI listed s r
theorem CM.get {W:List Nat}{aI:Nat}{listed:Array Bool}:∀{rs:List Nat},CM P N cx ops Q W aI listed s rs→∀i∈rs,tW P N cx ops Q W aI listed s i
 | [],_,_,h=>by cases h
 | j::r,⟨h1,h2⟩,i,h=>by
  rcases aX.1 h with rfl | h
  ·exact h1
  ·exact CM.get h2 i h
theorem dO.any {W:List Nat}{aI:Nat}{listed:Array Bool}(i:Nat) (r:List Nat) (hr:Region.ready .any ops listed=i::r) (h:CM P N cx ops Q W aI listed s (i::r)):dO P N cx ops Q W (aI+1) listed s:=by
 intro ws Wb μ a w hrel hS hW
 refine wpAnyH_all hr (by simp) fun j hj=>h.get j hj ws Wb μ a w hrel hS hW
end
end Go.AM
/-
 AM,part X:calls to which blocks of the caller's own are lent:how handles are told anew,there and back.
-/
namespace Go.AM
def dr:List Nat→Nat→Option Nat
 | [],_=>none
 | x::r,h=>bif Nat.beq x h then some 0 else(dr r h).map (·+1)
theorem ec:∀{H:List Nat}{h i:Nat},dr H h=some i→H[i]?=some h
 | [],_,_,e=>by cases e
 | x::r,h,i,e=>by
  simp only[dr] at e
  cases hb:Nat.beq x h with
  | true=>rw[hb] at e;cases e;have:=aa hb;subst this;rfl
  | false=>
   rw[hb] at e
   obtain⟨n,h1,h2⟩:=au.1 e
   subst h2
   exact ec (H:=r) h1
theorem mY:∀{H:List Nat}{h:Nat},dr H h=none→h∉H
 | [],_,_=>fun h=>by cases h
 | x::r,h,e=>by
  simp only[dr] at e
  cases hb:Nat.beq x h with
  | true=>rw[hb] at e;cases e
  | false=>
   rw[hb] at e
   intro hm
   rcases aX.1 hm with rfl | hm
   ·rw[aG] at hb;cases hb
   ·exact mY (Option.map_eq_none_iff.1 e) hm
def cg (H:List Nat) (stv:List (Nat×ap)):G→Option G
 | .loc h off=>match dr H h with
  | some i=>some (.loc (1000+i) off)
  | none=>view 4 stv (.loc h off)
 | .aO h sz off m=>match dr H h with
  | some i=>some (.aO (1000+i) sz off m)
  | none=>view 4 stv (.aO h sz off m)
 | .cq h=>match dr H h with
  | some i=>some (.cq (1000+i))
  | none=>none
 | .dR h=>match dr H h with
  | some i=>some (.dR (1000+i))
  | none=>none
 | .kp h j off=>match dr H h with
  | some i=>some (.kp (1000+i) j off)
  | none=>none
 | .ks h j sz n=>match dr H h with
  | some i=>some (.ks (1000+i) j sz n)
  | none=>none
 | .agg gs=>(go gs).map .agg
 | .aM f gs=>(go gs).map (.aM f)
 | .val v=>some (ix v)
 | .sl n cs=>some (.sl n cs)
 | .ptr cs=>some (.ptr cs)
 | .fr g=>some g
 | _=>none
where go:List G→Option (List G)
 | []=>some []
 | g::r=>match cg H stv g,go r with
  | some g',some r'=>some (g'::r')
  | _,_=>none
theorem lL {H:List Nat}{stv:List (Nat×ap)}:∀{gs gs':List G},cg.go H stv gs=some gs'→gs'.length=gs.length∧∀(j:Nat) (g':G),gs'[j]?=some g'→∃g,gs[j]?=some g∧cg H stv g=some g'
 | [],_,h=>by cases h;exact⟨rfl,fun j g h=>by simp at h⟩
 | g::r,gs',h=>by
  simp only[cg.go] at h
  cases h1:cg H stv g with
  | none=>rw[h1] at h;cases h
  | some g1=>
   rw[h1] at h
   cases h2:cg.go H stv r with
   | none=>rw[h2] at h;cases h
   | some r1=>
    rw[h2] at h
    cases h
    obtain⟨h3,h4⟩:=lL h2
    refine⟨by simp[h3],fun j g' hg'=>?_⟩
    cases j with
    | zero=>cases hg';exact⟨g,rfl,h1⟩
    | succ j=>exact h4 j g' hg'
def pH (H:List Nat) (stv:List (Nat×ap)) (k:ap):Option ap:=
 bif k.pure then some {k with ct:=false,fresh:=false} else match cg.go H stv k.cells with
  | some cs=>some {k with ct:=false,fresh:=false,cells:=cs}
  | none=>none
theorem Ko {H:List Nat}{stv:List (Nat×ap)}{k k':ap}(h:pH H stv k=some k'):k'.ct=false:=by
 unfold pH at h
 cases hp:k.pure with
 | true=>rw[hp] at h;cases h;rfl
 | false=>
  rw[hp,cond_false] at h
  split at h
  ·cases h;rfl
  ·cases h
def fC (H:List Nat) (stv st:List (Nat×ap)):List Nat→Nat→Option (List (Nat×ap))
 | [],_=>some []
 | h::r,i=>match aq st h with
  | some k=>match pH H stv k,fC H stv st r (i+1) with
   | some k',some r'=>some ((1000+i,k')::r')
   | _,_=>none
  | none=>none
theorem nC {H:List Nat}{stv st:List (Nat×ap)}:∀{r:List Nat}{i:Nat}{stC:List (Nat×ap)},fC H stv st r i=some stC→∀{j:Nat}{k':ap},aq stC j=some k'→
  ∃n h k,j=1000+(i+n)∧r[n]?=some h∧aq st h=some k∧pH H stv k=some k'
 | [],_,_,e,_,_,h=>by cases e;cases h
 | x::r,i,stC,e,j,k',h=>by
  simp only[fC] at e
  cases hk:aq st x with
  | none=>rw[hk] at e;cases e
  | some k=>
   rw[hk] at e
   dsimp only at e
   cases h1:pH H stv k with
   | none=>rw[h1] at e;cases e
   | some k1=>
    rw[h1] at e
    cases h2:fC H stv st r (i+1) with
    | none=>rw[h2] at e;cases e
    | some r'=>
     rw[h2] at e
     cases e
     simp only[aq] at h
     cases hb:Nat.beq (1000+i) j with
     | true=>
      rw[hb] at h
      cases h
      exact⟨0,x,k,(aa hb).symm,rfl,hk,h1⟩
     | false=>
      rw[hb] at h
      obtain⟨n,y,k2,e1,e2,e3,e4⟩:=nC h2 h
      exact⟨n+1,y,k2,by omega,e2,e3,e4⟩
theorem Ce {H:List Nat}{stv st:List (Nat×ap)}:∀{r:List Nat}{i:Nat}{stC:List (Nat×ap)},fC H stv st r i=some stC→∀{n h:Nat},r[n]?=some h→(∃k',aq stC (1000+(i+n))=some k')∧∃k,aq st h=some k
 | [],_,_,_,_,_,h=>by cases h
 | x::r,i,stC,e,n,y,h=>by
  simp only[fC] at e
  cases hk:aq st x with
  | none=>rw[hk] at e;cases e
  | some k=>
   rw[hk] at e
   dsimp only at e
   cases h1:pH H stv k with
   | none=>rw[h1] at e;cases e
   | some k1=>
    rw[h1] at e
    cases h2:fC H stv st r (i+1) with
    | none=>rw[h2] at e;cases e
    | some r'=>
     rw[h2] at e
     cases e
     cases n with
     | zero=>cases h;exact⟨⟨k1,by rw[di,dm]⟩,k,hk⟩
     | succ n=>
      obtain⟨⟨k',h3⟩,h4⟩:=Ce h2 (n:=n) (h:=y) h
      refine⟨⟨k',?_⟩,h4⟩
      rw[aD _ _ (by omega),show 1000+(i+(n+1))=1000+(i+1+n) by omega]
      exact h3
def je (H:List Nat) (μ:Mu):Mu:=fun j=>bif pinned j then(H[j-1000]?).bind μ else none
theorem px (i:Nat):pinned (1000+i)=true:=Nat.ble_eq_true_of_le (by omega)
theorem jd {H:List Nat}{μ:Mu}{i h:Nat}(e:H[i]?=some h):je H μ (1000+i)=μ h:=by
 unfold je
 rw[px,cond_true,show 1000+i-1000=i by omega,e]
 rfl
def ft (H:List Nat):List (Nat×ap)→List (Nat×ap)
 | []=>[]
 | (h,k)::r=>match dr H h with
  | some _=>ft H r
  | none=>(h,k)::ft H r
theorem rC {H:List Nat}{h:Nat}{k:ap}:∀{st:List (Nat×ap)},aq (ft H st) h=some k→dr H h=none∧aq st h=some k
 | [],e=>by cases e
 | (x,k')::r,e=>by
  simp only[ft] at e
  cases hx:dr H x with
  | some i=>
   rw[hx] at e
   obtain⟨h1,h2⟩:=rC e
   refine⟨h1,?_⟩
   rw[aD _ _ fun e=>by subst e;rw[hx] at h1;cases h1]
   exact h2
  | none=>
   rw[hx] at e
   simp only[aq] at e⊢
   cases hb:Nat.beq x h with
   | true=>
    rw[hb] at e
    have:=aa hb
    subst this
    exact⟨hx,e⟩
   | false=>rw[hb] at e;exact rC e
theorem wA {H:List Nat}{h:Nat}{k:ap}(hi:dr H h=none):∀{st:List (Nat×ap)},aq st h=some k→aq (ft H st) h=some k
 | [],e=>by cases e
 | (x,k')::r,e=>by
  simp only[ft]
  simp only[aq] at e
  cases hb:Nat.beq x h with
  | true=>
   rw[hb] at e
   have:=aa hb
   subst this
   rw[hi]
   simp only[aq,aG]
   exact e
  | false=>
   rw[hb] at e
   have:=wA hi (st:=r) e
   split
   ·exact this
   ·simp only[aq,hb];exact this
def iY (cx:Cx) (st:List (Nat×ap)) (μ:Mu) (H:List Nat) (vw:Bool):Nat→Prop:=fun b=>cx.X b∨(vw=false∧Own (ft H st) μ b)
def ew (st:List (Nat×ap)) (H:List Nat) (vw:Bool):List (Nat×ap):=bif vw then ft H st else[]
section
variable {P:Program}{N:Nat}{cx:Cx}{s:St}
theorem jz {st stC stv:List (Nat×ap)}{H:List Nat}{μ:Mu}(hls:fC H stv st H 0=some stC){b:Nat}(ho:Own stC (je H μ) b):∃(i h:Nat) (k:ap) (c:Nat) (m:Mm),H[i]?=some h∧aq st h=some k∧μ h=some (c,m)∧In b c m:=by
 obtain⟨j,k',c,m,h1,h2,hi⟩:=ho
 obtain⟨n,h,k,rfl,e2,e3,_⟩:=nC hls h1
 rw[bQ,jd e2] at h2
 exact⟨n,h,k,c,m,e2,e3,h2,hi⟩
theorem vt {st:List (Nat×ap)}{H:List Nat}{μ:Mu}{b:Nat}(ho:Own (ft H st) μ b):∃h k c m,dr H h=none∧aq st h=some k∧μ h=some (c,m)∧In b c m:=by
 obtain⟨h,k,c,m,h1,h2,hi⟩:=ho
 obtain⟨h3,h4⟩:=rC h1
 exact⟨h,k,c,m,h3,h4,h2,hi⟩
theorem lK {H:List Nat}{i h:Nat}(e:H[i]?=some h):h∈H:=ar e
theorem qz {st:List (Nat×ap)}{H:List Nat}{μ:Mu}{w:World}(hst:cN cx μ st w){i h h' b c c':Nat}{m m':Mm}{k k':ap}(e:H[i]?=some h) (hk:aq st h=some k) (hm:μ h=some (c,m)) (hi:In b c m) (e':dr H h'=none) (hk':aq st h'=some k') (hm':μ h'=some (c',m')) (hi':In b c' m'):False:=by
 have:=hst.cz h h' k k' b c m c' m' hk hk' hm hm' hi hi'
 subst this
 exact mY e' (lK e)
theorem OO {st stC stv:List (Nat×ap)}{H:List Nat}{μ:Mu}(vw:Bool) (hls:fC H stv st H 0=some stC) (w:World) (b:Nat) (ho:(jr (iY cx st μ H vw) stC (je H μ) w).O stC (je H μ) b):cx.O st μ b:=by
 rcases ho with (ho | ⟨_,ho⟩) | ho
 ·exact .inl ho
 ·obtain⟨h,k,c,m,_,h2,h3,hi⟩:=vt ho;exact .inr ⟨h,k,c,m,h2,h3,hi⟩
 ·obtain⟨i,h,k,c,m,_,h2,h3,hi⟩:=jz hls ho;exact .inr ⟨h,k,c,m,h2,h3,hi⟩
theorem pG {st stC:List (Nat×ap)}{H:List Nat}{vw:Bool}{μ:Mu}{w:World}(hst:cN cx μ st w) (hls:fC H (ew st H vw) st H 0=some stC){g g':G}{v:Value}(hv:aW (cx.O st μ) cx.base w μ g v)
  (hg:cg H (ew st H vw) g=some g'):aW ((jr (iY cx st μ H vw) stC (je H μ) w).O stC (je H μ)) w.heap.size w (je H μ) g' v:=by
 have hO:=OO (cx:=cx) (μ:=μ) vw hls w
 generalize hOd:(jr (iY cx st μ H vw) stC (je H μ) w).O stC (je H μ)=O' at hO
 have hstv:∀h k,aq (ew st H vw) h=some k→vw=true∧dr H h=none∧aq st h=some k:=by
  intro h k hk
  unfold ew at hk
  cases vw with
  | true=>exact⟨rfl,rC hk⟩
  | false=>cases hk
 have look:∀{g g':G}{v:Value},aW (cx.O st μ) cx.base w μ g v→view 4 (ew st H vw) g=some g'→bA O' w g' v:=by
  intro g g' v hv hg
  refine vZ (fun h k hk=>hst.c8 h k (hstv h k hk).2.2) (fun h k b m x hk hm hi' ho=>?_) hO 4 hv hg
  obtain⟨e0,e1,e2⟩:=hstv h k hk
  rw[←hOd] at ho
  rcases ho with (ho | ⟨ho,_⟩) | ho
  ·exact(hst.bR h k b m x e2 hm hi').1 ho
  ·rw[e0] at ho;cases ho
  ·obtain⟨i,h',k',c',m',h1,h2,h3,hi⟩:=jz hls ho
   exact qz hst h1 h2 h3 hi e1 e2 hm hi'
 have aF:∀{g:G}{v:Value},bA (cx.O st μ) w g v→∀{g'},cg H (ew st H vw) g=some g'→aW O' w.heap.size w (je H μ) g' v:=by
  intro g v h
  induction h with
  | any v=>intro g' hg;cases hg
  | val v=>intro g' hg;cases hg;exact .aF (rp v)
  | nil=>intro g' hg;cases hg;exact .aF .nil
  | gM a c=>intro g' hg;cases hg;exact .aF (.gM a c)
  | sl n cells b off cap us h1 h2 h3 h4 h5 ih=>intro g' hg;cases hg;exact .aF ((bA.sl n cells b off cap us h1 h2 h3 h4 h5).mono (Kept.refl _ _) fun b _ hn ho=>hn (hO b ho))
  | ptr cells b off us h1 h2 h3 h4 ih=>intro g' hg;cases hg;exact .aF ((bA.ptr cells b off us h1 h2 h3 h4).mono (Kept.refl _ _) fun b _ hn ho=>hn (hO b ho))
  | agg cells us hl hr ih=>
   intro g' hg
   simp only[cg,au] at hg
   obtain⟨gs',h1,rfl⟩:=hg
   obtain⟨h2,h3⟩:=lL h1
   refine .agg gs' us (by omega) fun j g v hg hv=>?_
   obtain⟨g0,h4,h5⟩:=h3 j g hg
   exact ih j g0 v h4 hv h5
 induction hv generalizing g' with
 | aF h=>exact aF h hg
 | fr h=>cases hg;exact .aF (h.rD.mono (Kept.refl _ _) fun b _ hn ho=>hn (hO b ho))
 | loc h off b m hm=>
  simp only[cg] at hg
  cases hi:dr H h with
  | some i=>rw[hi] at hg;cases hg;exact .loc _ _ b m (by rw[jd (ec hi)];exact hm)
  | none=>rw[hi] at hg;exact .aF (look (.loc h off b m hm) hg)
 | eL h sz hm=>
  simp only[cg] at hg
  cases hi:dr H h with
  | some i=>rw[hi] at hg;cases hg;exact .eL _ _ (by rw[jd (ec hi)];exact hm)
  | none=>rw[hi] at hg;exact .aF (look (.eL h sz hm) hg)
 | aO h sz off n b m cap hm hn hc=>
  simp only[cg] at hg
  cases hi:dr H h with
  | some i=>rw[hi] at hg;cases hg;exact .aO _ _ _ _ b m cap (by rw[jd (ec hi)];exact hm) hn hc
  | none=>rw[hi] at hg;exact .aF (look (.aO h sz off n b m cap hm hn hc) hg)
 | dF h sz off0 b m hm hpos=>
  simp only[cg] at hg
  cases hi:dr H h with
  | some i=>rw[hi] at hg;cases hg;exact .dF _ _ off0 b m (by rw[jd (ec hi)];exact hm) hpos
  | none=>rw[hi] at hg;exact .aF (look (.dF h sz off0 b m hm hpos) hg)
 | agg cells us hl hr ih=>
  simp only[cg,au] at hg
  obtain⟨gs',h1,rfl⟩:=hg
  obtain⟨h2,h3⟩:=lL h1
  refine .agg gs' us (by omega) fun j g v hg hv=>?_
  obtain⟨g0,h4,h5⟩:=h3 j g hg
  exact ih j g0 v h4 hv h5
 | bj cells us hl hr ih=>cases hg
 | aM f caps us hl hr ih=>
  simp only[cg,au] at hg
  obtain⟨gs',h1,rfl⟩:=hg
  obtain⟨h2,h3⟩:=lL h1
  refine .aM f gs' us (by omega) fun j g v hg hv=>?_
  obtain⟨g0,h4,h5⟩:=h3 j g hg
  exact ih j g0 v h4 hv h5
 | cq h b m hm=>
  simp only[cg] at hg
  cases hi:dr H h with
  | some i=>rw[hi] at hg;cases hg;exact .cq _ b m (by rw[jd (ec hi)];exact hm)
  | none=>rw[hi] at hg;cases hg
 | dR h b m hm=>
  simp only[cg] at hg
  cases hi:dr H h with
  | some i=>rw[hi] at hg;cases hg;exact .dR _ b m (by rw[jd (ec hi)];exact hm)
  | none=>rw[hi] at hg;cases hg
 | kp h j off b m c n hm hk=>
  simp only[cg] at hg
  cases hi:dr H h with
  | some i=>rw[hi] at hg;cases hg;exact .kp _ j off b m c n (by rw[jd (ec hi)];exact hm) hk
  | none=>rw[hi] at hg;cases hg
 | gW h j sz x cap hb=>
  simp only[cg] at hg
  cases hi:dr H h with
  | some i=>rw[hi] at hg;cases hg;exact .gW _ j sz x cap hb
  | none=>rw[hi] at hg;cases hg
 | ks h j sz n b m c k cap hm hk hn hc=>
  simp only[cg] at hg
  cases hi:dr H h with
  | some i=>rw[hi] at hg;cases hg;exact .ks _ j sz n b m c k cap (by rw[jd (ec hi)];exact hm) hk hn hc
  | none=>rw[hi] at hg;cases hg
theorem G1 {st stC:List (Nat×ap)}{H:List Nat}{vw:Bool}{μ:Mu}{w:World}(hst:cN cx μ st w) (hls:fC H (ew st H vw) st H 0=some stC) (cP:H.Nodup):
  cN (jr (iY cx st μ H vw) stC (je H μ) w) (je H μ) stC w:=by
 have hO:=OO (cx:=cx) (μ:=μ) vw hls w
 refine {c8:=?_,cz:=?_,bR:=?_,dZ:=fun _ _ _ _=>.inl rfl,dY:=?_,hb:=az _,os:=rfl,tape:=rfl,output:=rfl,cY:=fun _ _ _=>rfl}
 ·intro j k' hk'
  obtain⟨n,h,k,rfl,e2,e3,e4⟩:=nC hls hk'
  rw[bQ,jd e2]
  have hb:=hst.c8 h k e3
  unfold pH at e4
  cases hp:k.pure with
  | true=>
   rw[hp] at e4
   cases e4
   cases hm:μ h with
   | none=>rw[hm] at hb;exact hb.ti rfl rfl hp.symm
   | some bm=>
    obtain⟨b,m⟩:=bm
    rw[hm] at hb
    cases hl:k.lp with
    | none=>
     obtain⟨cs,h1,h2,h3,h4,h5,h6⟩:=hb.cells hl
     refine .mk rfl (hb.kf hl) ⟨cs,h1,h2,h3,(fun h=>by cases h),h5,fun j g hg=>?_⟩
     obtain⟨v,hv,hrv⟩:=h6 j g hg
     refine⟨v,hv,?_⟩
     unfold cv at hrv⊢
     simp only[hp] at hrv⊢
     have hrv:=hrv.flag (f':=false) (fun h=>by cases h)
     exact bA.mono hrv (Kept.refl _ _) fun b _ hn ho=>hn (hO b ho)
    | some kd=>
     cases kd with
     | loop lp=>
      obtain⟨D,vs,_,_,_,h4,_⟩:=(aN.loop hl).1 hb
      rw[hp] at h4;cases h4
     | deep d=>
      obtain⟨h1,h2,h3,h4⟩:=(aN.deep hl).1 hb
      refine(aN.deep rfl).2 ⟨d.mono h1 (Kept.refl _ _) (fun x _ hn ho=>hn ?_) (fun _ _=>rfl),rfl,h3,fun h=>by cases h⟩
      cases k.fresh with
      | false=>exact hO x ho
      | true=>exact .inr (hO x ho)
  | false=>
   rw[hp,cond_false] at e4
   cases hgo:cg.go H (ew st H vw) k.cells with
   | none=>rw[hgo] at e4;cases e4
   | some cs'=>
    rw[hgo] at e4
    cases e4
    obtain⟨q1,q2⟩:=lL hgo
    cases hm:μ h with
    | none=>
     rw[hm] at hb
     obtain⟨hb1,hb2⟩:=hb
     refine⟨bl (by simp only;rw[q1,hb1];rfl),?_⟩
     dsimp only
     split at hb2
     ·trivial
     ·exact hb2.elim
     ·rw[hp] at hb2;cases hb2.2
    | some bm=>
     obtain⟨b,m⟩:=bm
     rw[hm] at hb
     cases hl:k.lp with
     | none=>
      obtain⟨cs,h1,h2,h3,h4,h5,h6⟩:=hb.cells hl
      refine .mk rfl (hb.kf hl) ⟨cs,h1,h2,by simp only;omega,(fun h=>by cases h),h5,fun j g hg=>?_⟩
      obtain⟨g0,q3,q4⟩:=q2 j g hg
      obtain⟨v,hv,hrv⟩:=h6 j g0 q3
      refine⟨v,hv,?_⟩
      unfold cv at hrv⊢
      simp only[hp] at hrv⊢
      exact pG hst hls hrv q4
     | some kd=>
      cases kd with
      | deep d=>have:=((aN.deep hl).1 hb).2.1;rw[hp] at this;cases this
      | loop lp=>
       obtain⟨D,vs,h1,h2,h3,h4,h5⟩:=(aN.loop hl).1 hb
       refine(aN.loop rfl).2 ⟨D,vs,h1,h2,rfl,rfl,fun j t g ht hg=>?_⟩
       obtain⟨g0,q3,q4⟩:=q2 j g hg
       obtain⟨v,hv,hrv⟩:=h5 j t g0 ht q3
       exact⟨v,hv,pG hst hls hrv q4⟩
 ·intro j j' k1 k2 y b m b' m' h1 h2 h3 h4 hi hi'
  obtain⟨n,h,k,rfl,e2,e3,_⟩:=nC hls h1
  obtain⟨n',h',k',rfl,e2',e3',_⟩:=nC hls h2
  rw[bQ,jd e2] at h3
  rw[bQ,jd e2'] at h4
  have:=hst.cz h h' k k' y b m b' m' e3 e3' h3 h4 hi hi'
  subst this
  have:=(List.getElem?_inj (al.1 e2).1 cP).1 (e2.trans e2'.symm)
  subst this
  rfl
 ·intro j k1 b m y h1 h2 hi
  obtain⟨n,h,k,rfl,e2,e3,e4⟩:=nC hls h1
  have hA:Own stC (je H μ) y:=⟨_,_,_,_,h1,h2,hi⟩
  rw[bQ,jd e2] at h2
  refine⟨?_,.inr hA,(hst.bR h k b m y e3 h2 hi).2.2.1,fun hm=>?_⟩
  ·rintro(ho | ⟨_,ho⟩)
   ·exact(hst.bR h k b m y e3 h2 hi).1 ho
   ·obtain⟨h',k',c',m',q1,q2,q3,q4⟩:=vt ho
    exact qz hst e2 e3 h2 hi q1 q2 q3 q4
  ·rw[Ko e4] at hm;cases hm
 ·rintro b (ho | ⟨_,ho⟩)
  ·have:=hst.dY b ho;have:=hst.hb;show b<w.heap.size;omega
  ·obtain⟨h',k',c',m',q1,q2,q3,q4⟩:=vt ho
   exact oc hst ⟨h',k',c',m',q2,q3,q4⟩
end
end Go.AM
/-
 AM,part Y:plain facts of partial functions.
-/
namespace Go.AM
theorem uu {σ ρ:Type}{body:σ→Option (σ⊕ρ)}(I:σ→Prop) (m:σ→Nat) (R:ρ→Prop)
  (hstep:∀x,I x→(∃x',body x=some (.inl x')∧I x'∧m x'<m x)∨∃r,body x=some (.inr r)∧R r):
  ∀(n:Nat) (x:σ),I x→m x<n→∃r,aB body n x=some r∧R r:=by
 intro n
 induction n with
 | zero=>intro x _ h;omega
 | succ n ih=>
  intro x hI hm
  rcases hstep x hI with ⟨x',h1,h2,h3⟩ | ⟨r,h1,h2⟩
  ·obtain⟨r,h4,h5⟩:=ih x' h2 (by omega)
   exact⟨r,by simp only[aB,h1];exact h4,h5⟩
  ·exact⟨r,by simp only[aB,h1],h2⟩
theorem L4 {σ ρ:Type}{body:σ→Option (σ⊕ρ)}(I:σ→Prop) (m:σ→Nat) (v:ρ)
  (hstep:∀x,I x→(∃x',body x=some (.inl x')∧I x'∧m x'<m x)∨body x=some (.inr v)) (n:Nat) (x:σ) (hI:I x) (hm:m x<n):aB body n x=some v:=by
 obtain⟨r,h1,h2⟩:=uu I m (·=v) (fun x hx=>(hstep x hx).imp id fun h=>⟨v,h,rfl⟩) n x hI hm
 rw[h1,h2]
theorem bJ {α:Type}{l:List α}{i:Nat}{x:α}(h:l[i]?=some x):idx l (i:Int)=some x:=by
 unfold idx
 rw[if_pos (by omega)]
 simpa using h
theorem bK {p:Prop}[Decidable p] (h:p):bq p=some ():=by unfold bq;rw[if_pos h]
theorem i64 {n:Int}(h0:-9223372036854775808≤n) (h1:n≤9223372036854775807):IntKind.i64.wrap n=n:=IntWalk.i64_in n ⟨h0,h1⟩
theorem u64 {n:Int}(h0:0≤n) (h1:n≤18446744073709551615):IntKind.u64.wrap n=n:=IntWalk.u64_in n ⟨h0,h1⟩
def jo {σ α ρ:Type}(g:σ→α→Option (σ⊕ρ)) (e:σ→ρ):σ→List α→Option ρ
 | s,[]=>some (e s)
 | s,x::r=>match g s x with
  | some (.inl s')=>jo g e s' r
  | some (.inr v)=>some v
  | none=>none
def en {σ τ ρ:Type}(f:σ→τ):Option (σ⊕ρ)→Option (τ⊕ρ)
 | some (.inl s)=>some (.inl (f s))
 | some (.inr r)=>some (.inr r)
 | none=>none
theorem jO {σ τ α ρ:Type}{body:τ→Option (τ⊕ρ)}(l:List α) (st:σ→Int→τ) (g:σ→α→Option (σ⊕ρ)) (e:σ→ρ)
  (hbody:∀(s:σ) (k:Nat) (x:α),l[k]?=some x→body (st s k)=en (fun s'=>st s' ((k+1:Nat):Int)) (g s x)) (hend:∀s:σ,body (st s (l.length:Int))=some (.inr (e s)))
  (n:Nat) (hn:l.length<n) (s:σ):aB body n (st s 0)=jo g e s l:=by
 have key:∀(m k n:Nat) (s:σ),m=l.length-k→k≤l.length→m<n→aB body n (st s (k:Int))=jo g e s (l.drop k):=by
  intro m
  induction m with
  | zero=>
   intro k n s hm hk hn
   obtain rfl:k=l.length:=by omega
   cases n with
   | zero=>omega
   | succ n=>simp only[aB,hend,np,jo]
  | succ m ih=>
   intro k n s hm hk hn
   cases n with
   | zero=>omega
   | succ n=>
    have hlt:k<l.length:=by omega
    have hx:l[k]?=some l[k]:=ag hlt
    rw[bV hlt]
    simp only[aB,hbody s k _ hx,jo]
    cases hg:g s l[k] with
    | none=>simp only[en]
    | some o=>
     cases o with
     | inl s'=>simp only[en];exact ih (k+1) n s' (by omega) (by omega) (by omega)
     | inr v=>simp only[en]
 have:=key l.length 0 n s (by omega) (by omega) hn
 simpa using this
theorem du {k n:Nat}(h:k<n) (hn:n≤9223372036854775807):IntKind.i64.wrap ((k:Int)+1)=((k+1:Nat):Int):=by
 rw[i64 (by omega) (by omega)];omega
theorem eT {α:Type}{l:List α}{k:Nat}{x:α}(h:l[k]?=some x):k<l.length:=(al.1 h).1
theorem dec_lt {α:Type}{l:List α}{k:Nat}{x:α}(h:l[k]?=some x):decide ((k:Int)<(l.length:Int))=true:=by have:=eT h;simp;omega
theorem ff {α:Type}(l:List α):decide ((l.length:Int)<(l.length:Int))=false:=by simp
section
variable {α:Type}[DecidableEq α]
theorem KJ (a b:List α) (hl:a.length=b.length) (h63:a.length≤9223372036854775807) (n:Nat) (hn:a.length<n):
  aB (fun i:Int=>cond (decide (i<(List.length a:Int))) ((idx a i).bind fun x2=>(idx b i).bind fun x3=>cond (x2 !=x3) (some (.inr (.ret false))) (some (.inl (IntKind.i64.wrap (i+1))))) (some (.inr (.dS ())))) n 0=
   some (if a=b then Ex.dS () else Ex.ret false):=by
 have h1:=jO (σ:=Unit) (body:=fun i:Int=>cond (decide (i<(List.length a:Int))) ((idx a i).bind fun x2=>(idx b i).bind fun x3=>cond (x2 !=x3) (some (.inr (.ret false))) (some (.inl (IntKind.i64.wrap (i+1))))) (some (.inr (.dS ()))))
  (a.zip b) (fun _ i=>i) (fun _ p=>cond (p.1 !=p.2) (some (.inr (Ex.ret false))) (some (.inl ()))) (fun _=>Ex.dS ()) ?_ ?_ n (by simp[hl];omega) ()
 ·rw[h1]
  clear h1 hn h63
  induction a generalizing b with
  | nil=>cases b with
   | nil=>simp[jo]
   | cons _ _=>simp at hl
  | cons x a ih=>cases b with
   | nil=>simp at hl
   | cons y b=>
    simp only[List.zip_cons_cons,jo]
    by_cases h:x=y
    ·subst h
     simp only[bne_self_eq_false,cond_false,List.cons.injEq,true_and]
     exact ih b (by simpa using hl)
    ·have:(x !=y)=true:=by simpa using h
     simp[this,h]
 ·intro _ k p hp
  have hk:=eT hp
  rw[List.length_zip,hl,Nat.min_self] at hk
  rw[List.getElem?_zip_eq_some] at hp
  have hw:=du (k:=k) (n:=a.length) (by omega) h63
  simp only[dec_lt hp.1,cond_true,bJ hp.1,bJ hp.2,ab,hw]
  cases p.1 !=p.2 <;> simp[en]
 ·intro _
  have:(a.zip b).length=a.length:=by simp[hl]
  simp only[this,ff,cond_false]
theorem z9 {β:Type}(s:List β) (f:β→Option Bool) (p:β→Bool) (hf:∀x,f x=some (p x)) (h63:s.length≤9223372036854775807) (n:Nat) (hn:s.length<n):
  ∃r,aB (fun i:Int=>cond (decide (i<(List.length s:Int))) ((idx s i).bind fun x2=>(f x2).bind fun r3=>cond r3 (some (.inr (Ex.ret i))) (some (.inl (IntKind.i64.wrap (i+1))))) (some (.inr (.dS ())))) n 0=some r∧
   (match r with | .dS _=>s.any p=false | .ret i=>0≤i∧s.any p=true):=by
 refine uu (fun i:Int=>∃k:Nat,i=(k:Int)∧k≤s.length∧(s.take k).any p=false) (fun i:Int=>s.length-i.toNat) _ ?_ n 0 ⟨0,rfl,by omega,by simp⟩ (by simpa using hn)
 rintro i ⟨k,rfl,hk,hv⟩
 by_cases h:k<s.length
 ·have hx:s[k]?=some s[k]:=ag h
  cases hv':p s[k] with
  | true=>
   right
   refine⟨.ret k,?_,by omega,?_⟩
   ·simp only[dec_lt hx,cond_true,bJ hx,ab,hf,hv']
   ·rw[List.any_eq_true];exact⟨s[k],ed h,hv'⟩
  | false=>
   left
   refine⟨((k+1:Nat):Int),?_,⟨k+1,rfl,by omega,?_⟩,by simp only[bh];omega⟩
   ·simp only[dec_lt hx,cond_true,bJ hx,ab,du h h63,hf,hv',cond_false]
   ·rw[kw,hx]
    simp only[Option.toList_some,List.any_append,List.any_cons,List.any_nil,hv,hv',Bool.or_self]
 ·right
  obtain rfl:k=s.length:=by omega
  refine⟨.dS (),by simp only[ff,cond_false],?_⟩
  simpa using hv
end
end Go.AM
