/-
  AM, second part.
-/
import Derived.Test.YtaobkpnecfcefaaDoorMgA
import Derived.Laws.Tables
import Derived.WalkSpells
import Derived.Laws.Slices
import Derived.Laws.Strings2
import Derived.IntWalk
set_option linter.unusedSectionVars false
set_option linter.unusedSimpArgs false
set_option linter.unusedVariables false
/-
 AM,part L:a contract from a walk;calls by contract.
-/
namespace Go.AM
def RetQ (P:Program) (fn:Func) (Q:G→List (Nat×Blk)→Prop):Exit→St→Prop:=fun e s=>
 (e=.ret∨e=.normal)∧s.df=[]∧∃gs r st',Ress P s fn.results.toList gs∧SubSt s.st st'∧fzG s.st st' (pack gs)=some r∧Q r st'
def RetP (P:Program) (fn:Func) (Q:G→List (Nat×Blk)→Prop) (Qp:List PanicEntry→List (Nat×Blk)→Prop):Exit→St→Prop:=fun e s=>
 RetQ P fn Q e s∨∃c,e=.panic c∧s.df=[]∧∃st',SubSt s.st st'∧Qp c st'
theorem Shut.refl (Z:Nat→Prop) (w:World):Shut Z w w:=⟨rfl,fun _=>.inl rfl,rfl,rfl,rfl⟩
theorem Shut.put {Z:Nat→Prop}{w:World}{D:Nat}{o:Obj}(o':Obj) (hz:Z D) (ho:w.heap[D]?=some o) (hc:isMem o=false):Shut Z w (w.putObj D o'):=by
 refine⟨by simp[World.putObj],fun b=>?_,rfl,rfl,rfl⟩
 by_cases e:b=D
 ·subst e;exact .inr ⟨hz,o,ho,hc⟩
 ·exact .inl (World.putObj_heap_other e)
theorem Shut.cells {Z:Nat→Prop}{w w':World}(h:Shut Z w w'){b:Nat}{cs:Array Value}{e:TypeId}{f:Nat×Nat}(hb:w.heap[b]?=some (.cells cs e f)):w'.heap[b]?=some (.cells cs e f):=by
 rcases h.block b with h1 | ⟨_,x,h1,h2⟩
 ·exact h1.trans hb
 ·rw[hb] at h1;cases h1;cases h2
theorem Shut.cell {Z:Nat→Prop}{w w':World}(h:Shut Z w w'){b j:Nat}{v:Value}(hb:w.cell? ⟨b,j,none⟩=some v):w'.cell? ⟨b,j,none⟩=some v:=by
 rcases h.block b with h1 | ⟨_,x,h1,h2⟩
 ·rw[World.cell?_of_block (w:=w) h1];exact hb
 ·cases x with
  | cells cs e f=>cases h2
  | _=>simp[World.cell?,h1] at hb
theorem RepI.shut {O Z:Nat→Prop}{w w':World}{g:G}{v:Value}(hr:RepI O w g v) (h:Shut Z w w'):RepI O w' g v:=by
 induction hr with
 | any v=>exact .any v
 | val v=>exact .val v
 | ifc b v h=>exact .ifc b v h
 | nil=>exact .nil
 | emp a cap=>exact .emp a cap
 | sl n cells b off cap us hn hO1 hb1 hc hr ih=>exact .sl n cells b off cap us hn hO1 (by rw[h.size];exact hb1) (fun j hj=>h.cell (hc j hj)) ih
 | ptr cells b off us hO1 hb1 hc hr ih=>exact .ptr cells b off us hO1 (by rw[h.size];exact hb1) (fun j hj=>h.cell (hc j hj)) ih
 | agg cells us hl hr ih=>exact .agg cells us hl ih
theorem RepV.shut {O Z:Nat→Prop}{base:Nat}{w w':World}{μ:Mu}{g:G}{v:Value}(hr:RepV O base w μ g v) (h:Shut Z w w'):RepV O base w' μ g v:=by
 induction hr with
 | imm hr=>exact .imm (hr.shut h)
 | fr hr=>exact .fr (hr.shut h)
 | loc h off b m hm=>exact .loc h off b m hm
 | onil h sz hm=>exact .onil h sz hm
 | osl h sz off n b m cap hm hn hc=>exact .osl h sz off n b m cap hm hn hc
 | ozero h sz off0 b m hm hpos=>exact .ozero h sz off0 b m hm hpos
 | agg cells us hl hr ih=>exact .agg cells us hl ih
 | tup cells us hl hr ih=>exact .tup cells us hl ih
 | clo f caps us hl hr ih=>exact .clo f caps us hl ih
 | yld h b m hm=>exact .yld h b m hm
 | kp h i off b m c n hm hk=>exact .kp h i off b m c n hm hk
 | knil h i sz x cap hi=>exact .knil h i sz x cap hi
 | ks h i sz n b m c k cap hm hk hn hc=>exact .ks h i sz n b m c k cap hm hk hn hc
 | mref h b m hm=>exact .mref h b m hm
theorem RelBlk.shut {O Z:Nat→Prop}{base:Nat}{w w':World}{μ:Mu}{k:Blk}{x:Option (Nat×Mm)}(hr:RelBlk O base w μ k x) (h:Shut Z w w') (hz:∀b m,x=some (b,m)→k.lp≠none→∀y,In y b m→¬Z y):RelBlk O base w' μ k x:=by
 cases x with
 | none=>exact hr
 | some bm=>
  obtain⟨b,m⟩:=bm
  cases hl:k.lp with
  | none=>
   obtain⟨cs,h2,h3,h4,h6,h8,h5⟩:=hr.cells hl
   refine .mk hl (hr.nokid hl) ⟨cs,h.cells h2,h3,h4,h6,h8,fun j g hg=>?_⟩
   obtain⟨v,hv,hrv⟩:=h5 j g hg
   refine⟨v,hv,?_⟩
   unfold RepC at hrv⊢
   cases hp:k.pure with
   | true=>rw[hp] at hrv;exact hrv.shut h
   | false=>rw[hp] at hrv;exact hrv.shut h
  | some kd=>
   have hz:=hz b m rfl (by rw[hl];exact fun h=>by cases h)
   cases kd with
   | loop lp=>
    obtain⟨D,vs,h2,h3,h4,h5,h6⟩:=(RelBlk.loop hl).1 hr
    refine(RelBlk.loop hl).2 ⟨D,vs,?_,h3,h4,h5,fun j t g ht hg=>let ⟨v,hv,hrv⟩:=h6 j t g ht hg;⟨v,hv,hrv.shut h⟩⟩
    rcases h.block b with h7 | ⟨h7,_⟩
    ·exact h7.trans h2
    ·exact absurd h7 (hz b (.self _ _))
   | deep d=>
    obtain⟨h1,h2,h3,h4⟩:=(RelBlk.deep hl).1 hr
    exact(RelBlk.deep hl).2 ⟨d.shut h1 h hz,h2,h3,h4⟩
theorem RelSt.shut {cx:Cx}{μ:Mu}{st:List (Nat×Blk)}{w w' w0:World}{Z:Nat→Prop}(hr:RelSt cx μ st w) (h:Shut Z w w') (hz:∀x k b m,sget st x=some k→μ x=some (b,m)→k.lp≠none→∀y,In y b m→¬Z y)
  (h0:w0.os=cx.w0.os∧w0.tape=cx.w0.tape∧w0.output=cx.w0.output) (hk:∀b,b<cx.base→¬cx.A b→w'.heap[b]?=w0.heap[b]?):RelSt {cx with w0:=w0} μ st w':=
 {blk:=fun x k hx=>(hr.blk x k hx).shut h fun b m hm hl=>hz x k b m hx hm hl,injF:=hr.injF,outF:=fun x k b m y h1 h2 h3=>by rw[h.size];exact hr.outF x k b m y h1 h2 h3,pin:=hr.pin,xlt:=hr.xlt,hb:=by rw[h.size];exact hr.hb,
  os:=(h.os.trans hr.os).trans h0.1.symm,tape:=(h.tape.trans hr.tape).trans h0.2.1.symm,output:=(h.output.trans hr.output).trans h0.2.2.symm,keep:=hk,
  gl:=fun p hp=>by
   obtain⟨h1,h2,cs,e,f,h3,h4⟩:=hr.gl p hp
   refine⟨h1,h2,cs,e,f,?_,h4⟩
   rw[←hk p.1 h1 h2]
   rcases h.block p.1 with h5 | ⟨_,o,h5,h6⟩
   ·exact h5.trans ((hr.keep p.1 h1 h2).trans h3)
   ·rw[hr.keep p.1 h1 h2,h3] at h5;cases h5;cases h6}
theorem DfRel.shut {O Z:Nat→Prop}{base:Nat}{w w':World}{μ:Mu}{ds:List Deferred}{gs:List G}(hr:DfRel O base w μ ds gs) (h:Shut Z w w') (hz:∀d∈ds,∀D,d.target=.collected D→¬Z D):DfRel O base w' μ ds gs:=by
 induction hr with
 | nil=>exact .nil
 | mark h1 h2 h3 h4 h5 h6 ih=>
  refine .mark h1 h2 (by rw[h.size];exact h3) ?_ h5 (ih fun d hd=>hz d (List.mem_cons_of_mem _ hd))
  rcases h.block _ with h7 | ⟨h7,_⟩
  ·exact h7.trans h4
  ·exact absurd h7 (hz _ List.mem_cons_self _ rfl)
 | clo h1 h2 ih=>exact .clo (h1.shut h) (ih fun d hd=>hz d (List.mem_cons_of_mem _ hd))
theorem leaves_marks {F:Fence}{n:Nat}{P:Program}{fn:Func}{tmps:Array Value}{R:Ending→World→Prop}{u:FrameMode}(hu:u≠.run){O:Nat→Prop}{base:Nat}{μ:Mu}:
  ∀{ds:List Deferred}{w:World},DfRel O base w μ ds []→(∀w',Shut (fun b=>¬O b∧base≤b) w w'→LeavesIn F n P fn tmps R [] u w')→LeavesInM F n P fn tmps R ds u w
 | [],w,_,K=>K w (Shut.refl _ _)
 | d::ds,w,h,K=>by
  cases h with
  | mark h1 h2 h3 h4 h5 h6=>
   rename_i D
   refine⟨hu,.inl ⟨D,_,rfl,run_takeDeferred h4,?_⟩⟩
   have hs:Shut (fun b=>¬O b∧base≤b) w (w.putObj D (.deferred none)):=Shut.put _ ⟨h1,h2⟩ h4 rfl
   have hs1:Shut (fun b=>b=D) w (w.putObj D (.deferred none)):=Shut.put _ rfl h4 rfl
   refine leaves_marks hu (O:=O) (base:=base) (μ:=μ) (w:=w.putObj D (.deferred none)) (h6.shut hs1 fun d hd D' e e'=>h5 d hd (by rw[e,e'])) fun w' hw'=>K w' ⟨hw'.size.trans hs.size,fun b=>?_,hw'.os.trans hs.os,hw'.tape.trans hs.tape,hw'.output.trans hs.output⟩
   by_cases e:b=D
   ·subst e;exact .inr ⟨⟨h1,h2⟩,_,h4,rfl⟩
   ·rcases hw'.block b with h7 | ⟨h7,o,h8,h9⟩
    ·exact .inl (h7.trans (World.putObj_heap_other e))
    ·exact .inr ⟨h7,o,by rw[←World.putObj_heap_other (o:=.deferred none) e];exact h8,h9⟩
theorem RelSt.shutEnd {cx:Cx}{μ:Mu}{st:List (Nat×Blk)}{w w':World}(hr:RelSt cx μ st w) (h:Shut (fun b=>¬cx.O st μ b∧cx.base≤b) w w'):RelSt cx μ st w':=
 hr.shut (w0:=cx.w0) h (fun x k b m h1 h2 _ y hy hz=>hz.1 (.inr ⟨x,k,b,m,h1,h2,hy⟩)) ⟨rfl,rfl,rfl⟩ fun b hb hA=>by
  rcases h.block b with h1 | ⟨⟨_,h1⟩,_⟩
  ·exact h1.trans (hr.keep b hb hA)
  ·omega
section
variable {P:Program}{N:Nat}{cx:Cx}{s:St}
theorem pack_rep {O:Nat→Prop}{base:Nat}{w:World}{μ:Mu}{gs:List G}{vs:List Value}(hl:vs.length=gs.length) (hr:∀(j:Nat) (g:G) (v:Value),gs[j]?=some g→vs[j]?=some v→RepV O base w μ g v):
  RepV O base w μ (pack gs) (if h:vs.toArray.size=1 then vs.toArray[0] else .tuple vs.toArray):=by
 match gs,vs,hl,hr with
 | [],[],_,hr=>exact .tup [] [] rfl hr
 | [g],[v],_,hr=>exact hr 0 g v rfl rfl
 | g::g'::gs,v::v'::vs,hl,hr=>
  rw[dif_neg (by simp)]
  exact .tup _ _ hl hr
theorem results_eq (fn:Func) (a:Act):results fn a.tmps=(do let vs ←fn.results.mapM (resSem a);pure (if h:vs.size=1 then vs[0] else .tuple vs)):=rfl
theorem run_mapM_array {α:Type}(f:α→Sem Value) (xs:Array α) (w w':World) (vs:List Value) (h:(xs.toList.mapM f).run P w=.ok vs w'):(xs.mapM f).run P w=.ok vs.toArray w':=by
 rw[Array.mapM_eq_mapM_toList]
 simp[Sem.run_map,h]
theorem GP.of {f : FuncId} {fn : Func} {c : Code} {args : List G} {st : List (Nat × Blk)} {Q : G → List (Nat × Blk) → Prop} {Qp : List PanicEntry → List (Nat × Blk) → Prop} (hf : P.funcs[f]? = some fn) (hb : fn.body = some c) (hN : fn.ntmps = N) (hle : Nat.ble args.length N = true)
    (h : ∀ cx, cx.ro = none → GW P N cx c (RetP P fn Q Qp) { fr := frameOf args 0, st := st, df := [] }) : GP P f args st Q Qp := by
  intro X μ w vs hX hst hl ha
  have hle := Nat.le_of_ble_eq_true hle
  have hrel : Rel N (cx0 X st μ w) μ { fr := frameOf args 0, st := st, df := [] } { tmps := vs.toArray ++ Array.replicate (fn.ntmps - vs.toArray.size) undef, defers := [] } w := by
    refine { st := hst, nd := .nil, sz := by simp; omega, fr := fun t g hg => ?_ }
    obtain ⟨_, h2⟩ := get_frameOf hg
    simp only [Nat.sub_zero] at h2
    have ht : t < vs.length := by have := (List.getElem?_eq_some_iff.1 h2).1; omega
    refine ⟨vs[t], ?_, ha t g vs[t] h2 (List.getElem?_eq_getElem ht)⟩
    rw [Array.getElem?_append_left (by simpa using ht)]
    simp [ht]
  refine callsIn_FF.1 (callsIn_of_wp_marks (F := FF none) (n := 0) hf hb trivial ?_)
  refine wpIn_mono (h (cx0 X st μ w) rfl μ _ w hrel) fun e a' w' hl => ?_
  have fin : ∀ (μ' : Mu) (s' : St), Rel N (cx0 X st μ w) μ' s' a' w' → RetP P fn Q Qp e s' → (e = .ret ∨ e = .normal) → LeavesInM (FF none) 0 P fn a'.tmps (Came X st μ w Q Qp) a'.defers .returning w' := by
    rintro μ' s' hr' hq he
    have hq : RetQ P fn Q e s' := by
      rcases hq with hq | ⟨c, h1, _⟩
      · exact hq
      · subst h1; rcases he with he | he <;> cases he
    obtain ⟨_, hdf, gs, r, st', h1, h2, h3, h4⟩ := hq
    have hnd := hr'.nd
    rw [hdf] at hnd
    refine leaves_marks (fun h => by cases h) hnd fun w'' hs => ?_
    have hr'' : Rel N (cx0 X st μ w) μ' { s' with df := [] } { a' with defers := [] } w'' :=
      { st := hr'.st.shutEnd hs, nd := .nil, sz := hr'.sz, fr := fun t g hg => let ⟨v, hv, hrv⟩ := hr'.fr t g hg; ⟨v, hv, hrv.shut hs⟩ }
    have h1' : Ress P { s' with df := [] } fn.results.toList gs := by
      have : ({ s' with df := [] } : St) = s' := by cases s'; simp only at hdf; subst hdf; rfl
      rw [this]; exact h1
    obtain ⟨vs', hl', hvs, hrun⟩ := h1'.run hr''
    have hp := pack_rep hl' hvs
    refine ⟨_, ?_, .inl ⟨_, r, st', μ', rfl, h4, hr''.st.sub h2, fzG_spec hr''.st (fun h k hk => ⟨k, h2.get hk⟩) hp h3⟩⟩
    have e1 : results fn a'.tmps = results fn ({ a' with defers := [] } : Act).tmps := rfl
    rw [e1, results_eq]
    simp only [Sem.run_bind, run_mapM_array _ _ _ _ _ hrun, Result.andThen_ok, Sem.run_pure]
  cases e with
  | normal => obtain ⟨μ', s', hr', hq⟩ := hl; exact fin μ' s' hr' hq (.inr rfl)
  | ret => obtain ⟨μ', s', hr', hq⟩ := hl; exact fin μ' s' hr' hq (.inl rfl)
  | panic ch =>
    obtain ⟨μ', s', hr', hq⟩ := hl
    have h1 := hr'.st
    have h2 := hr'.nd
    rcases hq with ⟨hq, _⟩ | ⟨c', h4, hdf, st', h5, h6⟩
    · rcases hq with hq | hq <;> cases hq
    · cases h4
      rw [hdf] at h2
      refine leaves_marks (fun h => by cases h) h2 fun w'' hs => ?_
      exact .inr ⟨_, st', μ', rfl, h6, (h1.shutEnd hs).sub h5⟩
  | outgrown => exact hl.elim
  | exit id =>
    obtain ⟨μ', s', hr', hq⟩ := hl
    rcases hq with ⟨hq, _⟩ | ⟨c, hq, _⟩
    · rcases hq with hq | hq <;> cases hq
    · cases hq
  | goto l =>
    obtain ⟨μ', s', hr', hq⟩ := hl
    rcases hq with ⟨hq, _⟩ | ⟨c, hq, _⟩
    · rcases hq with hq | hq <;> cases hq
    · cases hq
theorem GM.of {f : FuncId} {fn : Func} {c : Code} {args : List G} {st : List (Nat × Blk)} {Q : G → List (Nat × Blk) → Prop} (hf : P.funcs[f]? = some fn) (hb : fn.body = some c) (hN : fn.ntmps = N) (hle : Nat.ble args.length N = true)
  (h : ∀ cx, cx.ro = none → GW P N cx c (RetQ P fn Q) { fr := frameOf args 0, st := st, df := [] }) : GM P f args st Q :=
 GP.of hf hb hN hle fun cx hro => (h cx hro).mono fun _ _ hq => .inl hq
def mapO (f:G→Option G):List G→Option (List G)
 | []=>some []
 | g::r=>match f g,mapO f r with
  | some g',some r'=>some (g'::r')
  | _,_=>none
theorem mapO_get {f:G→Option G}:∀{gs gs':List G},mapO f gs=some gs'→gs'.length=gs.length∧∀(j:Nat) (g':G),gs'[j]?=some g'→∃g,gs[j]?=some g∧f g=some g'
 | [],_,h=>by cases h;exact⟨rfl,fun j g h=>by simp at h⟩
 | g::r,gs',h=>by
  simp only[mapO] at h
  cases h1:f g with
  | none=>rw[h1] at h;cases h
  | some g1=>
   rw[h1] at h
   cases h2:mapO f r with
   | none=>rw[h2] at h;cases h
   | some r1=>
    rw[h2] at h
    cases h
    obtain⟨h3,h4⟩:=mapO_get h2
    refine⟨by simp[h3],fun j g' hg'=>?_⟩
    cases j with
    | zero=>cases hg';exact⟨g,rfl,h1⟩
    | succ j=>exact h4 j g' hg'
def viewV:Value→G
 | .slice none 0 0=>.sl 0 []
 | v=>.val v
theorem viewV_rep {O:Nat→Prop}{w:World}(v:Value):RepI O w (viewV v) v:=by
 unfold viewV
 split
 ·exact .nil
 ·exact .val _
def view:Nat→List (Nat×Blk)→G→Option G
 | 0,_,_=>none
 | n+1,st,g=>match g with
  | .val v=>some (viewV v)
  | .ifc b=>some (.ifc b)
  | .sl n cs=>some (.sl n cs)
  | .ptr cs=>some (.ptr cs)
  | .fr g=>some g
  | .osl h sz off m=>match sget st h with
   | some k=>match k.lp with
    | some _=>none
    | none=>match k.pure with
     | true=>some (.sl m ((k.cells.drop off).take (m*sz)))
     | false=>match mapO (view n st) ((k.cells.drop off).take (m*sz)) with
      | some cs=>some (.sl m cs)
      | none=>none
   | none=>none
  | .loc h off=>match sget st h with
   | some k=>match k.lp with
    | some _=>none
    | none=>match k.pure with
     | true=>some (.ptr (k.cells.drop off))
     | false=>match mapO (view n st) (k.cells.drop off) with
      | some cs=>some (.ptr cs)
      | none=>none
   | none=>none
  | .agg gs=>match mapO (view n st) gs with
   | some gs'=>some (.agg gs')
   | none=>none
  | .ks h i sz m=>bif Nat.beq m 0&&Nat.beq i bigI then some (.sl 0 []) else match sget st h with
   | some k=>match k.lp with
    | some (.deep d)=>match d.row i with
     | some gs=>bif Nat.beq gs.length (m*sz) then some (.sl m gs) else none
     | none=>none
    | _=>none
   | none=>none
  | _=>none
theorem view_gen {st:List (Nat×Blk)}{O X:Nat→Prop}{base:Nat}{μ:Mu}{w:World}(hblk:∀h k,sget st h=some k→RelBlk O base w μ k (μ h)) (hout:∀h k b m x,sget st h=some k→μ h=some (b,m)→In x b m→¬X x) (hXO:∀b,X b→O b):
  ∀(n:Nat){g g':G}{v:Value},RepV O base w μ g v→view n st g=some g'→RepI X w g' v
 | 0,_,_,_,_,h=>by cases h
 | n+1,g,g',v,hv,h=>by
  have hX:∀{g v},RepI O w g v→RepI X w g v:=fun h=>h.mono (Kept.refl _ _) fun b _ hn hx=>hn (hXO b hx)
  have cells:∀(hh off cnt:Nat) (k:Blk) (b:Nat) (m:Mm) (cs:List G),sget st hh=some k→k.lp=none→μ hh=some (b,m)→(match k.pure with | true=>some ((k.cells.drop off).take cnt) | false=>mapO (view n st) ((k.cells.drop off).take cnt))=some cs→
    ∃us:Nat→Value,¬X b∧b<w.heap.size∧(∀j,j<cs.length→w.cell? ⟨b,off+j,none⟩=some (us j))∧(∀(j:Nat) (g:G),cs[j]?=some g→RepI X w g (us j))∧cs.length≤m.1-off:=by
   intro hh off cnt k b m cs hk hlp hm hcs
   have hb:=hblk hh k hk
   rw[hm] at hb
   obtain⟨vs,h1,h2,h3,h4,h5,h6⟩:=hb.cells hlp
   have rd:cs.length≤m.1-off∧∀(j:Nat) (g:G),cs[j]?=some g→∃v,vs[off+j]?=some v∧RepI X w g v:=by
    cases hp:k.pure with
    | true=>
     rw[hp] at hcs
     cases hcs
     refine⟨by rw[List.length_take,List.length_drop];omega,fun j g hg=>?_⟩
     rw[List.getElem?_take] at hg
     split at hg
     ·rw[List.getElem?_drop] at hg
      obtain⟨v,hv,hrv⟩:=h6 _ g hg
      refine⟨v,hv,?_⟩
      unfold RepC at hrv
      rw[hp] at hrv
      exact hX (hrv.flag (f':=false) (fun h=>by cases h))
     ·cases hg
    | false=>
     rw[hp] at hcs
     obtain⟨h7,h8⟩:=mapO_get hcs
     refine⟨by rw[h7,List.length_take,List.length_drop];omega,fun j g hg=>?_⟩
     obtain⟨g0,h9,h10⟩:=h8 j g hg
     rw[List.getElem?_take] at h9
     split at h9
     ·rw[List.getElem?_drop] at h9
      obtain⟨v,hv,hrv⟩:=h6 _ g0 h9
      refine⟨v,hv,?_⟩
      unfold RepC at hrv
      rw[hp] at hrv
      exact view_gen hblk hout hXO n hrv h10
     ·cases h9
   refine⟨fun j=>vs.getD (off+j) undef,hout hh k b m b hk hm (.self _ _),lt_of_heap h1,fun j hj=>?_,fun j g hg=>?_,rd.1⟩
   ·obtain⟨v,hv,_⟩:=rd.2 j _ (List.getElem?_eq_getElem hj)
    rw[cell_of h1,hv]
    simp[hv]
   ·obtain⟨v,hv,hrv⟩:=rd.2 j g hg
    simpa[hv] using hrv
  cases g with
  | val u=>cases h;cases hv with | imm hv=>cases hv;exact viewV_rep _
  | sl m cs=>cases h;cases hv with | imm hv=>exact hX hv
  | ptr cs=>cases h;cases hv with | imm hv=>exact hX hv
  | fr g=>cases h;cases hv with
   | imm hv=>cases hv
   | fr hv=>exact hX hv.old
  | ifc b=>cases h;cases hv with
   | imm hv=>exact hX hv
  | osl hh sz off m=>
   simp only[view] at h
   cases hk:sget st hh with
   | none=>rw[hk] at h;cases h
   | some k=>
    rw[hk] at h
    dsimp only at h
    cases hlp:k.lp with
    | some lp=>rw[hlp] at h;cases h
    | none=>
    rw[hlp] at h
    dsimp only at h
    have key:∃cs,g'=.sl m cs∧(match k.pure with | true=>some ((k.cells.drop off).take (m*sz)) | false=>mapO (view n st) ((k.cells.drop off).take (m*sz)))=some cs:=by
     cases hp:k.pure with
     | true=>rw[hp] at h;cases h;exact⟨_,rfl,rfl⟩
     | false=>
      rw[hp] at h
      dsimp only at h⊢
      cases hq:mapO (view n st) ((k.cells.drop off).take (m*sz)) with
      | none=>rw[hq] at h;cases h
      | some cs=>rw[hq] at h;cases h;exact⟨_,rfl,rfl⟩
    obtain⟨cs,rfl,hcs⟩:=key
    have len0:∀{cs},m*sz=0→(match k.pure with | true=>some ((k.cells.drop off).take (m*sz)) | false=>mapO (view n st) ((k.cells.drop off).take (m*sz)))=some cs→cs=[]:=by
     intro cs h0 h
     rw[h0,List.take_zero] at h
     cases hp:k.pure with
     | true=>rw[hp] at h;cases h;rfl
     | false=>rw[hp] at h;cases h;rfl
    cases hv with
    | imm hv=>cases hv
    | onil _ _ hm=>
     rw[len0 (Nat.zero_mul _) hcs]
     exact .nil
    | osl _ _ _ _ b m0 cap hm hn hc=>
     obtain⟨us,h1,h2,h3,h4,_⟩:=cells hh off (m*sz) k b m0 cs hk hlp hm hcs
     exact .sl m cs b off cap us hn h1 h2 h3 h4
    | ozero _ _ off0 b _ hm hpos=>
     rw[len0 (Nat.zero_mul _) hcs]
     obtain⟨us,h1,h2,_⟩:=cells hh off (0*sz) k b _ cs hk hlp hm hcs
     exact .sl 0 [] b off0 0 us (Nat.le_refl _) h1 h2 (fun j hj=>by simp at hj) (fun j g hg=>by simp at hg)
  | loc hh off=>
   simp only[view] at h
   cases hk:sget st hh with
   | none=>rw[hk] at h;cases h
   | some k=>
    rw[hk] at h
    dsimp only at h
    cases hlp:k.lp with
    | some lp=>rw[hlp] at h;cases h
    | none=>
    rw[hlp] at h
    dsimp only at h
    have tk:(k.cells.drop off).take (k.cells.length)=k.cells.drop off:=List.take_of_length_le (by rw[List.length_drop];omega)
    have key:∃cs,g'=.ptr cs∧(match k.pure with | true=>some ((k.cells.drop off).take k.cells.length) | false=>mapO (view n st) ((k.cells.drop off).take k.cells.length))=some cs:=by
     rw[tk]
     cases hp:k.pure with
     | true=>rw[hp] at h;cases h;exact⟨_,rfl,rfl⟩
     | false=>
      rw[hp] at h
      dsimp only at h⊢
      cases hq:mapO (view n st) (k.cells.drop off) with
      | none=>rw[hq] at h;cases h
      | some cs=>rw[hq] at h;cases h;exact⟨_,rfl,rfl⟩
    obtain⟨cs,rfl,hcs⟩:=key
    cases hv with
    | imm hv=>cases hv
    | loc _ _ b m0 hm=>
     obtain⟨us,h1,h2,h3,h4,_⟩:=cells hh off _ k b m0 cs hk hlp hm hcs
     exact .ptr cs b off us h1 h2 h3 h4
  | agg gs=>
   simp only[view] at h
   cases hq:mapO (view n st) gs with
   | none=>rw[hq] at h;cases h
   | some gs'=>
    rw[hq] at h
    cases h
    obtain⟨h1,h2⟩:=mapO_get hq
    have key:∃us:List Value,v=.agg us.toArray∧us.length=gs.length∧∀(j:Nat) (g:G) (v:Value),gs[j]?=some g→us[j]?=some v→RepV O base w μ g v:=by
     cases hv with
     | imm hv=>cases hv with
      | agg _ us hl hr=>exact⟨us,rfl,hl,fun j g v h1 h2=>.imm (hr j g v h1 h2)⟩
     | agg _ us hl hr=>exact⟨us,rfl,hl,hr⟩
    obtain⟨us,rfl,hl,hr⟩:=key
    refine .agg gs' us (by omega) fun j g v hg hv=>?_
    obtain⟨g0,h3,h4⟩:=h2 j g hg
    exact view_gen hblk hout hXO n (hr j g0 v h3 hv) h4
  | ks hh i sz m=>
   simp only[view] at h
   cases hb0:Nat.beq m 0&&Nat.beq i bigI with
   | true=>
    rw[hb0] at h
    cases h
    simp only[Bool.and_eq_true] at hb0
    have hm0:=Nat.eq_of_beq_eq_true hb0.1
    have hi0:=Nat.eq_of_beq_eq_true hb0.2
    subst hm0
    cases hv with
    | imm hv=>cases hv
    | knil _ _ _ x cap hi=>obtain⟨rfl,rfl⟩:=hi hi0;exact .nil
    | ks _ _ _ _ b m' c k cap hm hk hn hc=>exact .emp _ _
   | false=>
   rw[hb0,cond_false] at h
   cases hk:sget st hh with
   | none=>rw[hk] at h;cases h
   | some k=>
    rw[hk] at h
    dsimp only at h
    split at h
    ·rename_i d hl
     split at h
     ·rename_i gs hrow
      cases hlen:Nat.beq gs.length (m*sz) with
      | false=>rw[hlen] at h;cases h
      | true=>
       rw[hlen] at h
       cases h
       have hl0:=Nat.eq_of_beq_eq_true hlen
       cases hmu:μ hh with
       | none=>
        cases hv with
        | imm hv=>cases hv
        | knil _ _ _ x cap hi=>exact absurd (List.eq_nil_of_length_eq_zero (by rw[hl0,Nat.zero_mul])) (d.rowPos hrow)
        | ks _ _ _ _ b m' c kk cap hm=>rw[hmu] at hm;cases hm
       | some bm=>
        obtain⟨b,mm⟩:=bm
        have hb:=hblk hh k hk
        rw[hmu] at hb
        have hφ:=((RelBlk.deep hl).1 hb).1
        obtain⟨c,kk,cs,ety,h1,h2,h3⟩:=d.rowOk hφ hrow
        have hXi:∀{g v},RepI (bif k.fresh then Old O base else O) w g v→RepI X w g v:=fun {g v} h=>by
         cases hkf:k.fresh with
         | false=>rw[hkf] at h;exact hX h
         | true=>rw[hkf] at h;exact hX h.old
        have hsl:∀cap,m≤cap→RepI X w (.sl m gs) (.slice (some ⟨c,0,none⟩) m cap):=fun cap hcap=>
         .sl m gs c 0 cap (fun j=>cs.getD j undef) hcap (hout hh k b mm c hk hmu (.inr ⟨kk,List.mem_of_getElem? h1⟩)) (lt_of_heap h2) (fun j hj=>by
          obtain⟨v,hv,_⟩:=h3 j _ (List.getElem?_eq_getElem hj)
          rw[cell_of h2,Nat.zero_add,hv]
          simp[hv]) fun j g hg=>by
          obtain⟨v,hv,hrv⟩:=h3 j g hg
          have:=hXi hrv
          simpa[hv] using this
        cases hv with
        | imm hv=>cases hv
        | knil _ _ _ x cap hi=>exact absurd (List.eq_nil_of_length_eq_zero (by rw[hl0,Nat.zero_mul])) (d.rowPos hrow)
        | ks _ _ _ _ b' m' c' kk' cap hm hk' hn hc=>
         rw[hmu] at hm
         cases hm
         rw[h1] at hk'
         cases hk'
         exact hsl cap hn
     ·cases h
    ·cases h
  | _=>cases h
theorem view_spec {st:List (Nat×Blk)}{μ:Mu}{w:World}(hst:RelSt cx μ st w) (n:Nat){g g':G}{v:Value}(hv:RepV (cx.O st μ) cx.base w μ g v) (h:view n st g=some g'):RepI cx.X w g' v:=
 view_gen hst.blk (fun h k b m x h1 h2 h3=>(hst.outF h k b m x h1 h2 h3).1) (fun _ h=>.inl h) n hv h
def freshG:G→Bool
 | .val _=>true
 | .ifc _=>true
 | .fr _=>true
 | .agg gs=>go gs
 | .tup gs=>go gs
 | _=>false
where go:List G→Bool
 | []=>true
 | g::r=>freshG g&&go r
theorem freshG_go {gs:List G}(h:freshG.go gs=true):∀(j:Nat) (g:G),gs[j]?=some g→freshG g=true:=by
 induction gs with
 | nil=>intro j g hg;simp at hg
 | cons x r ih=>
  simp only[freshG.go,Bool.and_eq_true] at h
  intro j g hg
  cases j with
  | zero=>cases hg;exact h.1
  | succ j=>exact ih h.2 j g hg
end
end Go.AM
/-
 AM,part M:calls of functions by their contracts.
-/
namespace Go.AM
def viewA (n:Nat) (st:List (Nat×Blk)):G→Option G
 | .clo f caps=>match mapO (view n st) caps with
  | some c=>some (.clo f c)
  | none=>none
 | g=>view n st g
def evA (s:St):List Operand→Option (List G)
 | []=>some []
 | x::r=>match ev s x,evA s r with
  | some g,some gs=>some (g::gs)
  | _,_=>none
section
variable {P:Program}{N:Nat}{cx:Cx}{s:St}
theorem evA_get:∀{xs:List Operand}{gs:List G},evA s xs=some gs→gs.length=xs.length∧∀(j:Nat) (g:G),gs[j]?=some g→∃x,xs[j]?=some x∧ev s x=some g
 | [],_,h=>by cases h;exact⟨rfl,fun j g h=>by simp at h⟩
 | x::r,gs,h=>by
  simp only[evA] at h
  cases h1:ev s x with
  | none=>rw[h1] at h;cases h
  | some g1=>
   rw[h1] at h
   cases h2:evA s r with
   | none=>rw[h2] at h;cases h
   | some r1=>
    rw[h2] at h
    cases h
    obtain⟨h3,h4⟩:=evA_get h2
    refine⟨by simp[h3],fun j g' hg'=>?_⟩
    cases j with
    | zero=>cases hg';exact⟨x,rfl,h1⟩
    | succ j=>exact h4 j g' hg'
theorem viewA_spec {O:Nat→Prop}{base:Nat}{st:List (Nat×Blk)}{μ μ':Mu}{w:World}(hst:RelSt cx μ st w) (n:Nat){g g':G}{v:Value}(hv:RepV (cx.O st μ) cx.base w μ g v) (h:viewA n st g=some g')
  (hO:∀b,b<w.heap.size→¬cx.X b→¬O b):RepV O base w μ' g' v:=by
 have up:∀{g v},RepI cx.X w g v→RepV O base w μ' g v:=fun h=>.imm (h.mono (Kept.refl _ _) hO)
 cases g with
 | clo f caps=>
  simp only[viewA] at h
  cases hq:mapO (view n st) caps with
  | none=>rw[hq] at h;cases h
  | some c=>
   rw[hq] at h
   cases h
   obtain⟨h1,h2⟩:=mapO_get hq
   cases hv with
   | imm hv=>cases hv
   | clo _ _ us hl hr=>
    refine .clo f c us (by omega) fun j g v hg hv=>?_
    obtain⟨g0,h3,h4⟩:=h2 j g hg
    exact up (view_spec hst n (hr j g0 v h3 hv) h4)
 | _=>exact up (view_spec hst n hv h)
theorem RelSt.kept {μ:Mu}{st:List (Nat×Blk)}{w w':World}(h:RelSt cx μ st w) (hsz:w.heap.size≤w'.heap.size) (hb:∀b,b<w.heap.size→w'.heap[b]?=w.heap[b]?) (hos:w'.os=w.os) (htape:w'.tape=w.tape) (hout:w'.output=w.output):RelSt cx μ st w':=by
 have hk:∀O,Kept O w w':=fun O=>⟨hsz,fun b h _=>hb b h⟩
 refine {blk:=?_,injF:=h.injF,outF:=fun x k b m y h1 h2 h3=>let ⟨a1,a2,a3,a4⟩:=h.outF x k b m y h1 h2 h3;⟨a1,a2,Nat.lt_of_lt_of_le a3 hsz,a4⟩,pin:=h.pin,xlt:=h.xlt,hb:=Nat.le_trans h.hb hsz,os:=hos.trans h.os,tape:=htape.trans h.tape,output:=hout.trans h.output,gl:=h.gl,keep:=fun b h1 h2=>?_}
 ·intro x k hx
  exact(h.blk x k hx).mono (fun b m hm y hy=>hb y (h.outF x k b m y hx hm hy).2.2.1) (hk _) (fun _ _ h=>h)
 ·rw[hb b (by have:=h.hb;omega)];exact h.keep b h1 h2
theorem Rel.kept {μ:Mu}{a:Act}{w w':World}(h:Rel N cx μ s a w) (hsz:w.heap.size≤w'.heap.size) (hb:∀b,b<w.heap.size→w'.heap[b]?=w.heap[b]?) (hos:w'.os=w.os) (htape:w'.tape=w.tape) (hout:w'.output=w.output):Rel N cx μ s a w':=
 {st:=h.st.kept hsz hb hos htape hout,nd:=h.nd.mono ⟨hsz,fun b h _=>hb b h⟩ (fun _ _ h=>h),sz:=h.sz,fr:=fun t g hg=>let ⟨v,hv,hr⟩:=h.fr t g hg;⟨v,hv,hr.mono ⟨hsz,fun b h _=>hb b h⟩ (fun _ _ h=>h) (Nat.le_refl _)⟩}
theorem own_lt {μ:Mu}{st:List (Nat×Blk)}{w:World}(h:RelSt cx μ st w){b:Nat}(ho:Own st μ b):b<w.heap.size:=by
 obtain⟨x,k,c,m,h1,h2,h3⟩:=ho
 exact(h.outF x k c m b h1 h2 h3).2.2.1
theorem own_nil {μ:Mu}{b:Nat}:¬Own [] μ b:=fun ⟨_,_,_,_,h,_⟩=>by cases h
theorem relSt_nil {X:Nat→Prop}{μ:Mu}{w:World}(hX:∀b,X b→b<w.heap.size) (hgl:GlOk (Own [] μ) w.heap.size w):RelSt (cx0 X [] μ w) μ [] w:=
 {blk:=fun _ _ h=>(by cases h),injF:=fun _ _ _ _ _ _ _ _ _ h=>(by cases h),outF:=fun _ _ _ _ _ h=>(by cases h),pin:=fun _ _ h=>(by cases h),xlt:=hX,hb:=Nat.le_refl _,os:=rfl,tape:=rfl,output:=rfl,gl:=hgl,keep:=fun _ _ _=>rfl}
variable {ty:TypeId}{pos:String}{after:Array Edge}{guard:Option (Nat×Bool)}{W:List Nat}{d:Nat}
theorem call_core {f:FuncId}{vs:List Value}{gs gs':List G}{Q:G→List (Nat×Blk)→Prop}(n:Nat){μ:Mu}{a:Act}{w:World}(hr:Rel N cx μ s a w) (hv:mapO (viewA n s.st) gs=some gs')
  (hvs:vs.length=gs.length) (hrep:∀(j:Nat) (g:G) (v:Value),gs[j]?=some g→vs[j]?=some v→RepV (cx.O s.st μ) cx.base w μ g v)
  (hcon:GM P f gs' [] Q) (hres:∀r st',Q r st'→freshG r=true):
  Calls P f vs.toArray w fun e w'=>∃v r st',e=.returned v∧Q r st'∧Rel N cx μ s a w'∧RepV (cx.O s.st μ) cx.base w' μ r v∧Step W s.st μ s.st μ w w':=by
 obtain⟨h1,h2⟩:=mapO_get hv
 have hX:∀b,cx.X b→b<w.heap.size:=fun b hb=>by have:=hr.st.xlt b hb;have:=hr.st.hb;omega
 refine(hcon.returned cx.X (fun _=>none) w vs hX (relSt_nil hX (hr.st.glw fun _ h=>(own_nil h).elim)) (by omega) fun j g v hg hv=>?_).mono ?_
 ·obtain⟨g0,h3,h4⟩:=h2 j g hg
  exact viewA_spec hr.st n (hrep j g0 v h3 hv) h4 fun b _ hn ho=>ho.elim hn own_nil
 ·rintro e w' ⟨v,r,st',μ',rfl,hq,hst,hrv⟩
  have hkeep:∀b,b<w.heap.size→w'.heap[b]?=w.heap[b]?:=fun b hb=>hst.keep b hb own_nil
  refine⟨v,r,st',rfl,hq,hr.kept hst.hb hkeep hst.os hst.tape hst.output,?_,⟨hst.hb,fun b hb _=>hkeep b hb,fun h k c m b hw h1 h2 hi=>.inl ⟨h,k,c,m,hw,h1,h2,hi⟩⟩⟩
  have hf:=hres r st' hq
  have hb:=hr.st.hb
  have hxl:=hr.st.xlt
  have hol:∀b,Own s.st μ b→b<w.heap.size:=fun b ho=>own_lt hr.st ho
  generalize hO:(cx0 cx.X [] (fun _=>none) w).O st' μ'=O at hrv
  have imm:∀{g:G}{v:Value},RepI O w' g v→freshG g=true→RepV (cx.O s.st μ) cx.base w' μ g v:=by
   intro g v h
   induction h with
   | any v=>intro hf;cases hf
   | val v=>intro _;exact .imm (.val v)
   | ifc b v h=>intro _;exact .imm (.ifc b v h)
   | nil=>intro hf;cases hf
   | emp _ _=>intro hf;cases hf
   | sl _ _ _ _ _ _ _ _ _ _ _=>intro hf;cases hf
   | ptr _ _ _ _ _ _ _ _=>intro hf;cases hf
   | agg cells us hl hr ih=>intro hf;exact .agg cells us hl fun j g v hg hv=>ih j g v hg hv (freshG_go hf j g hg)
  clear hq
  induction hrv with
  | imm h=>exact imm h hf
  | fr h=>
   refine .fr (h.mono (Kept.refl _ _) ?_)
   rintro b hb1 hn (ho | ho | ho)
   ·exact hn (.inl (by show b<w.heap.size;omega))
   ·exact hn (.inl (by have:=hxl b ho;show b<w.heap.size;omega))
   ·exact hn (.inl (hol b ho))
  | agg cells us hl hr ih=>exact .agg cells us hl fun j g v hg hv=>ih j g v hg hv (freshG_go hf j g hg)
  | tup cells us hl hr ih=>exact .tup cells us hl fun j g v hg hv=>ih j g v hg hv (freshG_go hf j g hg)
  | _=>cases hf
theorem EF.call {f:FuncId}{xs:Array Operand}{ts:Array TypeId}{gs gs':List G}{Q:G→List (Nat×Blk)→Prop}(n:Nat) (hc:∀args w,(callFunc f args).run P w=.ok (.enter f args) w)
  (hx:evA s xs.toList=some gs) (hv:mapO (viewA n s.st) gs=some gs') (hcon:GM P f gs' [] Q) (hres:∀r st',Q r st'→freshG r=true):
  Effect P W s ⟨some d,.call ⟨.value (.func f),xs,ts⟩,ty,pos,after,guard⟩ (fun s'=>∃r st',Q r st'∧s'=s.put d r):=by
 refine⟨(fun _ h=>by cases h),?_⟩
 intro N cx μ a w hr hN K Q' hK
 obtain⟨h1,h2⟩:=evA_get hx
 have hcall:=call_core (vs:=xs.toList.map a.eval) (W:=W) n hr hv (by simp[h1]) (fun j g v hg hv=>by
  obtain⟨x,hxj,he⟩:=h2 j g hg
  rw[List.getElem?_map,hxj] at hv
  cases hv
  exact hr.ev he) hcon hres
 unfold Oper.wp
 have:(execOp a.eval ⟨some d,.call ⟨.value (.func f),xs,ts⟩,ty,pos,after,guard⟩).run P w=.ok (.enter f (xs.toList.map a.eval).toArray) w:=by
  have e:xs.map a.eval=(xs.toList.map a.eval).toArray:=by rw[←Array.toList_map]
  simp[execOp,resolve,invoke,Deferred.ofValue,Act.eval,hc,e]
 rw[this]
 refine hcall.mono ?_
 rintro e w' ⟨v,r,st',rfl,hq,hr',hrv,hst⟩
 exact hK μ _ _ w' (hr'.put (hN d rfl) hrv) ⟨r,st',hq,rfl⟩ hst
theorem run_callV {P:Program}{a:Act}{w:World}{d:Nat}{ty:TypeId}{pos:String}{after:Array Edge}{guard:Option (Nat×Bool)}{f:FuncId}{x:Operand}{xs:Array Operand}{ts:Array TypeId}{us:List Value}(hb:cloOk f xs.toList=true) (hc:∀args w,(callFunc f args).run P w=.ok (.enter f args) w)
  (hav:a.eval x=cloV f us):(execOp a.eval ⟨some d,.call ⟨.value x,xs,ts⟩,ty,pos,after,guard⟩).run P w=.ok (.enter f (xs.toList.map a.eval++us).toArray) w:=by
 obtain⟨A,B,e1,e2,e3,e4⟩:=cloV_is f us
 rw[e1] at hav
 have e:A++xs.map a.eval++B=(xs.toList.map a.eval++us).toArray:=by
  cases hb':bnds.contains f with
  | false=>
   rw[e3 hb',Array.empty_append] at e2⊢
   rw[e2,←List.append_toArray,←Array.toList_map]
  | true=>
   have hx:xs=#[]:=by
    cases xs with
    | mk l=>cases l with
     | nil=>rfl
     | cons y r=>simp[cloOk] at hb;exact absurd hb' (by simp[hb])
   subst hx
   rw[e4 hb'] at e2⊢
   simpa using e2
 simp[execOp,resolve,invoke,Deferred.ofValue,hav,hc,e]
theorem EF.callV {f:FuncId}{x:Operand}{xs:Array Operand}{ts:Array TypeId}{gs caps gs':List G}{Q:G→List (Nat×Blk)→Prop}(n:Nat) (hb:cloOk f xs.toList=true) (hc:∀args w,(callFunc f args).run P w=.ok (.enter f args) w)
  (hf:ev s x=some (.clo f caps)) (hx:evA s xs.toList=some gs) (hv:mapO (viewA n s.st) (gs++caps)=some gs') (hcon:GM P f gs' [] Q) (hres:∀r st',Q r st'→freshG r=true):
  Effect P W s ⟨some d,.call ⟨.value x,xs,ts⟩,ty,pos,after,guard⟩ (fun s'=>∃r st',Q r st'∧s'=s.put d r):=by
 refine⟨(fun _ h=>by cases h),?_⟩
 intro N cx μ a w hr hN K Q' hK
 obtain⟨h1,h2⟩:=evA_get hx
 have hcl:=hr.ev hf
 generalize hav:a.eval x=vf at hcl
 cases hcl with
 | imm h=>cases h
 | clo _ _ us hl hrc=>
  have hcall:=call_core (vs:=xs.toList.map a.eval++us) (W:=W) n hr hv (by simp[h1,hl]) (fun j g v hg hv=>by
   rw[List.getElem?_append] at hg hv
   rw[List.length_map,←h1] at hv
   split at hg
   ·rename_i hj
    rw[if_pos hj] at hv
    obtain⟨x,hxj,he⟩:=h2 j g hg
    rw[List.getElem?_map,hxj] at hv
    cases hv
    exact hr.ev he
   ·rename_i hj
    rw[if_neg hj] at hv
    exact hrc _ g v hg hv) hcon hres
  unfold Oper.wp
  have:=run_callV (P:=P) (w:=w) (d:=d) (ty:=ty) (pos:=pos) (after:=after) (guard:=guard) (ts:=ts) hb hc hav
  rw[this]
  refine hcall.mono ?_
  rintro e w' ⟨v,r,st',rfl,hq,hr',hrv,hst⟩
  exact hK μ _ _ w' (hr'.put (hN d rfl) hrv) ⟨r,st',hq,rfl⟩ hst
end
end Go.AM
/-
 AM,part N:the steps in the form in which a walk takes them;encodings.
-/
namespace Go.AM
section
variable {P:Program}{N:Nat}{cx:Cx}{Q:Exit→St→Prop}{s:St}{ops:Array Oper}{rest:List Oper}
variable {d:Nat}{op:Op}{ty:TypeId}{pos:String}{after:Array Edge}{guard:Option (Nat×Bool)}
theorem GL.py {g:G}(hy:PY P s ⟨some d,op,ty,pos,after,guard⟩ g) (hw:wants ops s guard=some true) (hN:Nat.blt d N=true) (h:GL P N cx ops Q rest (s.put d g)):
  GL P N cx ops Q (⟨some d,op,ty,pos,after,guard⟩::rest) s:=GL.yield hw rfl (by simpa[Nat.blt_eq] using hN) (hy.yield []) h
theorem GL.y {g:G}(hy:Yield P [] s ⟨some d,op,ty,pos,after,guard⟩ g) (hw:wants ops s guard=some true) (hN:Nat.blt d N=true) (h:GL P N cx ops Q rest (s.put d g)):
  GL P N cx ops Q (⟨some d,op,ty,pos,after,guard⟩::rest) s:=GL.yield hw rfl (by simpa[Nat.blt_eq] using hN) hy h
theorem GL.e {W:List Nat}{T:St→Prop}(he:Effect P W s ⟨some d,op,ty,pos,after,guard⟩ T) (hw:wants ops s guard=some true) (hN:Nat.blt d N=true) (h:∀s',T s'→GL P N cx ops Q rest s'):
  GL P N cx ops Q (⟨some d,op,ty,pos,after,guard⟩::rest) s:=GL.effect hw (fun d' e=>by cases e;simpa[Nat.blt_eq] using hN) he h
theorem GL.e1 {W:List Nat}{s1:St}(he:Effect P W s ⟨some d,op,ty,pos,after,guard⟩ (·=s1)) (hw:wants ops s guard=some true) (hN:Nat.blt d N=true) (h:GL P N cx ops Q rest s1):
  GL P N cx ops Q (⟨some d,op,ty,pos,after,guard⟩::rest) s:=GL.e he hw hN fun _ e=>e▸h
theorem GL.e0 {W:List Nat}{s1:St}(he:Effect P W s ⟨none,op,ty,pos,after,guard⟩ (·=s1)) (hw:wants ops s guard=some true) (h:GL P N cx ops Q rest s1):
  GL P N cx ops Q (⟨none,op,ty,pos,after,guard⟩::rest) s:=GL.effect hw (fun d' e=>by cases e) he fun _ e=>e▸h
theorem GL.no (hw:wants ops s guard=some false) (h:GL P N cx ops Q rest {s with fr:=del s.fr d}):
  GL P N cx ops Q (⟨some d,op,ty,pos,after,guard⟩::rest) s:=GL.pass hw h
end
def ints (l:List Int):List G:=l.map fun n=>.val (.int .i64 n)
@[simp] theorem ints_length (l:List Int):(ints l).length=l.length:=by simp[ints]
end Go.AM
/-
 AM,part O:data as Lean data:encodings;loops and joins as partial functions.
-/
namespace Go.AM
inductive Ex (β γ:Type) where
 | brk (b:β)
 | ret (r:γ)
def bindE {β γ ο:Type}(inj:γ→ο) (m:Option (Ex β γ)) (k:β→Option ο):Option ο:=
 match m with
 | some (.brk b)=>k b
 | some (.ret r)=>some (inj r)
 | none=>none
def loopF {σ ρ:Type}(body:σ→Option (σ⊕ρ)):Nat→σ→Option ρ
 | 0,_=>none
 | n+1,x=>match body x with
  | some (.inl x')=>loopF body n x'
  | some (.inr r)=>some r
  | none=>none
def idx {α:Type}(l:List α) (i:Int):Option α:=if 0≤i then l[i.toNat]? else none
def bidx (l:ByteArray) (i:Int):Option UInt8:=if 0≤i then l[i.toNat]? else none
theorem bidx_spec {l:ByteArray}{i:Int}{x:UInt8}(h:bidx l i=some x):0≤i∧l[i.toNat]?=some x:=by
 unfold bidx at h
 split at h
 ·rename_i h0;exact⟨h0,h⟩
 ·cases h
def chk (p:Prop) [Decidable p]:Option Unit:=if p then some () else none
theorem idx_spec {α:Type}{l:List α}{i:Int}{x:α}(h:idx l i=some x):0≤i∧i<(l.length:Int)∧l[i.toNat]?=some x:=by
 unfold idx at h
 split at h
 ·rename_i h0
  have:=(List.getElem?_eq_some_iff.1 h).1
  exact⟨h0,by omega,h⟩
 ·cases h
theorem chk_spec {p:Prop}[Decidable p]{u:Unit}(h:chk p=some u):p:=by
 unfold chk at h
 split at h
 ·assumption
 ·cases h
theorem bind_some {α β:Type}{m:Option α}{k:α→Option β}{r:β}(h:m.bind k=some r):∃x,m=some x∧k x=some r:=Option.bind_eq_some_iff.1 h
theorem bindE_some {β γ ο:Type}{inj:γ→ο}{m:Option (Ex β γ)}{k:β→Option ο}{r:ο}(h:bindE inj m k=some r):∃e,m=some e∧(∀b,e=.brk b→k b=some r)∧(∀r',e=.ret r'→inj r'=r):=by
 unfold bindE at h
 split at h
 ·exact⟨_,rfl,fun b e=>(by cases e;exact h),fun r' e=>(by cases e)⟩
 ·exact⟨_,rfl,fun b e=>(by cases e),fun r' e=>(by cases e;cases h;rfl)⟩
 ·cases h
section
variable {P:Program}{N:Nat}{cx:Cx}{Q:Exit→St→Prop}
def QB {β:Type}(ke:Exit) (E:β→St) (b:β) (ex:Exit) (s:St):Prop:=ex=ke∧Sub s (E b)
def QL {σ ρ:Type}(E:σ→St) (R:ρ→Exit→St→Prop):σ⊕ρ→Exit→St→Prop
 | .inl x,ex,s=>ex=.normal∧Sub s (E x)
 | .inr r,ex,s=>ex≠.normal∧R r ex s
theorem GW.loopF {σ ρ:Type}{c:Code}(E:σ→St) (R:ρ→Exit→St→Prop){body:σ→Option (σ⊕ρ)}{n:Nat}{x0:σ}{e:ρ}(hl:AM.loopF body n x0=some e)
  (hr:∀x o,body x=some o→GW P N cx c (QL E R o) (E x)) (hq:∀ex s,ex≠.normal→R e ex s→Q ex s):GW P N cx (.loop c) Q (E x0):=by
 let Step:Nat→σ→Prop:=fun k x=>AM.loopF body k x=some e
 refine(GW.loop (P:=P) (N:=N) (cx:=cx) (Q:=Q) (σ:=Nat×σ) (fun x=>E x.2) (fun x=>Step x.1 x.2) (fun x=>x.1) (n,x0) hl ?_)
 rintro⟨k,x⟩ hI
 cases k with
 | zero=>exact absurd hI (by simp[Step,AM.loopF])
 | succ k=>
  simp only[Step,AM.loopF] at hI
  cases hb:body x with
  | none=>rw[hb] at hI;cases hI
  | some o=>
   rw[hb] at hI
   refine(hr x o hb).mono fun ex s hx=>?_
   cases o with
   | inl x'=>
    obtain⟨rfl,hs⟩:=hx
    exact⟨(k,x'),hI,Nat.lt_succ_self k,hs⟩
   | inr r=>
    cases hI
    obtain⟨h1,h2⟩:=hx
    have:=hq ex s h1 h2
    cases ex <;> first | exact absurd rfl h1 | exact this
theorem QB.mk {β:Type}{ke:Exit}{E:β→St}{b:β}{s:St}(h:Sub s (E b)):QB ke E b ke s:=⟨rfl,h⟩
theorem QL.mkL {σ ρ:Type}{E:σ→St}{R:ρ→Exit→St→Prop}{x:σ}{s:St}(h:Sub s (E x)):QL E R (.inl x) .normal s:=⟨rfl,h⟩
theorem RetQ.mk {fn:Func}{Qf:G→List (Nat×Blk)→Prop}{s:St}{e:Exit}(he:e=.ret∨e=.normal) (gs:List G) (r:G) (st':List (Nat×Blk)) (h1:Ress P s fn.results.toList gs) (h2:SubSt s.st st') (h3:fzG s.st st' (pack gs)=some r) (h4:Qf r st') (hdf:s.df=[]:=by rfl):RetQ P fn Qf e s:=
 ⟨he,hdf,gs,r,st',h1,h2,h3,h4⟩
theorem GW.join {x y:Code}{s:St}{o:Exit→St→Prop}(h1:GW P N cx x o s) (h2:∀ex s',o ex s'→Ethen (GW P N cx y Q) Q ex s'):GW P N cx (.seq x y) Q s:=
 GW.seq (h1.mono h2)
end
def okI (n:Int):Prop:=-9223372036854775808≤n∧n≤9223372036854775807
def okS (s:ByteArray):Prop:=s.size≤9223372036854775807
def okL {α:Type}(ok:α→Prop) (l:List α):Prop:=l.length≤9223372036854775807∧∀x∈l,ok x
class Enc (α:Type) where
 sz:Nat
 cells:α→List G
 len:∀a,(cells a).length=sz
 pos:0<sz
 one:∀a g,g∈cells a→g.one=true
def encs {α:Type}[Enc α] (l:List α):List G:=l.flatMap Enc.cells
instance:Enc Int:=⟨1,fun n=>[.val (.int .i64 n)],fun _=>rfl,by decide,fun a g h=>by simp at h;subst h;rfl⟩
instance:Enc Bool:=⟨1,fun n=>[.val (.bool n)],fun _=>rfl,by decide,fun a g h=>by simp at h;subst h;rfl⟩
instance:Enc ByteArray:=⟨1,fun n=>[.val (.string n)],fun _=>rfl,by decide,fun a g h=>by simp at h;subst h;rfl⟩
instance {α:Type}[Enc α]:Enc (List α):=⟨1,fun l=>[.sl l.length (encs l)],fun _=>rfl,by decide,fun a g h=>by simp at h;subst h;rfl⟩
section
variable {α:Type}[Enc α]
theorem encs_length (l:List α):(encs l).length=l.length*Enc.sz α:=by
 unfold encs
 induction l with
 | nil=>simp
 | cons x r ih=>rw[List.flatMap_cons,List.length_append,ih,Enc.len,List.length_cons,Nat.add_mul];omega
theorem encs_one (l:List α):∀g,g∈encs l→g.one=true:=by
 intro g hg
 obtain⟨a,_,h⟩:=List.mem_flatMap.1 hg
 exact Enc.one a g h
theorem encs_get {l:List α}{i:Nat}{x:α}(h:l[i]?=some x){j:Nat}(hj:j<Enc.sz α):(encs l)[i*Enc.sz α+j]?=(Enc.cells x)[j]?:=by
 unfold encs
 rw[flatMap_get Enc.cells (Enc.sz α) Enc.pos l (fun a _=>Enc.len a)]
 have h1:(i*Enc.sz α+j)/Enc.sz α=i:=by
  rw[Nat.mul_comm,Nat.mul_add_div Enc.pos,Nat.div_eq_of_lt hj];rfl
 have h2:(i*Enc.sz α+j)%Enc.sz α=j:=by
  rw[Nat.mul_comm,Nat.mul_add_mod,Nat.mod_eq_of_lt hj]
 rw[h1,h2,h]
 rfl
theorem encs_drop_get {l:List α}{i:Nat}{x:α}(h:l[i]?=some x){j:Nat}(hj:j<Enc.sz α):((encs l).drop (i*Enc.sz α))[j]?=(Enc.cells x)[j]?:=by
 rw[List.getElem?_drop];exact encs_get h hj
theorem encs_append (l m:List α):encs (l++m)=encs l++encs m:=by simp[encs]
theorem encs_cons (x:α) (l:List α):encs (x::l)=Enc.cells x++encs l:=rfl
theorem encs_take (l:List α) (n:Nat):(encs l).take (n*Enc.sz α)=encs (l.take n):=by
 unfold encs
 induction l generalizing n with
 | nil=>simp
 | cons x r ih=>
  cases n with
  | zero=>simp
  | succ n=>
   rw[List.take_succ_cons,List.flatMap_cons,List.flatMap_cons,List.take_append,Enc.len,←ih n]
   have h1:(n+1)*Enc.sz α-Enc.sz α=n*Enc.sz α:=by rw[Nat.add_mul];omega
   rw[h1,List.take_of_length_le (by rw[Enc.len,Nat.add_mul];omega)]
theorem encs_drop (l:List α) (n:Nat):(encs l).drop (n*Enc.sz α)=encs (l.drop n):=by
 unfold encs
 induction l generalizing n with
 | nil=>simp
 | cons x r ih=>
  cases n with
  | zero=>simp
  | succ n=>
   rw[List.drop_succ_cons,List.flatMap_cons,List.drop_append,Enc.len,←ih n]
   have h1:(n+1)*Enc.sz α-Enc.sz α=n*Enc.sz α:=by rw[Nat.add_mul];omega
   rw[h1,List.drop_of_length_le (by rw[Enc.len,Nat.add_mul];omega),List.nil_append]
theorem encs_set {l:List α}{i:Nat}{x:α}{g:G}(hx:Enc.cells x=[g]) (h1:Enc.sz α=1):(encs l).set (0+i*1) g=encs (l.set i x):=by
 rw[Nat.zero_add,Nat.mul_one]
 unfold encs
 induction l generalizing i with
 | nil=>rfl
 | cons y r ih=>
  obtain⟨z,hz⟩:=List.length_eq_one_iff.1 ((Enc.len y).trans h1)
  cases i with
  | zero=>simp[hz,hx]
  | succ i=>simp only[List.set_cons_succ,List.flatMap_cons,hz,List.cons_append,List.nil_append,ih]
end
end Go.AM
/-
 AM,part P:the steps over encoded data.
-/
namespace Go.AM
section
variable {α:Type}[Enc α]
variable {P:Program}{N:Nat}{cx:Cx}{s:St}{W:List Nat}
variable {dst:Option Tmp}{ty:TypeId}{pos:String}{after:Array Edge}{guard:Option (Nat×Bool)}
theorem at_cell {l:List α}{i:Int}{x:α}(h:idx l i=some x){j:Nat}{g:G}(hg:(Enc.cells x)[j]?=some g):(encs l)[i.toNat*Enc.sz α+j]?=some g:=by
 have hj:j<Enc.sz α:=by have:=(List.getElem?_eq_some_iff.1 hg).1;rw[Enc.len] at this;exact this
 rw[encs_get (idx_spec h).2.2 hj];exact hg
theorem YT.elt {l:List α}{i:Int}{x:α}{t:TypeId}{xo:Operand}{g:G}(hx:ev s xo=some (.ptr ((encs l).drop (i.toNat*Enc.sz α)))) (h:idx l i=some x) (hg:(Enc.cells x)[0]?=some g) (hag:∀w,(isAgg t).run P w=.ok false w):
  Yield P W s ⟨dst,.load t xo,ty,pos,after,guard⟩ g:=YL.ptr hx (by rw[List.getElem?_drop];exact at_cell h hg) hag
theorem encs_sub {l:List α}{i:Int}{x:α}(h:idx l i=some x):((encs l).drop (i.toNat*Enc.sz α)).take (Enc.sz α)=Enc.cells x:=by
 apply List.ext_getElem?
 intro j
 rw[List.getElem?_take]
 split
 ·rename_i hj
  exact encs_drop_get (idx_spec h).2.2 hj
 ·rename_i hj
  rw[List.getElem?_eq_none]
  rw[Enc.len];omega
theorem YT.agg {l:List α}{i:Int}{x:α}{t:TypeId}{xo:Operand}(hx:ev s xo=some (.ptr ((encs l).drop (i.toNat*Enc.sz α)))) (h:idx l i=some x) (hag:∀w,(isAgg t).run P w=.ok true w)
  (hsz:∀w,(sizeOf t).run P w=.ok (Enc.sz α) w):Yield P W s ⟨dst,.load t xo,ty,pos,after,guard⟩ (.agg (Enc.cells x)):=by
 have:=YL.ptrAgg (P:=P) (W:=W) (dst:=dst) (ty:=ty) (pos:=pos) (after:=after) (guard:=guard) hx (sz:=Enc.sz α) (by
  rw[List.length_drop,encs_length]
  have h1:=(List.getElem?_eq_some_iff.1 (idx_spec h).2.2).1
  have:(i.toNat+1)*Enc.sz α≤l.length*Enc.sz α:=Nat.mul_le_mul_right _ h1
  rw[Nat.add_mul] at this
  omega) hag hsz
 rw[encs_sub h] at this
 exact this
theorem YT.own {l:List α}{i:Int}{x:α}{t h:Nat}{k:Blk}{xo:Operand}{g g':G}(hx:ev s xo=some (.loc h (0+i.toNat*Enc.sz α))) (hk:sget s.st h=some k) (hc:k.cells=encs l) (hi:idx l i=some x) (hg:(Enc.cells x)[0]?=some g)
  (hag:∀w,(isAgg t).run P w=.ok false w) (hW:W.contains h=false) (hout:k.out g=g') (hlp:k.lp=none:=by rfl):Yield P W s ⟨dst,.load t xo,ty,pos,after,guard⟩ g':=
 YL.load hx hk (by rw[hc,Nat.zero_add];exact at_cell hi hg) hag hW hout hlp
variable {d:Nat}
theorem ET.set {l:List α}{i:Int}{x:α}{t h:Nat}{k:Blk}{xo yo:Operand}{g g':G}{f:Bool}(hx:ev s xo=some (.loc h (0+i.toNat*1))) (hy:ev s yo=some g) (hk:sget s.st h=some k) (hc:k.cells=encs l) (hp:k.pure=true)
  (hi:immG g=some (g',f)) (hone:g.one=true) (he:Enc.cells x=[g']) (h1:Enc.sz α=1) (h0:0≤i) (hn:i<(l.length:Int)) (hsz:∀w,(sizeOf t).run P w=.ok 1 w) (hW:W.contains h=true) (hlp:k.lp=none:=by rfl):
  Effect P W s ⟨none,.store t xo yo,ty,pos,after,guard⟩ (·={fr:=s.fr,st:=sset s.st h {k with fresh:=k.fresh&&f,cells:=encs (l.set i.toNat x)},df:=s.df}):=by
 have:=EF.storeP (P:=P) (W:=W) (ty:=ty) (pos:=pos) (after:=after) (guard:=guard) hx hy hk hp hi hone hsz (by rw[hc,encs_length,h1];omega) hW hlp
 rw[hc,encs_set he h1] at this
 exact this
theorem ET.append {l m:List α}{t e:TypeId}{xo yo:Operand}{h bt:Nat}{k:Blk}{gy:G}{f:Bool}{z:Value}(hx:ev s xo=some (.osl h (Enc.sz α) 0 l.length)) (hy:ev s yo=some gy) (hk:sget s.st h=some k) (hc:k.cells=encs l)
  (hp:k.pure=true) (hety:k.ety=e) (hksz:k.sz=Enc.sz α) (hsrc:gsrc s.st (Enc.sz α) gy=some (encs m,m.length,f)) (hap:gy.hasH h=false) (ht:P.underlying t=some (.slice e))
  (hi:(P.info? e).map (fun i=>(i.zero,i.size,i.bytes))=some (some z,Enc.sz α,bt)) (hzs:z.cells.size=Enc.sz α) (hmax:l.length+m.length≤maxLen) (hbound:(l.length+m.length)*bt≤140737488355328) (hW:W.contains h=true) (hlp:k.lp=none:=by rfl) (hpn:pinned h=false:=by rfl) (hdf:dfNo h s.df=true:=by rfl):
  Effect P W s ⟨some d,.call ⟨.builtin .append,#[xo,yo],#[t,t]⟩,ty,pos,after,guard⟩
   (·={fr:=(d,.osl h (Enc.sz α) 0 (l++m).length)::killFr h s.fr,st:=(h,{k with fresh:=k.fresh&&f,cells:=encs (l++m)})::killSt h s.st,df:=s.df}):=by
 have:=EF.append (P:=P) (d:=d) (W:=W) (ty:=ty) (pos:=pos) (after:=after) (guard:=guard) hx hy hk hp hety hksz (by rw[hc,encs_length]) hsrc (by rw[encs_length]) (fun g hg=>encs_one m g hg) hap ht hi hzs Enc.pos hmax hbound hW hlp hpn hdf
 rw[encs_append,List.length_append,←hc]
 exact this
end
end Go.AM
/-
 AM,part Q:a slot whose value is known;two loads of which either may come up first.
-/
namespace Go.AM
section
variable {P:Program}{N:Nat}{cx:Cx}{Q:Exit→St→Prop}{s:St}{ops:Array Oper}{rest:List Oper}
theorem Rel.dup {μ:Mu}{a:Act}{w:World}{t:Nat}{g:G}(hr:Rel N cx μ s a w) (hg:get s.fr t=some g):Rel N cx μ {fr:=(t,g)::s.fr,st:=s.st,df:=s.df} a w:=
 {st:=hr.st,nd:=hr.nd,sz:=hr.sz,fr:=fun t' g' h=>by
   simp only[get] at h
   cases e:t.beq t' with
   | true=>
    rw[e,cond_true] at h
    cases h
    have e:=Nat.eq_of_beq_eq_true e
    subst e
    exact hr.fr _ _ hg
   | false=>
    rw[e,cond_false] at h
    exact hr.fr _ _ h}
theorem GL.lit (t:Nat){b v:Bool}(hg:get s.fr t=some (.val (.bool b))) (hb:b=v) (h:GL P N cx ops Q rest {fr:=(t,.val (.bool v))::s.fr,st:=s.st,df:=s.df}):GL P N cx ops Q rest s:=fun μ a w hr=>by
 subst hb
 exact h μ a w (hr.dup hg)
theorem GW.lit {c:Code}(t:Nat){b v:Bool}(hg:get s.fr t=some (.val (.bool b))) (hb:b=v) (h:GW P N cx c Q {fr:=(t,.val (.bool v))::s.fr,st:=s.st,df:=s.df}):GW P N cx c Q s:=fun μ a w hr=>by
 subst hb
 exact h μ a w (hr.dup hg)
theorem GH1.lit {W:List Nat}{fuel:Nat}{listed:Array Bool}(t:Nat){b v:Bool}(hg:get s.fr t=some (.val (.bool b))) (hb:b=v) (h:GH1 P N cx ops Q W fuel listed {fr:=(t,.val (.bool v))::s.fr,st:=s.st,df:=s.df}):GH1 P N cx ops Q W fuel listed s:=fun μ a w hr=>by
 subst hb
 exact h μ a w (hr.dup hg)
theorem GH2.lit {W:List Nat}{fuel:Nat}{listed:Array Bool}(t:Nat){b v:Bool}(hg:get s.fr t=some (.val (.bool b))) (hb:b=v) (h:GH2 P N cx ops Q W fuel listed {fr:=(t,.val (.bool v))::s.fr,st:=s.st,df:=s.df}):GH2 P N cx ops Q W fuel listed s:=fun ws Wb μ a w hr=>by
 subst hb
 exact h ws Wb μ a w (hr.dup hg)
end
section
variable {α:Type}[Enc α]
variable {P:Program}{N:Nat}{cx:Cx}{s:St}{W:List Nat}
variable {dst:Option Tmp}{ty:TypeId}{pos:String}{after:Array Edge}{guard:Option (Nat×Bool)}
end
end Go.AM
/-
 AM,part R:struct values put together;an empty slice written out;operations that were skipped.
-/
namespace Go.AM
section
variable {P:Program}{N:Nat}{cx:Cx}{Q:Exit→St→Prop}{s:St}{ops:Array Oper}{rest:List Oper}
theorem Rel.undef {μ:Mu}{a:Act}{w:World}{d:Nat}(h:Rel N cx μ s a w) (hN:d<N):Rel N cx μ (s.put d (.tup [])) (a.put (some d) Go.undef) w:=
 h.put hN (.tup [] [] rfl fun j g v hg=>by cases hg)
theorem GL.nou {d:Nat}{op:Op}{ty:TypeId}{pos:String}{after:Array Edge}{guard:Option (Nat×Bool)}(hw:wants ops s guard=some false) (hN:Nat.blt d N=true) (h:GL P N cx ops Q rest (s.put d (.tup []))):
  GL P N cx ops Q (⟨some d,op,ty,pos,after,guard⟩::rest) s:=by
 intro μ a w hr
 unfold wpListIn
 rw[if_neg (by rw[wants_spec hr hw];simp)]
 refine⟨fun _ _=>trivial,?_⟩
 exact h μ _ w (hr.undef (by simpa[Nat.blt_eq] using hN))
theorem GH1.passu {W:List Nat}{fuel:Nat}{listed:Array Bool}(i:Nat){o:Oper}{d:Nat}(hp:PNo Q (dsts ops)) (hi:ops[i]?=some o) (hs:Region.noSelect ops=true) (hf:Region.free .any ops listed i=true)
  (hr:(Region.ready .any ops listed).contains i=true) (hw:wants ops s o.guard=some false) (hd:o.dst=some d) (hN:d<N)
  (h:GH1 P N cx ops Q W fuel (listed.setIfInBounds i true) (s.put d (.tup []))):GH1 P N cx ops Q W (fuel+1) listed s:=by
 intro μ a w hrel
 refine wpAnyH_take (v:=undef) hi hs hf hr (fun c a' w' h=>lift_panic hp (mem_dsts hi hd) (hd▸h)) (.inr ⟨wants_spec hrel hw,rfl⟩) ⟨Nat.le_refl _,fun _ _ _=>rfl⟩ ?_
 rw[hd]
 exact h μ _ w (hrel.undef hN)
theorem GH2.passu {W:List Nat}{fuel:Nat}{listed:Array Bool}(i:Nat){o:Oper}{d:Nat}(hp:PNo Q (dsts ops)) (hi:ops[i]?=some o) (hs:Region.noSelect ops=true) (hf:Region.free .any ops listed i=true)
  (hr:(Region.ready .any ops listed).contains i=true) (hw:wants ops s o.guard=some false) (hd:o.dst=some d) (hN:d<N)
  (h:GH2 P N cx ops Q W fuel (listed.setIfInBounds i true) (s.put d (.tup []))):GH2 P N cx ops Q W (fuel+1) listed s:=by
 intro ws Wb μ a w hrel hS hW
 refine wpAnyH_take (v:=undef) hi hs hf hr (fun c a' w' h=>lift_panic hp (mem_dsts hi hd) (hd▸h)) (.inr ⟨wants_spec hrel hw,rfl⟩) hS ?_
 rw[hd]
 exact h ws Wb μ _ w (hrel.undef hN) hS hW
end
section
variable {P:Program}{N:Nat}{cx:Cx}{s:St}{W:List Nat}{d:Nat}
variable {dst:Option Tmp}{ty:TypeId}{pos:String}{after:Array Edge}{guard:Option (Nat×Bool)}
theorem EF.buildSlice0 {t e:TypeId}{sz:Nat}{z:Value}{bt:Nat}(hd:Nat) (ht:P.underlying t=some (.slice e))
  (hi:(P.info? e).map (fun i=>(i.zero,i.size,i.bytes))=some (some z,sz,bt)) (hfr:fresh s hd=true):
  Effect P W s ⟨some d,.buildSlice t 0 #[],ty,pos,after,guard⟩ (·={fr:=(d,.osl hd sz 0 0)::s.fr,st:=(hd,⟨e,true,true,true,sz,[],none⟩)::s.st,df:=s.df}):=by
 refine Effect.of (s1:={fr:=s.fr,st:=(hd,⟨e,true,true,true,sz,[],none⟩)::s.st,df:=s.df}) (g:=.osl hd sz 0 0) rfl (fun _ h=>by cases h) ?_
 intro N cx μ a w hr
 obtain⟨i,hi1,hi2⟩:=Option.map_eq_some_iff.1 hi
 simp only[Prod.mk.injEq] at hi2
 obtain⟨hz,hs1,hb1⟩:=hi2
 obtain⟨μ',w',rfl,h1,h2,h3⟩:=hr.allocNew (k:=⟨e,true,true,true,sz,[],none⟩) (cs:=#[]) hfr rfl (by simp) (fun _=>by simp) (fun j g' hg'=>by simp at hg') (fun _ g' hg'=>by simp at hg') W
 refine⟨_,μ',_,?_,h1,.osl hd sz 0 0 _ _ 0 h2 (Nat.le_refl _) (by simp),h3⟩
 have hrun:(Instr.buildSlice t 0 #[]).run P w=.ok (.slice (some ⟨w.heap.size,0,none⟩) 0 0) (w.alloc (.cells #[] e)):=by
  have e0:(Array.range 0).map (fun _=>(default:Value))=#[]:=by apply Array.eq_empty_of_size_eq_zero;simp
  simp[Instr.buildSlice,run_underlying ht,sizeOf,typeInfo,hi1,Instr.fill,newRow]
  rw[e0]
 simp[execOp,hrun]
def setAt {α:Type}(cs:List α) (off:Nat):List α→List α
 | []=>cs
 | x::r=>setAt (cs.set off x) (off+1) r
def gfill (place:Nat→Option (Nat×Nat)) (cells:List G):List (Nat×G)→Option (List G)
 | []=>some cells
 | (i,g)::r=>match place i with
  | some (off,size)=>match gok g&&(Nat.beq (gcells g).length size&&Nat.ble (off+size) cells.length) with
   | true=>gfill place (setAt cells off (gcells g)) r
   | false=>none
  | none=>none
def evp (s:St):List (Nat×Operand)→Option (List (Nat×G))
 | []=>some []
 | (i,x)::r=>match ev s x,evp s r with
  | some g,some gs=>some ((i,g)::gs)
  | _,_=>none
def RepL (O:Nat→Prop) (base:Nat) (w:World) (μ:Mu) (gs:List G) (vs:List Value):Prop:=vs.length=gs.length∧∀(j:Nat) (g:G) (v:Value),gs[j]?=some g→vs[j]?=some v→RepV O base w μ g v
theorem RepL.set {O:Nat→Prop}{base:Nat}{w:World}{μ:Mu}{gs:List G}{vs:List Value}(h:RepL O base w μ gs vs) (off:Nat){g:G}{v:Value}(hv:RepV O base w μ g v):RepL O base w μ (gs.set off g) (vs.set off v):=by
 refine⟨by simp[h.1],fun j g' v' h1 h2=>?_⟩
 rw[List.getElem?_set] at h1 h2
 by_cases e:off=j
 ·subst e
  rw[if_pos rfl] at h1 h2
  split at h1
  ·split at h2
   ·cases h1;cases h2;exact hv
   ·cases h2
  ·cases h1
 ·rw[if_neg e] at h1 h2
  exact h.2 j g' v' h1 h2
theorem RepL.setAt {O:Nat→Prop}{base:Nat}{w:World}{μ:Mu}:∀(gp:List G) (vp:List Value) (off:Nat){gs:List G}{vs:List Value},RepL O base w μ gs vs→RepL O base w μ gp vp→RepL O base w μ (AM.setAt gs off gp) (AM.setAt vs off vp)
 | [],[],_,_,_,h,_=>h
 | [],_::_,_,_,_,_,h=>by cases h.1
 | _::_,[],_,_,_,_,h=>by cases h.1
 | g::gp,v::vp,off,_,_,h,hp=>RepL.setAt gp vp (off+1) (h.set off (hp.2 0 g v rfl rfl)) ⟨by have:=hp.1;simpa using this,fun j g' v' h1 h2=>hp.2 (j+1) g' v' h1 h2⟩
theorem foldl_setAt (off:Nat):∀(l:List Value) (k:Nat) (cs:Array Value),((l.zipIdx k).foldl (fun cs (x:Value×Nat)=>cs.setIfInBounds (off+x.2) x.1) cs).toList=setAt cs.toList (off+k) l
 | [],_,_=>rfl
 | x::r,k,cs=>by
  simp only[List.zipIdx_cons,List.foldl_cons,setAt]
  rw[foldl_setAt off r (k+1)]
  simp[Nat.add_assoc]
theorem gfill_spec {O:Nat→Prop}{base:Nat}{w:World}{μ:Mu}{place:Nat→Option (Nat×Nat)}:∀(gp:List (Nat×G)) (vp:List (Nat×Value)) (gs:List G) (vs:Array Value) (out:List G),
  gfill place gs gp=some out→RepL O base w μ gs vs.toList→vp.length=gp.length→(∀(j:Nat) (x:Nat×G) (y:Nat×Value),gp[j]?=some x→vp[j]?=some y→x.1=y.1∧RepV O base w μ x.2 y.2)→
  ∃cs,Instr.fill place vs vp=some cs∧RepL O base w μ out cs.toList
 | [],[],gs,vs,out,h,hr,_,_=>by cases h;exact⟨vs,rfl,hr⟩
 | [],_::_,_,_,_,_,_,hl,_=>by cases hl
 | _::_,[],_,_,_,_,_,hl,_=>by cases hl
 | (i,g)::gp,(i',v)::vp,gs,vs,out,h,hr,hl,hp=>by
  obtain⟨e,hv⟩:=hp 0 _ _ rfl rfl
  simp only at e hv
  subst e
  simp only[gfill] at h
  cases hpl:place i with
  | none=>rw[hpl] at h;cases h
  | some os=>
   obtain⟨off,size⟩:=os
   rw[hpl] at h
   simp only at h
   cases hc:gok g&&(Nat.beq (gcells g).length size&&Nat.ble (off+size) gs.length) with
   | false=>rw[hc] at h;cases h
   | true=>
    rw[hc] at h
    simp only[Bool.and_eq_true] at hc
    obtain⟨c1,c2,c3⟩:=hc
    have c2:=Nat.eq_of_beq_eq_true c2
    have c3:=Nat.le_of_ble_eq_true c3
    obtain⟨d1,d2⟩:=hv.cells c1
    have hrl:RepL O base w μ (gcells g) v.cells.toList:=by
     refine⟨by rw[Array.length_toList];exact d1,fun j g' v' h1 h2=>?_⟩
     obtain⟨u,hu,hru⟩:=d2 j g' h1
     rw[Array.getElem?_toList,hu] at h2
     cases h2
     exact hru
    have hrs:=RepL.setAt _ _ off hr hrl
    have hvl:vs.size=gs.length:=by rw[←hr.1,Array.length_toList]
    have hstep:Instr.fill place vs ((i,v)::vp)=Instr.fill place (v.cells.zipIdx.foldl (fun cs (x:Value×Nat)=>cs.setIfInBounds (off+x.2) x.1) vs) vp:=by
     simp only[Instr.fill,hpl]
     rw[if_neg (by simp;omega)]
    rw[hstep]
    have hfold:(v.cells.zipIdx.foldl (fun cs (x:Value×Nat)=>cs.setIfInBounds (off+x.2) x.1) vs).toList=AM.setAt vs.toList off v.cells.toList:=by
     rw[←Array.foldl_toList,Array.toList_zipIdx]
     exact foldl_setAt off v.cells.toList 0 vs
    refine gfill_spec gp vp _ _ out h (by rw[hfold];exact hrs) (by simpa using hl) fun j x y h1 h2=>hp (j+1) x y h1 h2
theorem evp_spec {μ:Mu}{a:Act}{w:World}(h:Rel N cx μ s a w):∀(l:List (Nat×Operand)) (gp:List (Nat×G)),evp s l=some gp→
  (l.map fun x=>(x.1,a.eval x.2)).length=gp.length∧∀(j:Nat) (x:Nat×G) (y:Nat×Value),gp[j]?=some x→(l.map fun x=>(x.1,a.eval x.2))[j]?=some y→x.1=y.1∧RepV (cx.O s.st μ) cx.base w μ x.2 y.2
 | [],gp,he=>by cases he;exact⟨rfl,fun j x y h=>by cases h⟩
 | (i,x)::r,gp,he=>by
  simp only[evp] at he
  cases hx:AM.ev s x with
  | none=>rw[hx] at he;cases he
  | some g=>
   rw[hx] at he
   cases hr:evp s r with
   | none=>rw[hr] at he;cases he
   | some gs=>
    rw[hr] at he
    cases he
    obtain⟨h1,h2⟩:=evp_spec h r gs hr
    refine⟨by simpa using h1,fun j x' y h3 h4=>?_⟩
    cases j with
    | zero=>cases h3;cases h4;exact⟨rfl,h.ev hx⟩
    | succ j=>exact h2 j x' y h3 h4
theorem PY.build {t:TypeId}{parts:Array (Nat×Operand)}{fs:Array Field}{z:Value}{places:List (Nat×Nat)}{gp:List (Nat×G)}{out:List G}(ht:P.underlying t=some (.struct fs)) (hz:(P.info? t).map (·.zero)=some (some z))
  (hp:fs.toList.mapM (fun f=>(P.info? f.type).map fun i=>(f.offset,i.size))=some places) (he:evp s parts.toList=some gp) (hf:gfill (places[·]?) (z.cells.toList.map .val) gp=some out):
  PY P s ⟨dst,.build t parts,ty,pos,after,guard⟩ (.agg out):=fun N cx μ a w hr=>by
 obtain⟨it,h1,h2⟩:=Option.map_eq_some_iff.1 hz
 obtain⟨h3,h4⟩:=evp_spec hr _ _ he
 obtain⟨cs,h5,h6⟩:=gfill_spec (O:=cx.O s.st μ) (base:=cx.base) (w:=w) (μ:=μ) gp _ _ z.cells out hf ⟨by simp,fun j g v hg hv=>by
  rw[List.getElem?_map,hv] at hg
  cases hg
  exact .imm (.val _)⟩ h3 h4
 have hb:∀w',(Instr.build t (parts.map fun (x:Nat×Operand)=>(x.1,a.eval x.2))).run P w'=.ok (.agg cs) w':=fun w'=>by
  refine Go.run_build w' t _ cs ?_
  unfold Program.built
  simp only[h1,ht,h2,hp]
  rw[Array.toList_map]
  have e:(fun x:Nat=>places.toArray[x]?)=(fun x:Nat=>places[x]?):=by funext x;simp
  rw[e]
  exact h5
 refine⟨.agg cs,?_,fun w'=>?_⟩
 ·have:=RepV.agg (O:=cx.O s.st μ) (base:=cx.base) (w:=w) (μ:=μ) out cs.toList h6.1 h6.2
  simpa using this
 ·simp[execOp,hb]
theorem run_equal_bool {t:TypeId}(ht:P.underlying t=some .bool) (a b:Bool) (w:World):(Op.equal t (.bool a) (.bool b)).run P w=.ok (a==b) w:=by
 have e:∃n,Op.maxDepth=n+1:=⟨_,rfl⟩
 obtain⟨n,e⟩:=e
 unfold Op.equal
 rw[e]
 simp[Op.equalIn,run_underlying ht]
theorem PY.eqB {t t':TypeId}{x y:Operand}{a b:Bool}(hx:ev s x=some (.val (.bool a))) (hy:ev s y=some (.val (.bool b))) (ht:P.underlying t=some .bool):
  PY P s ⟨dst,.binOp .eql t x y t',ty,pos,after,guard⟩ (.val (.bool (a==b))):=fun _ _ _ _ _ hrel=>by
 refine⟨_,.imm (.val _),fun w'=>?_⟩
 simp[execOp,hrel.val hx,hrel.val hy,eqGuard,binOp,run_equal_bool ht]
theorem PY.neB {t t':TypeId}{x y:Operand}{a b:Bool}(hx:ev s x=some (.val (.bool a))) (hy:ev s y=some (.val (.bool b))) (ht:P.underlying t=some .bool):
  PY P s ⟨dst,.binOp .neq t x y t',ty,pos,after,guard⟩ (.val (.bool (!(a==b)))):=fun _ _ _ _ _ hrel=>by
 refine⟨_,.imm (.val _),fun w'=>?_⟩
 simp[execOp,hrel.val hx,hrel.val hy,eqGuard,binOp,run_equal_bool ht]
end
end Go.AM
/-
 AM,part S:is a slice nil?
-/
namespace Go.AM
noncomputable def nilF {ρ:Type}(n:Int) (m1 m2:Option ρ):Option ρ:=open Classical in if n=0 then(if m1=m2 then m1 else none) else m2
theorem nilF_spec {ρ:Type}{n:Int}{m1 m2:Option ρ}{r:ρ}(h:nilF n m1 m2=some r):(n=0→m1=some r)∧m2=some r:=by
 unfold nilF at h
 split at h
 ·split at h
  ·rename_i e;exact⟨fun _=>h,e▸h⟩
  ·cases h
 ·exact⟨fun e=>absurd e (by assumption),h⟩
section
variable {P:Program}{N:Nat}{cx:Cx}{Q:Exit→St→Prop}{s:St}{ops:Array Oper}{rest:List Oper}
theorem RepV.sliceLen {O:Nat→Prop}{base:Nat}{w:World}{μ:Mu}{g:G}{v:Value}{n:Int}(h:RepV O base w μ g v) (hn:lenG g=some n):∃b m c,v=.slice b m c∧(m:Int)=n∧(b=none→n=0):=by
 have sl:∀(O:Nat→Prop) (n:Nat) (cells:List G) (v:Value),RepI O w (.sl n cells) v→∃b m c,v=.slice b m c∧m=n∧(b=none→n=0):=by
  intro O n cells v h
  cases h with
  | nil=>exact⟨none,0,0,rfl,rfl,fun _=>rfl⟩
  | emp a cap=>exact⟨some a,0,cap,rfl,rfl,fun h=>rfl⟩
  | sl _ _ b off cap=>exact⟨_,n,cap,rfl,rfl,fun h=>by cases h⟩
 cases g with
 | sl n' cells=>
  cases hn
  cases h with
  | imm h=>obtain⟨b,m,c,e1,e2,e3⟩:=sl _ _ _ _ h;exact⟨b,m,c,e1,by rw[e2],fun h=>by rw[e3 h];rfl⟩
 | fr g=>
  cases h with
  | imm h=>cases h
  | fr h=>
   cases g with
   | sl n' cells=>cases hn;obtain⟨b,m,c,e1,e2,e3⟩:=sl _ _ _ _ h;exact⟨b,m,c,e1,by rw[e2],fun h=>by rw[e3 h];rfl⟩
   | _=>cases hn
 | osl h' sz off n'=>
  cases hn
  cases h with
  | imm h=>cases h
  | onil=>exact⟨none,0,0,rfl,rfl,fun _=>rfl⟩
  | osl _ _ _ _ b m cap=>exact⟨_,n',cap,rfl,rfl,fun h=>by cases h⟩
  | ozero _ _ off0 b m _ _=>exact⟨_,0,0,rfl,rfl,fun _=>rfl⟩
 | ks h' i sz n'=>
  cases hn
  cases h with
  | imm h=>cases h
  | knil _ _ _ x cap=>exact⟨x,0,cap,rfl,rfl,fun _=>rfl⟩
  | ks _ _ _ _ b m c k cap=>exact⟨_,n',cap,rfl,rfl,fun h=>by cases h⟩
 | val v0=>
  cases h with
  | imm h=>
   cases h
   cases v with
   | slice b m c=>
    cases b with
    | none=>cases m with
     | zero=>cases c with
      | zero=>cases hn;exact⟨none,0,0,rfl,rfl,fun _=>rfl⟩
      | succ c=>cases hn
     | succ m=>cases hn
    | some b=>cases hn
   | _=>cases hn
 | _=>cases hn
theorem run_eqnil {t e:TypeId}(ht:P.underlying t=some (.slice e)) (xo yo:Operand) (b:Option Addr) (m c:Nat) (w:World):
  (do eqGuard .eql t xo yo (.slice b m c) (.slice none 0 0);binOp .eql t (.slice b m c) (.slice none 0 0):Sem Value).run P w=.ok (.bool b.isNone) w:=by
 have h:=Lib.run_eql_slice_nil (P:=P) w t e b m c 0 0 ht
 have hg:(eqGuard .eql t xo yo (.slice b m c) (.slice none 0 0)).run P w=.ok () w:=by simp[eqGuard]
 simp only[Sem.run_bind,hg,Result.andThen_ok,h]
theorem run_nenil {t e:TypeId}(ht:P.underlying t=some (.slice e)) (xo yo:Operand) (b:Option Addr) (m c:Nat) (w:World):
  (do eqGuard .neq t xo yo (.slice b m c) (.slice none 0 0);binOp .neq t (.slice b m c) (.slice none 0 0):Sem Value).run P w=.ok (.bool (!b.isNone)) w:=by
 have h:=run_neq_slice_nil_any (P:=P) w t e b m c 0 0 ht
 have hg:(eqGuard .neq t xo yo (.slice b m c) (.slice none 0 0)).run P w=.ok () w:=by simp[eqGuard]
 simp only[Sem.run_bind,hg,Result.andThen_ok,h]
end
end Go.AM
/-
 AM,part T:a block said in other words;slices given out of hand;a nil slice in a box taken in hand;lists written out.
-/
namespace Go.AM
section
variable {P:Program}{N:Nat}{cx:Cx}{Q:Exit→St→Prop}{s:St}{ops:Array Oper}{rest:List Oper}
theorem Rel.restate {μ:Mu}{a:Act}{w:World}(h:Rel N cx μ s a w){hh:Nat}{k k':Blk}(hk:sget s.st hh=some k) (he:k'.ety=k.ety) (hmine:k'.mine=k.mine) (hsz:k'.sz=k.sz) (hl:k'.cells.length≤k.cells.length) (hlp:k.lp=none) (hlp':k'.lp=none)
  (hc:∀(j:Nat) (g':G),k'.cells[j]?=some g'→∃g,k.cells[j]?=some g∧∀v,RepC (cx.O s.st μ) cx.base w μ k g v→RepC (cx.O s.st μ) cx.base w μ k' g' v):
  Rel N cx μ {fr:=s.fr,st:=sset s.st hh k',df:=s.df} a w:=by
 have hb:=h.st.blk hh k hk
 cases hm:μ hh with
 | some bm=>
  obtain⟨b,m⟩:=bm
  rw[hm] at hb
  obtain⟨cs,h1,h2,h3,h4,h5,h6⟩:=hb.cells hlp
  exact(h.write hk hm (by rw[he];exact h1) h2 rfl (fun _ _=>rfl) rfl rfl rfl (fun e=>hmine▸e) (Nat.le_trans hl h3) (by rw[hsz];exact h5) (fun j g' hg'=>by
   obtain⟨g,hg,hr⟩:=hc j g' hg'
   obtain⟨v,hv,hrv⟩:=h6 j g hg
   exact⟨v,hv,hr v hrv⟩) [hh] (by simp) hlp').1
 | none=>
  rw[hm] at hb
  obtain⟨hb,_⟩:=hb
  have hb':k'.cells=[]:=List.eq_nil_of_length_eq_zero (by rw[hb] at hl;simpa using hl)
  have hOO:∀b,cx.O (sset s.st hh k') μ b↔cx.O s.st μ b:=fun b=>or_congr Iff.rfl (Own.sset hk)
  have hO:∀b,b<w.heap.size→¬cx.O s.st μ b→¬cx.O (sset s.st hh k') μ b:=fun b _ hn ho=>hn ((hOO b).1 ho)
  have f:∀x k1,sget (sset s.st hh k') x=some k1→∃k1,sget s.st x=some k1:=fun x k1 h1=>by
   rcases sget_sset_iff hk h1 with ⟨rfl,rfl⟩ | ⟨_,h1⟩
   ·exact⟨k,hk⟩
   ·exact⟨_,h1⟩
  refine {st:={blk:=?_,injF:=?_,outF:=?_,pin:=?_,xlt:=h.st.xlt,hb:=h.st.hb,os:=h.st.os,tape:=h.st.tape,output:=h.st.output,gl:=h.st.gl,keep:=h.st.keep},nd:=h.nd.mono (Kept.refl _ _) hO,sz:=h.sz,fr:=fun t g hg=>?_}
  ·intro x k1 h1
   rcases sget_sset_iff hk h1 with ⟨rfl,rfl⟩ | ⟨_,h1⟩
   ·rw[hm];exact .nil hb' hlp'
   ·exact(h.st.blk x k1 h1).mono (fun _ _ _ _ _=>rfl) (Kept.refl _ _) hO
  ·intro x x' k1 k2 y b1 m1 b2 m2 h1 h2
   obtain⟨k1',h1'⟩:=f x k1 h1
   obtain⟨k2',h2'⟩:=f x' k2 h2
   exact h.st.injF x x' k1' k2' y b1 m1 b2 m2 h1' h2'
  ·intro x k1 b1 m1 y h1 h2
   intro hi
   rcases sget_sset_iff hk h1 with ⟨rfl,rfl⟩ | ⟨_,h1⟩
   ·obtain⟨a1,a2,a3,a4⟩:=h.st.outF x k b1 m1 y hk h2 hi
    exact⟨a1,a2,a3,fun hm=>a4 (hmine▸hm)⟩
   ·exact h.st.outF x k1 b1 m1 y h1 h2 hi
  ·intro x k1 h1 h2
   obtain⟨k1',h1'⟩:=f x k1 h1
   exact h.st.pin x k1' h1' h2
  ·obtain⟨v,hv,hr⟩:=h.fr t g hg
   exact⟨v,hv,hr.mono (Kept.refl _ _) hO (Nat.le_refl _)⟩
theorem Rel.newNil {μ : Mu} {a : Act} {w : World} (h : Rel N cx μ s a w) (hd : Nat) (k : Blk) (hf : fresh s hd = true) (hk : k.cells = []) (hlp : k.lp = none) : Rel N cx (upd μ hd none) { fr := s.fr, st := (hd, k) :: s.st, df := s.df } a w := by
 obtain ⟨h1, h2, h3, h5, h6⟩ := fresh_spec hf
 obtain ⟨h4, hO⟩ := h.st.newNil h1 h3 (not_pinned h6) hk hlp
 refine { st := h4, nd := (h.nd.mono (Kept.refl _ _) (fun b _ => hO b)).remap (fun g hg y hy => upd_other fun e => by subst e; rw [dfNo_mem h5 hg] at hy; cases hy), sz := h.sz, fr := fun t' g hg' => ?_ }
 obtain ⟨v, hv, hr⟩ := h.fr t' g hg'
 refine ⟨v, hv, (hr.mono (Kept.refl _ _) (fun b _ => hO b) (Nat.le_refl _)).remap fun y hy => upd_other ?_⟩
 intro e
 subst e
 rw [frNo_get h2 hg'] at hy
 cases hy
theorem Rel.adoptC {μ : Mu} {a : Act} {w : World} (h : Rel N cx μ s a w) (hh j hd : Nat) (e : TypeId) (sz : Nat) {k : Blk} (hk : sget s.st hh = some k) (hp : k.pure = false) (hj : k.cells[j]? = some (.val (.slice none 0 0))) (hf : fresh s hd = true) (hlp : k.lp = none) :
    ∃ μ', Rel N cx μ' { fr := s.fr, st := sset ((hd, ⟨e, true, true, true, sz, [], none⟩) :: s.st) hh { k with cells := k.cells.set j (.osl hd sz 0 0) }, df := s.df } a w := by
  have h1 := h.newNil hd ⟨e, true, true, true, sz, [], none⟩ hf rfl rfl
  have hne : hh ≠ hd := fun e => by
    subst e
    obtain ⟨h2, _⟩ := fresh_spec hf
    rw [hk] at h2; cases h2
  have hk2 : sget ((hd, ⟨e, true, true, true, sz, [], none⟩) :: s.st) hh = some k := by rw [sget_cons_other _ _ hne]; exact hk
  refine ⟨_, h1.restate (s := { fr := s.fr, st := (hd, ⟨e, true, true, true, sz, [], none⟩) :: s.st, df := s.df }) hk2 rfl rfl rfl (by simp) hlp hlp fun i g' hg' => ?_⟩
  simp only [List.getElem?_set] at hg'
  by_cases e : j = i
  · subst e
    rw [if_pos rfl] at hg'
    split at hg'
    · cases hg'
      refine ⟨_, hj, fun v hv => ?_⟩
      unfold RepC at hv ⊢
      simp only [hp] at hv ⊢
      cases hv with
      | imm hv => cases hv; exact .onil hd sz (upd_same _ _ _)
    · cases hg'
  · rw [if_neg e] at hg'
    refine ⟨g', hg', fun v hv => ?_⟩
    unfold RepC at hv ⊢
    exact hv
theorem GW.adoptC {c:Code}(hh j hd:Nat) (e:TypeId) (sz:Nat){k:Blk}(hk:sget s.st hh=some k) (hp:k.pure=false) (hj:k.cells[j]?=some (.val (.slice none 0 0))) (hf:fresh s hd=true)
  (h:GW P N cx c Q {fr:=s.fr,st:=sset ((hd,⟨e,true,true,true,sz,[],none⟩)::s.st) hh {k with cells:=k.cells.set j (.osl hd sz 0 0)},df:=s.df}) (hlp:k.lp=none:=by rfl):GW P N cx c Q s:=fun _ a w hr=>
 let ⟨μ',h'⟩:=hr.adoptC hh j hd e sz hk hp hj hf hlp
 h μ' a w h'
theorem GL.adoptC (hh j hd:Nat) (e:TypeId) (sz:Nat){k:Blk}(hk:sget s.st hh=some k) (hp:k.pure=false) (hj:k.cells[j]?=some (.val (.slice none 0 0))) (hf:fresh s hd=true)
  (h:GL P N cx ops Q rest {fr:=s.fr,st:=sset ((hd,⟨e,true,true,true,sz,[],none⟩)::s.st) hh {k with cells:=k.cells.set j (.osl hd sz 0 0)},df:=s.df}) (hlp:k.lp=none:=by rfl):GL P N cx ops Q rest s:=fun _ a w hr=>
 let ⟨μ',h'⟩:=hr.adoptC hh j hd e sz hk hp hj hf hlp
 h μ' a w h'
def fzE (st st':List (Nat×Blk)) (g g':G):Prop:=fzG st st' g=some g'∨g=g'
def FzFr (st st':List (Nat×Blk)) (fr:List (Nat×G)):List (Nat×G)→Prop
 | []=>True
 | (t,g')::r=>(∃g,get fr t=some g∧fzE st st' g g')∧FzFr st st' fr r
def FzL (st st':List (Nat×Blk)):List G→List G→Prop
 | [],[]=>True
 | g::r,g'::r'=>fzE st st' g g'∧FzL st st' r r'
 | _,_=>False
def FzSt (st st':List (Nat×Blk)):List (Nat×Blk)→Prop
 | []=>True
 | (h,k')::r=>(∃k,sget st h=some k∧k'.ety=k.ety∧k'.mine=k.mine∧k'.sz=k.sz∧k'.pure=k.pure∧k'.fresh=k.fresh∧k'.lp=k.lp∧((k.pure=true∧k'.cells=k.cells)∨(k.pure=false∧FzL st st' k.cells k'.cells)))∧FzSt st st' r
theorem FzFr.get {st st':List (Nat×Blk)}{fr:List (Nat×G)}:∀{fr':List (Nat×G)},FzFr st st' fr fr'→∀{t:Nat}{g':G},AM.get fr' t=some g'→∃g,AM.get fr t=some g∧fzE st st' g g'
 | [],_,_,_,h=>by cases h
 | (k,g0)::r,⟨h1,h2⟩,t,g',h=>by
  simp only[AM.get] at h
  cases hk:Nat.beq k t with
  | true=>rw[hk] at h;have:=Nat.eq_of_beq_eq_true hk;subst this;simp at h;subst h;exact h1
  | false=>rw[hk] at h;exact FzFr.get h2 h
theorem FzSt.get {st st':List (Nat×Blk)}:∀{l:List (Nat×Blk)},FzSt st st' l→∀{t:Nat}{k':Blk},sget l t=some k'→∃k,sget st t=some k∧k'.ety=k.ety∧k'.mine=k.mine∧k'.sz=k.sz∧k'.pure=k.pure∧k'.fresh=k.fresh∧k'.lp=k.lp∧((k.pure=true∧k'.cells=k.cells)∨(k.pure=false∧FzL st st' k.cells k'.cells))
 | [],_,_,_,h=>by cases h
 | (k,g0)::r,⟨h1,h2⟩,t,g',h=>by
  simp only[sget] at h
  cases hk:Nat.beq k t with
  | true=>rw[hk] at h;have:=Nat.eq_of_beq_eq_true hk;subst this;simp at h;subst h;exact h1
  | false=>rw[hk] at h;exact FzSt.get h2 h
theorem FzL.get {st st':List (Nat×Blk)}:∀{l l':List G},FzL st st' l l'→l'.length=l.length∧∀{j:Nat}{g':G},l'[j]?=some g'→∃g,l[j]?=some g∧fzE st st' g g'
 | [],[],_=>⟨rfl,fun h=>by cases h⟩
 | _::_,[],h=>h.elim
 | [],_::_,h=>h.elim
 | g::r,g1::r',⟨h1,h2⟩=>by
  obtain⟨h3,h4⟩:=FzL.get h2
  refine⟨by simp[h3],fun {j g'} h=>?_⟩
  cases j with
  | zero=>cases h;exact⟨g,rfl,h1⟩
  | succ j=>exact h4 h
theorem Rel.freeze {μ:Mu}{a:Act}{w:World}(h:Rel N cx μ s a w){s':St}(hst:FzSt s.st s'.st s'.st) (hfr:FzFr s.st s'.st s.fr s'.fr) (hdf:s.df=s'.df):Rel N cx μ s' a w:=by
 have hdom:∀x k,sget s'.st x=some k→∃k0,sget s.st x=some k0:=fun x k hk=>let ⟨k0,h1,_⟩:=hst.get hk;⟨k0,h1⟩
 have hO:∀b,b<w.heap.size→¬cx.O s.st μ b→¬cx.O s'.st μ b:=fun b _ hn ho=>hn (ho.imp id fun ⟨x,k,c,m,h1,h2,hi⟩=>let ⟨k0,h3⟩:=hdom x k h1;⟨x,k0,c,m,h3,h2,hi⟩)
 have hE:∀{g g':G}{v:Value},fzE s.st s'.st g g'→RepV (cx.O s.st μ) cx.base w μ g v→RepV (cx.O s'.st μ) cx.base w μ g' v:=by
  intro g g' v hz hv
  rcases hz with hz | rfl
  ·exact fzG_spec h.st hdom hv hz
  ·exact hv.mono (Kept.refl _ _) hO (Nat.le_refl _)
 refine {st:={blk:=?_,injF:=?_,outF:=?_,pin:=?_,xlt:=h.st.xlt,hb:=h.st.hb,os:=h.st.os,tape:=h.st.tape,output:=h.st.output,gl:=h.st.gl,keep:=h.st.keep},nd:=hdf▸h.nd.mono (Kept.refl _ _) hO,sz:=h.sz,fr:=fun t g' hg'=>?_}
 ·intro x k' hk'
  obtain⟨k,hk,e1,e2,e3,e4,e5,e7,e6⟩:=hst.get hk'
  have hb:=h.st.blk x k hk
  have hlen:k'.cells.length=k.cells.length:=by
   rcases e6 with ⟨_,e⟩ | ⟨_,e⟩
   ·rw[e]
   ·exact e.get.1
  cases hm:μ x with
  | none=>
   rw[hm] at hb
   exact hb.nilAny (by rw[hb.1];exact List.eq_nil_of_length_eq_zero (by rw[hlen,hb.1];rfl)) e7 e4
  | some bm=>
   obtain⟨b,m⟩:=bm
   rw[hm] at hb
   cases hlp:k.lp with
   | none=>
    obtain⟨cs,h1,h2,h3,h4,h5,h6⟩:=hb.cells hlp
    refine .mk (e7.trans hlp) (hb.nokid hlp) ⟨cs,by rw[e1];exact h1,h2,by rw[hlen];exact h3,fun hmn=>h4 (e2▸hmn),by rw[e3];exact h5,fun j g' hg'=>?_⟩
    rcases e6 with ⟨hp,e⟩ | ⟨hp,e⟩
    ·rw[e] at hg'
     obtain⟨v,hv,hr⟩:=h6 j g' hg'
     refine⟨v,hv,?_⟩
     have:=hr.mono (Kept.refl _ _) hO
     unfold RepC at this⊢
     rw[e4,e5]
     exact this
    ·obtain⟨g,hg,hz⟩:=e.get.2 hg'
     obtain⟨v,hv,hr⟩:=h6 j g hg
     refine⟨v,hv,?_⟩
     unfold RepC at hr⊢
     rw[e4]
     simp only[hp] at hr⊢
     exact hE hz hr
   | some kd=>
    cases kd with
    | loop lp=>
     obtain⟨D,vs,h1,h2,h3,h4,h5⟩:=(RelBlk.loop hlp).1 hb
     refine(RelBlk.loop (e7.trans hlp)).2 ⟨D,vs,h1,h2,e2.trans h3,e4.trans h4,fun j t g' ht hg'=>?_⟩
     rcases e6 with ⟨hp,_⟩ | ⟨_,e⟩
     ·rw[h4] at hp;cases hp
     ·obtain⟨g,hg,hz⟩:=e.get.2 hg'
      obtain⟨v,hv,hr⟩:=h5 j t g ht hg
      exact⟨v,hv,hE hz hr⟩
    | deep d=>
     obtain⟨h1,h2,h3,h4⟩:=((RelBlk.deep hlp).1 hb).mono (fun _ _=>rfl) (Kept.refl _ _) hO
     refine(RelBlk.deep (e7.trans hlp)).2 ⟨by rw[e5];exact h1,e4.trans h2,?_,fun hmn=>h4 (e2▸hmn)⟩
     exact List.eq_nil_of_length_eq_zero (by rw[hlen,h3];rfl)
 ·intro x x' k1 k2 y b m b' m' h1 h2
  obtain⟨k1',h1'⟩:=hdom x k1 h1
  obtain⟨k2',h2'⟩:=hdom x' k2 h2
  exact h.st.injF x x' k1' k2' y b m b' m' h1' h2'
 ·intro x k1 b m y h1 h2
  intro hi
  obtain⟨k,hk,_,e2,_⟩:=hst.get h1
  obtain⟨a1,a2,a3,a4⟩:=h.st.outF x k b m y hk h2 hi
  exact⟨a1,a2,a3,fun hm=>a4 (e2▸hm)⟩
 ·intro x k1 h1 h2
  obtain⟨k1',h1'⟩:=hdom x k1 h1
  exact h.st.pin x k1' h1' h2
 ·obtain⟨g,hg,hz⟩:=hfr.get hg'
  obtain⟨v,hv,hr⟩:=h.fr t g hg
  exact⟨v,hv,hE hz hr⟩
theorem GL.freeze (s':St) (hst:FzSt s.st s'.st s'.st) (hfr:FzFr s.st s'.st s.fr s'.fr) (h:GL P N cx ops Q rest s') (hdf:s.df=s'.df:=by rfl):GL P N cx ops Q rest s:=fun μ a w hr=>h μ a w (hr.freeze hst hfr hdf)
theorem GW.freeze {c:Code}(s':St) (hst:FzSt s.st s'.st s'.st) (hfr:FzFr s.st s'.st s.fr s'.fr) (h:GW P N cx c Q s') (hdf:s.df=s'.df:=by rfl):GW P N cx c Q s:=fun μ a w hr=>h μ a w (hr.freeze hst hfr hdf)
end
end Go.AM
/-
 AM,part U:parts of slices and of texts.
-/
namespace Go.AM
section
variable {α:Type}[Enc α]
variable {P:Program}{N:Nat}{cx:Cx}{s:St}{W:List Nat}
variable {dst:Option Tmp}{ty:TypeId}{pos:String}{after:Array Edge}{guard:Option (Nat×Bool)}
theorem elem_of {t e:TypeId}(ht:P.underlying t=some (.slice e)):P.underlying t=some (.slice (P.elem t)):=by
 have:P.elem t=e:=by unfold Program.elem;rw[ht]
 rw[this];exact ht
def lpart (l:List α) (i j:Int):List α:=(l.drop i.toNat).take (j.toNat-i.toNat)
omit [Enc α] in
theorem lpart_length {l:List α}{i j:Int}(_:0≤i) (h1:i≤j) (h2:j≤(l.length:Int)):(lpart l i j).length=j.toNat-i.toNat:=by
 unfold lpart;rw[List.length_take,List.length_drop];omega
theorem RepI.part {O:Nat→Prop}{w:World}{l:List α}{v:Value}{i j:Int}(h:RepI O w (.sl l.length (encs l)) v) (h0:0≤i) (h1:i≤j) (h2:j≤(l.length:Int)):
  ∃(a:Option Addr) (len cap:Nat),v=.slice a len cap∧(len:Int)=l.length∧j≤cap∧(len:Int)≤cap∧∀m:Nat,(m:Int)=cap→RepI O w (.sl (lpart l i j).length (encs (lpart l i j))) (sliced a i.toNat j.toNat m (Enc.sz α)):=by
 have zero:l=[]→lpart l i j=[]:=fun e=>by subst e;simp[lpart]
 generalize hn:l.length=n at h
 generalize hc:encs l=cs at h
 cases h with
 | nil=>
  have hl:l=[]:=List.eq_nil_of_length_eq_zero hn
  refine⟨none,0,0,rfl,by omega,by omega,by omega,fun m hm=>?_⟩
  rw[zero hl]
  obtain rfl:m=0:=by omega
  obtain rfl:i=0:=by omega
  obtain rfl:j=0:=by omega
  exact .nil
 | emp a cap=>
  have hl:l=[]:=List.eq_nil_of_length_eq_zero hn
  refine⟨some a,0,cap,rfl,by omega,by omega,by omega,fun m hm=>?_⟩
  rw[zero hl]
  obtain rfl:i=0:=by omega
  obtain rfl:j=0:=by omega
  unfold sliced
  split
  ·exact .emp _ _
  ·exact .emp _ _
 | sl _ _ b off cap us hle hO hb hcell hr=>
  subst hn
  subst hc
  refine⟨_,_,cap,rfl,rfl,by omega,by omega,fun m hm=>?_⟩
  obtain rfl:m=cap:=by omega
  unfold sliced
  by_cases e:m=i.toNat
  ·have:(lpart l i j).length=0:=by rw[lpart_length h0 h1 h2];omega
   have e2:lpart l i j=[]:=List.eq_nil_of_length_eq_zero this
   rw[e2,if_pos e]
   have e3:j.toNat-i.toNat=0:=by omega
   rw[e3]
   exact .emp _ _
  ·rw[if_neg e,Option.map_some,Addr.add_off,lpart_length h0 h1 h2]
   have hsub:encs (lpart l i j)=((encs l).drop (i.toNat*Enc.sz α)).take ((j.toNat-i.toNat)*Enc.sz α):=by
    unfold lpart
    rw[←encs_take,←encs_drop]
   have hlen:(encs (lpart l i j)).length=(j.toNat-i.toNat)*Enc.sz α:=by rw[encs_length,lpart_length h0 h1 h2]
   have hbig:i.toNat*Enc.sz α+(j.toNat-i.toNat)*Enc.sz α≤l.length*Enc.sz α:=by
    rw[←Nat.add_mul];exact Nat.mul_le_mul_right _ (by omega)
   refine .sl _ _ b (off+i.toNat*Enc.sz α) (m-i.toNat) (fun q=>us (i.toNat*Enc.sz α+q)) (by omega) hO hb (fun q hq=>?_) (fun q g hg=>?_)
   ·rw[hlen] at hq
    have:=hcell (i.toNat*Enc.sz α+q) (by rw[encs_length];omega)
    rw[←this]
    congr 2
    omega
   ·have hq:=(List.getElem?_eq_some_iff.1 hg).1
    rw[hlen] at hq
    rw[hsub,List.getElem?_take,if_pos hq,List.getElem?_drop] at hg
    exact hr _ g hg
theorem run_part {t e:TypeId}(ht:P.underlying t=some (.slice e)) (hsz:∀w,(sizeOf e).run P w=.ok (Enc.sz α) w){k k':IntKind}{i j:Int}(a:Option Addr) (len cap:Nat) (h0:0≤i) (h1:i≤j) (h2:j≤cap) (w:World):
  (Instr.sliceAt t (.slice a len cap) (some (.int k i)) (some (.int k' j)) none).run P w=.ok (sliced a i.toNat j.toNat cap (Enc.sz α)) w:=by
 have he:=elem_of ht
 have e:P.elem t=e:=by unfold Program.elem;rw[ht]
 rw[run_sliceAt_slice w t _ _ _ _ he,run_slice_lh w t a len cap he k k' i j h0 h1 h2,e,hsz w]
 rfl
theorem run_part_l {t e:TypeId}(ht:P.underlying t=some (.slice e)) (hsz:∀w,(sizeOf e).run P w=.ok (Enc.sz α) w){k:IntKind}{i:Int}(a:Option Addr) (len cap:Nat) (h0:0≤i) (h1:i≤len) (w:World):
  (Instr.sliceAt t (.slice a len cap) (some (.int k i)) none none).run P w=.ok (sliced a i.toNat len cap (Enc.sz α)) w:=by
 have he:=elem_of ht
 have e:P.elem t=e:=by unfold Program.elem;rw[ht]
 rw[run_sliceAt_slice w t _ _ _ _ he,run_slice_l w t a len cap he k i h0 h1,e,hsz w]
 rfl
theorem run_part_h {t e:TypeId}(ht:P.underlying t=some (.slice e)) (hsz:∀w,(sizeOf e).run P w=.ok (Enc.sz α) w){k:IntKind}{j:Int}(a:Option Addr) (len cap:Nat) (h0:0≤j) (h1:j≤cap) (w:World):
  (Instr.sliceAt t (.slice a len cap) none (some (.int k j)) none).run P w=.ok (sliced a 0 j.toNat cap (Enc.sz α)) w:=by
 have he:=elem_of ht
 have e:P.elem t=e:=by unfold Program.elem;rw[ht]
 rw[run_sliceAt_slice w t _ _ _ _ he,run_slice_h w t a len cap he k j h0 h1,e,hsz w]
 rfl
def slG (f:Bool) (l:List α):G:=bif f then .fr (.sl l.length (encs l)) else .sl l.length (encs l)
theorem RepV.part {O:Nat→Prop}{base:Nat}{w:World}{μ:Mu}{f:Bool}{l:List α}{v:Value}{i j:Int}(h:RepV O base w μ (slG f l) v) (h0:0≤i) (h1:i≤j) (h2:j≤(l.length:Int)):
  ∃(a:Option Addr) (len cap:Nat),v=.slice a len cap∧(len:Int)=l.length∧j≤cap∧(len:Int)≤cap∧RepV O base w μ (slG f (lpart l i j)) (sliced a i.toNat j.toNat cap (Enc.sz α)):=by
 cases f with
 | false=>
  cases h with
  | imm h=>obtain⟨a,len,cap,e1,e2,e3,e4,e5⟩:=h.part h0 h1 h2;exact⟨a,len,cap,e1,e2,e3,e4,.imm (e5 cap rfl)⟩
 | true=>
  cases h with
  | imm h=>cases h
  | fr h=>obtain⟨a,len,cap,e1,e2,e3,e4,e5⟩:=h.part h0 h1 h2;exact⟨a,len,cap,e1,e2,e3,e4,.fr (e5 cap rfl)⟩
theorem PY.slice {t e:TypeId}{x lo hi:Operand}{f:Bool}{l:List α}{k k':IntKind}{i j:Int}(hx:ev s x=some (slG f l)) (hl:ev s lo=some (.val (.int k i))) (hh:ev s hi=some (.val (.int k' j))) (ht:P.underlying t=some (.slice e)) (hsz:∀w,(sizeOf e).run P w=.ok (Enc.sz α) w)
  (h0:0≤i) (h1:i≤j) (h2:j≤(l.length:Int)):PY P s ⟨dst,.slice t x (some lo) (some hi) none,ty,pos,after,guard⟩ (slG f (lpart l i j)):=fun N cx μ a w hr=>by
 obtain⟨ad,len,cap,e1,e2,e3,e4,e5⟩:=(hr.ev hx).part h0 h1 h2
 refine⟨_,e5,fun w'=>?_⟩
 simp[execOp,e1,hr.val hl,hr.val hh,run_part ht hsz ad len cap h0 h1 e3]
theorem PY.sliceL {t e:TypeId}{x lo:Operand}{f:Bool}{l:List α}{k:IntKind}{i:Int}(hx:ev s x=some (slG f l)) (hl:ev s lo=some (.val (.int k i))) (ht:P.underlying t=some (.slice e)) (hsz:∀w,(sizeOf e).run P w=.ok (Enc.sz α) w)
  (h0:0≤i) (h1:i≤(l.length:Int)):PY P s ⟨dst,.slice t x (some lo) none none,ty,pos,after,guard⟩ (slG f (lpart l i (l.length:Int))):=fun N cx μ a w hr=>by
 obtain⟨ad,len,cap,e1,e2,e3,e4,e5⟩:=(hr.ev hx).part h0 h1 (Int.le_refl _)
 have e6:len=((l.length:Int)).toNat:=by omega
 refine⟨_,e5,fun w'=>?_⟩
 have:=run_part_l (α:=α) (P:=P) ht hsz (k:=k) ad len cap h0 (by omega) w'
 rw[←e6]
 simp[execOp,e1,hr.val hl,this]
theorem PY.sliceH {t e:TypeId}{x hi:Operand}{f:Bool}{l:List α}{k:IntKind}{j:Int}(hx:ev s x=some (slG f l)) (hh:ev s hi=some (.val (.int k j))) (ht:P.underlying t=some (.slice e)) (hsz:∀w,(sizeOf e).run P w=.ok (Enc.sz α) w)
  (h0:0≤j) (h2:j≤(l.length:Int)):PY P s ⟨dst,.slice t x none (some hi) none,ty,pos,after,guard⟩ (slG f (lpart l 0 j)):=fun N cx μ a w hr=>by
 obtain⟨ad,len,cap,e1,e2,e3,e4,e5⟩:=(hr.ev hx).part (Int.le_refl 0) h0 h2
 refine⟨_,e5,fun w'=>?_⟩
 have:=run_part_h (α:=α) (P:=P) ht hsz (k:=k) ad len cap h0 e3 w'
 simp[execOp,e1,hr.val hh,this]
theorem PY.sliceS {t : TypeId} {x lo hi : Operand} {b : ByteArray} {k k' : IntKind} {i j : Int} (hx : ev s x = some (.val (.string b))) (hl : ev s lo = some (.val (.int k i))) (hh : ev s hi = some (.val (.int k' j))) (ht : P.underlying t = some .string)
  (h0 : 0 ≤ i) (h1 : i ≤ j) (h2 : j ≤ (b.size : Int)) : PY P s ⟨dst, .slice t x (some lo) (some hi) none, ty, pos, after, guard⟩ (.val (.string (b.extract i.toNat j.toNat))) := fun N cx μ a w hr => by
 refine ⟨_, .imm (.val _), fun w' => ?_⟩
 have eh : (j.toNat : Int) = j := Int.toNat_of_nonneg (by omega)
 have : (Instr.slice t (.string b) (some (.int k i)) (some (.int k' j)) none).run P w' = .ok (.string (b.extract i.toNat j.toNat)) w' := by
  simp [Instr.slice, run_underlying ht, Instr.sliceBounds, run_sliceBound, *, eh, (by omega : 0 ≤ i), (by omega : 0 ≤ j)]
 simp [execOp, hr.val hx, hr.val hl, hr.val hh, run_sliceAt_string w' t _ _ _ _ ht, this]
theorem PY.sliceSL {t:TypeId}{x lo:Operand}{b:ByteArray}{k:IntKind}{i:Int}(hx:ev s x=some (.val (.string b))) (hl:ev s lo=some (.val (.int k i))) (ht:P.underlying t=some .string)
  (h0:0≤i) (h1:i≤(b.size:Int)):PY P s ⟨dst,.slice t x (some lo) none none,ty,pos,after,guard⟩ (.val (.string (b.extract i.toNat b.size))):=fun N cx μ a w hr=>by
 refine⟨_,.imm (.val _),fun w'=>?_⟩
 simp[execOp,hr.val hx,hr.val hl,run_sliceAt_string w' t _ _ _ _ ht,run_slice_string_l w' t b ht k i h0 h1]
theorem PY.sliceSH {t:TypeId}{x hi:Operand}{b:ByteArray}{k:IntKind}{j:Int}(hx:ev s x=some (.val (.string b))) (hh:ev s hi=some (.val (.int k j))) (ht:P.underlying t=some .string)
  (h0:0≤j) (h2:j≤(b.size:Int)):PY P s ⟨dst,.slice t x none (some hi) none,ty,pos,after,guard⟩ (.val (.string (b.extract 0 j.toNat))):=fun N cx μ a w hr=>by
 refine⟨_,.imm (.val _),fun w'=>?_⟩
 simp[execOp,hr.val hx,hr.val hh,run_sliceAt_string w' t _ _ _ _ ht,run_slice_string_h w' t b ht k j h0 h2]
end
end Go.AM
/-
 AM,part V:results that lean on what was handed in;calls that hand in nothing of the call's own.
-/
namespace Go.AM
def stripG:G→G
 | .fr g=>g
 | .agg gs=>.agg (go gs)
 | .tup gs=>.tup (go gs)
 | .clo f gs=>.clo f (go gs)
 | g=>g
where go:List G→List G
 | []=>[]
 | g::r=>stripG g::go r
theorem stripG_go {gs:List G}:(stripG.go gs).length=gs.length∧∀(j:Nat) (g':G),(stripG.go gs)[j]?=some g'→∃g,gs[j]?=some g∧g'=stripG g:=by
 induction gs with
 | nil=>exact⟨rfl,fun j g h=>by simp[stripG.go] at h⟩
 | cons x r ih=>
  refine⟨by simp[stripG.go,ih.1],fun j g' h=>?_⟩
  simp only[stripG.go] at h
  cases j with
  | zero=>cases h;exact⟨x,rfl,rfl⟩
  | succ j=>exact ih.2 j g' h
theorem RepI.strip {O:Nat→Prop}{base:Nat}{w:World}{μ:Mu}{g:G}{v:Value}(h:RepI O w g v):RepV O base w μ (stripG g) v:=by
 induction h with
 | any v=>exact .imm (.any v)
 | val v=>exact .imm (.val v)
 | ifc b v h=>exact .imm (.ifc b v h)
 | nil=>exact .imm .nil
 | emp a c=>exact .imm (.emp a c)
 | sl n cells b off cap us h1 h2 h3 h4 h5 ih=>exact .imm (.sl n cells b off cap us h1 h2 h3 h4 h5)
 | ptr cells b off us h1 h2 h3 h4 ih=>exact .imm (.ptr cells b off us h1 h2 h3 h4)
 | agg cells us hl hr ih=>
  refine .agg _ us (by rw[stripG_go.1];exact hl) fun j g v hg hv=>?_
  obtain⟨g0,h1,rfl⟩:=stripG_go.2 j g hg
  exact ih j g0 v h1 hv
theorem RepV.strip {O:Nat→Prop}{base:Nat}{w:World}{μ:Mu}{g:G}{v:Value}(h:RepV O base w μ g v):RepV O base w μ (stripG g) v:=by
 induction h with
 | imm h=>exact h.strip
 | fr h=>exact .imm h.old
 | loc h off b m hm=>exact .loc h off b m hm
 | onil h sz hm=>exact .onil h sz hm
 | osl h sz off n b m cap hm hn hc=>exact .osl h sz off n b m cap hm hn hc
 | ozero h sz off0 b m hm hp=>exact .ozero h sz off0 b m hm hp
 | agg cells us hl hr ih=>
  refine .agg _ us (by rw[stripG_go.1];exact hl) fun j g v hg hv=>?_
  obtain⟨g0,h1,rfl⟩:=stripG_go.2 j g hg
  exact ih j g0 v h1 hv
 | tup cells us hl hr ih=>
  refine .tup _ us (by rw[stripG_go.1];exact hl) fun j g v hg hv=>?_
  obtain⟨g0,h1,rfl⟩:=stripG_go.2 j g hg
  exact ih j g0 v h1 hv
 | clo f caps us hl hr ih=>
  refine .clo f _ us (by rw[stripG_go.1];exact hl) fun j g v hg hv=>?_
  obtain⟨g0,h1,rfl⟩:=stripG_go.2 j g hg
  exact ih j g0 v h1 hv
 | yld h b m hm=>exact .yld h b m hm
 | kp h i off b m c n hm hk=>exact .kp h i off b m c n hm hk
 | knil h i sz x cap hi=>exact .knil h i sz x cap hi
 | ks h i sz n b m c k cap hm hk hn hc=>exact .ks h i sz n b m c k cap hm hk hn hc
 | mref h b m hm=>exact .mref h b m hm
theorem GM.strip {P:Program}{f:FuncId}{args:List G}{st:List (Nat×Blk)}{R:G}{T:List (Nat×Blk)→Prop}(h:GM P f args st (fun g st'=>stripG g=R∧T st')):GM P f args st (fun g st'=>g=R∧T st'):=by
 intro X μ w vs h1 h2 h3 h4
 refine(h.returned X μ w vs h1 h2 h3 h4).mono fun e w' ⟨v,r,st',μ',e1,⟨e2,e3⟩,h5,h6⟩=>?_
 exact .inl ⟨v,stripG r,st',μ',e1,⟨e2,e3⟩,h5,h6.strip⟩
def viewI:G→Option G
 | .val v=>some (viewV v)
 | .ifc b=>some (.ifc b)
 | .sl n cs=>some (.sl n cs)
 | .ptr cs=>some (.ptr cs)
 | .fr g=>some g
 | .agg gs=>(go gs).map .agg
 | .clo f caps=>(go caps).map (.clo f)
 | _=>none
where go:List G→Option (List G)
 | []=>some []
 | g::r=>match viewI g,go r with
  | some g',some r'=>some (g'::r')
  | _,_=>none
theorem viewI_go:∀{gs gs':List G},viewI.go gs=some gs'→gs'.length=gs.length∧∀(j:Nat) (g':G),gs'[j]?=some g'→∃g,gs[j]?=some g∧viewI g=some g'
 | [],_,h=>by cases h;exact⟨rfl,fun j g h=>by simp at h⟩
 | g::r,gs',h=>by
  simp only[viewI.go] at h
  cases h1:viewI g with
  | none=>rw[h1] at h;cases h
  | some g1=>
   rw[h1] at h
   cases h2:viewI.go r with
   | none=>rw[h2] at h;cases h
   | some r1=>
    rw[h2] at h
    cases h
    obtain⟨h3,h4⟩:=viewI_go h2
    refine⟨by simp[h3],fun j g' hg'=>?_⟩
    cases j with
    | zero=>cases hg';exact⟨g,rfl,h1⟩
    | succ j=>exact h4 j g' hg'
theorem viewI_imm {O:Nat→Prop}{base:Nat}{μ:Mu}{w:World}{g g':G}{v:Value}(h:RepI O w g v) (hf:viewI g=some g'):RepV O base w μ g' v:=by
 induction h generalizing g' with
 | any v=>cases hf
 | val v=>
  cases hf
  unfold viewV
  split
  ·exact .imm .nil
  ·exact .imm (.val _)
 | ifc b v h=>cases hf;exact .imm (.ifc b v h)
 | nil=>cases hf;exact .imm .nil
 | emp a c=>cases hf;exact .imm (.emp a c)
 | sl n cells b off cap us h1 h2 h3 h4 h5 ih=>cases hf;exact .imm (.sl n cells b off cap us h1 h2 h3 h4 h5)
 | ptr cells b off us h1 h2 h3 h4 ih=>cases hf;exact .imm (.ptr cells b off us h1 h2 h3 h4)
 | agg cells us hl hr ih=>
  simp only[viewI,Option.map_eq_some_iff] at hf
  obtain⟨gs',h1,rfl⟩:=hf
  obtain⟨h2,h3⟩:=viewI_go h1
  refine .agg gs' us (by omega) fun j g v hg hv=>?_
  obtain⟨g0,h4,h5⟩:=h3 j g hg
  exact ih j g0 v h4 hv h5
theorem viewI_spec {O:Nat→Prop}{base base':Nat}{μ μ':Mu}{w:World}{g g':G}{v:Value}(h:RepV O base w μ g v) (hf:viewI g=some g'):RepV O base' w μ' g' v:=by
 induction h generalizing g' with
 | imm h=>exact viewI_imm h hf
 | fr h=>cases hf;exact .imm h.old
 | agg cells us hl hr ih=>
  simp only[viewI,Option.map_eq_some_iff] at hf
  obtain⟨gs',h1,rfl⟩:=hf
  obtain⟨h2,h3⟩:=viewI_go h1
  refine .agg gs' us (by omega) fun j g v hg hv=>?_
  obtain⟨g0,h4,h5⟩:=h3 j g hg
  exact ih j g0 v h4 hv h5
 | clo f caps us hl hr ih=>
  simp only[viewI,Option.map_eq_some_iff] at hf
  obtain⟨gs',h1,rfl⟩:=hf
  obtain⟨h2,h3⟩:=viewI_go h1
  refine .clo f gs' us (by omega) fun j g v hg hv=>?_
  obtain⟨g0,h4,h5⟩:=h3 j g hg
  exact ih j g0 v h4 hv h5
 | _=>cases hf
def impG:G→Bool
 | .val _=>true
 | .ifc _=>true
 | .sl _ _=>true
 | .ptr _=>true
 | .fr _=>true
 | .agg gs=>go gs
 | .tup gs=>go gs
 | .clo _ gs=>go gs
 | _=>false
where go:List G→Bool
 | []=>true
 | g::r=>impG g&&go r
theorem impG_go {gs:List G}(h:impG.go gs=true):∀(j:Nat) (g:G),gs[j]?=some g→impG g=true:=by
 induction gs with
 | nil=>intro j g hg;simp at hg
 | cons x r ih=>
  simp only[impG.go,Bool.and_eq_true] at h
  intro j g hg
  cases j with
  | zero=>cases hg;exact h.1
  | succ j=>exact ih h.2 j g hg
theorem impG_spec {O O':Nat→Prop}{base base':Nat}{μ μ':Mu}{w:World}{g:G}{v:Value}(h:RepV O base w μ g v) (hi:impG g=true) (hO:∀b,O' b→O b) (hb:∀b,b<base'→b<base):RepV O' base' w μ' g v:=by
 induction h with
 | imm h=>exact .imm (h.mono (Kept.refl _ _) fun b _ hn ho=>hn (hO b ho))
 | fr h=>
  refine .fr (h.mono (Kept.refl _ _) ?_)
  rintro b _ hn (ho | ho)
  ·exact hn (.inl (hb b ho))
  ·exact hn (.inr (hO b ho))
 | agg cells us hl hr ih=>exact .agg cells us hl fun j g v hg hv=>ih j g v hg hv (impG_go hi j g hg)
 | tup cells us hl hr ih=>exact .tup cells us hl fun j g v hg hv=>ih j g v hg hv (impG_go hi j g hg)
 | clo f cells us hl hr ih=>exact .clo f cells us hl fun j g v hg hv=>ih j g v hg hv (impG_go hi j g hg)
 | _=>cases hi
section
variable {P:Program}{N:Nat}{cx:Cx}{s:St}
variable {ty:TypeId}{pos:String}{after:Array Edge}{guard:Option (Nat×Bool)}{W:List Nat}{d:Nat}
theorem call_coreA {f:FuncId}{vs:List Value}{gs gs':List G}{Q:G→List (Nat×Blk)→Prop}{μ:Mu}{a:Act}{w:World}(hr:Rel N cx μ s a w) (hv:mapO viewI gs=some gs')
  (hvs:vs.length=gs.length) (hrep:∀(j:Nat) (g:G) (v:Value),gs[j]?=some g→vs[j]?=some v→RepV (cx.O s.st μ) cx.base w μ g v)
  (hcon:GM P f gs' [] Q) (hres:∀r st',Q r st'→impG r=true∧st'=[]):
  Calls P f vs.toArray w fun e w'=>∃v r st',e=.returned v∧Q r st'∧Rel N cx μ s a w'∧RepV (cx.O s.st μ) cx.base w' μ r v∧Step W s.st μ s.st μ w w':=by
 obtain⟨h1,h2⟩:=mapO_get hv
 have hX:∀b,cx.O s.st μ b→b<w.heap.size:=fun b hb=>by
  rcases hb with hb | hb
  ·have:=hr.st.xlt b hb;have:=hr.st.hb;omega
  ·exact own_lt hr.st hb
 refine(hcon.returned (cx.O s.st μ) (fun _=>none) w vs hX (relSt_nil hX (hr.st.glw fun _ h=>(own_nil h).elim)) (by omega) fun j g v hg hv=>?_).mono ?_
 ·obtain⟨g0,h3,h4⟩:=h2 j g hg
  have:=viewI_spec (base':=w.heap.size) (μ':=fun _=>none) (hrep j g0 v h3 hv) h4
  exact this.mono (Kept.refl _ _) (fun b _ hn ho=>ho.elim hn own_nil) (Nat.le_refl _)
 ·rintro e w' ⟨v,r,st',μ',rfl,hq,hst,hrv⟩
  have hkeep:∀b,b<w.heap.size→w'.heap[b]?=w.heap[b]?:=fun b hb=>hst.keep b hb own_nil
  obtain⟨hf,hs⟩:=hres r st' hq
  subst hs
  refine⟨v,r,[],rfl,hq,hr.kept hst.hb hkeep hst.os hst.tape hst.output,?_,⟨hst.hb,fun b hb _=>hkeep b hb,fun h k c m b hw h1 h2 hi=>.inl ⟨h,k,c,m,hw,h1,h2,hi⟩⟩⟩
  exact impG_spec hrv hf (fun b hb=>.inl hb) (fun b hb=>Nat.lt_of_lt_of_le hb hr.st.hb)
theorem EF.callA {f:FuncId}{xs:Array Operand}{ts:Array TypeId}{gs gs':List G}{Q:G→List (Nat×Blk)→Prop}(hc:∀args w,(callFunc f args).run P w=.ok (.enter f args) w)
  (hx:evA s xs.toList=some gs) (hv:mapO viewI gs=some gs') (hcon:GM P f gs' [] Q) (hres:∀r st',Q r st'→impG r=true∧st'=[]):
  Effect P W s ⟨some d,.call ⟨.value (.func f),xs,ts⟩,ty,pos,after,guard⟩ (fun s'=>∃r st',Q r st'∧s'=s.put d r):=by
 refine⟨(fun _ h=>by cases h),?_⟩
 intro N cx μ a w hr hN K Q' hK
 obtain⟨h1,h2⟩:=evA_get hx
 have hcall:=call_coreA (vs:=xs.toList.map a.eval) (W:=W) hr hv (by simp[h1]) (fun j g v hg hv=>by
  obtain⟨x,hxj,he⟩:=h2 j g hg
  rw[List.getElem?_map,hxj] at hv
  cases hv
  exact hr.ev he) hcon hres
 unfold Oper.wp
 have:(execOp a.eval ⟨some d,.call ⟨.value (.func f),xs,ts⟩,ty,pos,after,guard⟩).run P w=.ok (.enter f (xs.toList.map a.eval).toArray) w:=by
  have e:xs.map a.eval=(xs.toList.map a.eval).toArray:=by rw[←Array.toList_map]
  simp[execOp,resolve,invoke,Deferred.ofValue,Act.eval,hc,e]
 rw[this]
 refine hcall.mono ?_
 rintro e w' ⟨v,r,st',rfl,hq,hr',hrv,hst⟩
 exact hK μ _ _ w' (hr'.put (hN d rfl) hrv) ⟨r,st',hq,rfl⟩ hst
end
end Go.AM
/-
 AM,part W:lists without references.
-/
namespace Go.AM
class Flat (α:Type) [Enc α]:Prop where
 flat:∀(a:α) (g:G),g∈Enc.cells a→∃v,g=.val v
instance:Flat Int:=⟨fun a g h=>by simp[Enc.cells] at h;exact⟨_,h⟩⟩
instance:Flat Bool:=⟨fun a g h=>by simp[Enc.cells] at h;exact⟨_,h⟩⟩
instance:Flat ByteArray:=⟨fun a g h=>by simp[Enc.cells] at h;exact⟨_,h⟩⟩
section
variable {α:Type}[Enc α] [Flat α]
variable {P:Program}{N:Nat}{cx:Cx}{Q:Exit→St→Prop}{s:St}{ops:Array Oper}{rest:List Oper}
theorem Rel.refresh {μ:Mu}{a:Act}{w:World}(h:Rel N cx μ s a w){hh:Nat}{k:Blk}{l:List α}(hk:sget s.st hh=some k) (hc:k.cells=encs l) (hp:k.pure=true) (hlp:k.lp=none):
  Rel N cx μ {fr:=s.fr,st:=sset s.st hh {k with fresh:=true},df:=s.df} a w:=by
 refine h.restate hk rfl rfl rfl (Nat.le_refl _) hlp hlp fun j g' hg'=>⟨g',hg',fun v hv=>?_⟩
 simp only at hg'
 rw[hc] at hg'
 obtain⟨x,_,hx⟩:=List.mem_flatMap.1 (List.mem_of_getElem? hg')
 obtain⟨u,rfl⟩:=Flat.flat x g' hx
 unfold RepC at hv⊢
 simp only[hp] at hv⊢
 cases hv
 exact .val _
theorem GL.refresh (hh:Nat){k:Blk}{l:List α}(hk:sget s.st hh=some k) (hc:k.cells=encs l) (hp:k.pure=true) (h:GL P N cx ops Q rest {fr:=s.fr,st:=sset s.st hh {k with fresh:=true},df:=s.df}) (hlp:k.lp=none:=by rfl):GL P N cx ops Q rest s:=
 fun μ a w hr=>h μ a w (hr.refresh hk hc hp hlp)
theorem GH2.refresh {W:List Nat}{fuel:Nat}{listed:Array Bool}(hh:Nat){k:Blk}{l:List α}(hk:sget s.st hh=some k) (hc:k.cells=encs l) (hp:k.pure=true)
  (h:GH2 P N cx ops Q W fuel listed {fr:=s.fr,st:=sset s.st hh {k with fresh:=true},df:=s.df}) (hlp:k.lp=none:=by rfl):GH2 P N cx ops Q W fuel listed s:=fun ws Wb μ a w hr hS hW=>
 h ws Wb μ a w (hr.refresh hk hc hp hlp) hS fun x k' c m b h1 h2 h3 h4=>by
  rcases sget_sset_iff hk h2 with ⟨rfl,rfl⟩ | ⟨_,h2⟩
  ·exact hW x k c m b h1 hk h3 h4
  ·exact hW x k' c m b h1 h2 h3 h4
end
section
variable {P:Program}{N:Nat}{cx:Cx}{Q:Exit→St→Prop}{s:St}{ops:Array Oper}{rest:List Oper}
end
section
variable {P:Program}{N:Nat}{cx:Cx}{Q:Exit→St→Prop}{s:St}{ops:Array Oper}
def Turn (P:Program) (N:Nat) (cx:Cx) (ops:Array Oper) (Q:Exit→St→Prop) (W:List Nat) (fuel:Nat) (listed:Array Bool) (s:St) (i:Nat):Prop:=
 ∀(ws:World) (Wb:Nat→Prop) (μ:Mu) (a:Act) (w:World),Rel N cx μ s a w→Sw ws Wb w→(∀h k c m b,h∈W→sget s.st h=some k→μ h=some (c,m)→In b c m→Wb b∨ws.heap.size≤b)→
  wpOp P ops (lift N cx Q) i (fun a' w'=>Sw ws Wb w'∧wpAnyH P .any ops (lift N cx Q) (Sw ws Wb) fuel (listed.setIfInBounds i true) a' w') a w
theorem Turn.y {W:List Nat}{fuel:Nat}{listed:Array Bool}(i:Nat){o:Oper}{d:Nat}{g:G}(hi:ops[i]?=some o) (hw:wants ops s o.guard=some true) (hd:o.dst=some d) (hN:d<N) (hy:Yield P [] s o g)
  (h:GH2 P N cx ops Q W fuel (listed.setIfInBounds i true) (s.put d g)):Turn P N cx ops Q W fuel listed s i:=by
 intro ws Wb μ a w hrel hS hW
 obtain⟨v,hv,hrun⟩:=hy N cx μ a w hrel
 have hrun:=hrun w (Nat.le_refl _) (fun _ _ _=>rfl)
 unfold wpOp
 simp only[hi]
 rw[if_pos (wants_spec hrel hw)]
 refine .inl ?_
 unfold Oper.wp
 rw[hrun]
 show Sw ws Wb w∧_
 refine⟨hS,?_⟩
 rw[hd]
 exact h ws Wb μ _ w (hrel.put hN hv) hS hW
theorem Turn.e {W:List Nat}{fuel:Nat}{listed:Array Bool}(i:Nat){o:Oper}{T:St→Prop}(hi:ops[i]?=some o) (hw:wants ops s o.guard=some true) (hN:∀d,o.dst=some d→d<N) (he:Effect P W s o T)
  (h:∀s',T s'→GH2 P N cx ops Q W fuel (listed.setIfInBounds i true) s'):Turn P N cx ops Q W fuel listed s i:=by
 intro ws Wb μ a w hrel hS hW
 unfold wpOp
 simp only[hi]
 rw[if_pos (wants_spec hrel hw)]
 have:=he.2 N cx μ a w hrel hN (fun a' w'=>Sw ws Wb w'∧wpAnyH P .any ops (lift N cx Q) (Sw ws Wb) fuel (listed.setIfInBounds i true) a' w') (lift N cx Q) ?_
 ·exact .inl this
 ·intro μ' s' a' w' hrel' ht hst
  have hS':Sw ws Wb w':=by
   refine⟨Nat.le_trans hS.size hst.size,fun b hb hn=>?_⟩
   rw[hst.block b (Nat.lt_of_lt_of_le hb hS.size) ?_]
   ·exact hS.block b hb hn
   ·intro h k c m h1 h2 h3 hi
    rcases hW h k c m b h1 h2 h3 hi with h4 | h4
    ·exact hn h4
    ·omega
  refine⟨hS',h s' ht ws Wb μ' a' w' hrel' hS' ?_⟩
  intro h k' c m b h1 h2 h3 hi
  rcases hst.hand h k' c m b h1 h2 h3 hi with ⟨h0,k,c0,m0,hw0,h4,h5,h6⟩ | h4
  ·exact hW h0 k c0 m0 b hw0 h4 h5 h6
  ·exact .inr (Nat.le_trans hS.size h4)
theorem Turn.eP {W:List Nat}{fuel:Nat}{listed:Array Bool}(i:Nat){o:Oper}{T:St→Prop}{Tp:List PanicEntry→St→Prop}(hi:ops[i]?=some o) (hw:wants ops s o.guard=some true) (hN:∀d,o.dst=some d→d<N) (he:EffectP P W s o T Tp)
  (h:∀s',T s'→GH2 P N cx ops Q W fuel (listed.setIfInBounds i true) s') (hp:∀ch s',Tp ch s'→Q (.panic ch) s'):Turn P N cx ops Q W fuel listed s i:=by
 intro ws Wb μ a w hrel hS hW
 unfold wpOp
 simp only[hi]
 rw[if_pos (wants_spec hrel hw)]
 have:=he.2 N cx μ a w hrel hN (fun a' w'=>Sw ws Wb w'∧wpAnyH P .any ops (lift N cx Q) (Sw ws Wb) fuel (listed.setIfInBounds i true) a' w') (lift N cx Q) ?_ (fun ch μ' s' w' hr' ht=>⟨μ',s',hr',hp ch s' ht⟩)
 ·exact .inl this
 ·intro μ' s' a' w' hrel' ht hst
  have hS':Sw ws Wb w':=by
   refine⟨Nat.le_trans hS.size hst.size,fun b hb hn=>?_⟩
   rw[hst.block b (Nat.lt_of_lt_of_le hb hS.size) ?_]
   ·exact hS.block b hb hn
   ·intro h k c m h1 h2 h3 hi
    rcases hW h k c m b h1 h2 h3 hi with h4 | h4
    ·exact hn h4
    ·omega
  refine⟨hS',h s' ht ws Wb μ' a' w' hrel' hS' ?_⟩
  intro h k' c m b h1 h2 h3 hi
  rcases hst.hand h k' c m b h1 h2 h3 hi with ⟨h0,k,c0,m0,hw0,h4,h5,h6⟩ | h4
  ·exact hW h0 k c0 m0 b hw0 h4 h5 h6
  ·exact .inr (Nat.le_trans hS.size h4)
def Turns (P:Program) (N:Nat) (cx:Cx) (ops:Array Oper) (Q:Exit→St→Prop) (W:List Nat) (fuel:Nat) (listed:Array Bool) (s:St):List Nat→Prop
 | []=>True
 | i::r=>Turn P N cx ops Q W fuel listed s i∧Turns P N cx ops Q W fuel listed s r
theorem Turns.get {W:List Nat}{fuel:Nat}{listed:Array Bool}:∀{rs:List Nat},Turns P N cx ops Q W fuel listed s rs→∀i∈rs,Turn P N cx ops Q W fuel listed s i
 | [],_,_,h=>by cases h
 | j::r,⟨h1,h2⟩,i,h=>by
  rcases List.mem_cons.1 h with rfl | h
  ·exact h1
  ·exact Turns.get h2 i h
theorem GH2.any {W:List Nat}{fuel:Nat}{listed:Array Bool}(i:Nat) (r:List Nat) (hr:Region.ready .any ops listed=i::r) (h:Turns P N cx ops Q W fuel listed s (i::r)):GH2 P N cx ops Q W (fuel+1) listed s:=by
 intro ws Wb μ a w hrel hS hW
 refine wpAnyH_all hr (by simp) fun j hj=>h.get j hj ws Wb μ a w hrel hS hW
end
end Go.AM
/-
 AM,part X:calls to which blocks of the caller's own are lent:how handles are told anew,there and back.
-/
namespace Go.AM
def idxH:List Nat→Nat→Option Nat
 | [],_=>none
 | x::r,h=>bif Nat.beq x h then some 0 else(idxH r h).map (·+1)
theorem idxH_some:∀{H:List Nat}{h i:Nat},idxH H h=some i→H[i]?=some h
 | [],_,_,e=>by cases e
 | x::r,h,i,e=>by
  simp only[idxH] at e
  cases hb:Nat.beq x h with
  | true=>rw[hb] at e;cases e;have:=Nat.eq_of_beq_eq_true hb;subst this;rfl
  | false=>
   rw[hb] at e
   obtain⟨n,h1,h2⟩:=Option.map_eq_some_iff.1 e
   subst h2
   exact idxH_some (H:=r) h1
theorem idxH_none:∀{H:List Nat}{h:Nat},idxH H h=none→h∉H
 | [],_,_=>fun h=>by cases h
 | x::r,h,e=>by
  simp only[idxH] at e
  cases hb:Nat.beq x h with
  | true=>rw[hb] at e;cases e
  | false=>
   rw[hb] at e
   intro hm
   rcases List.mem_cons.1 hm with rfl | hm
   ·rw[Nat.beq_refl] at hb;cases hb
   ·exact idxH_none (Option.map_eq_none_iff.1 e) hm
def lendG (H:List Nat) (stv:List (Nat×Blk)):G→Option G
 | .loc h off=>match idxH H h with
  | some i=>some (.loc (1000+i) off)
  | none=>view 4 stv (.loc h off)
 | .osl h sz off m=>match idxH H h with
  | some i=>some (.osl (1000+i) sz off m)
  | none=>view 4 stv (.osl h sz off m)
 | .yld h=>match idxH H h with
  | some i=>some (.yld (1000+i))
  | none=>none
 | .mref h=>match idxH H h with
  | some i=>some (.mref (1000+i))
  | none=>none
 | .kp h j off=>match idxH H h with
  | some i=>some (.kp (1000+i) j off)
  | none=>none
 | .ks h j sz n=>match idxH H h with
  | some i=>some (.ks (1000+i) j sz n)
  | none=>none
 | .agg gs=>(go gs).map .agg
 | .clo f gs=>(go gs).map (.clo f)
 | .val v=>some (viewV v)
 | .ifc b=>some (.ifc b)
 | .sl n cs=>some (.sl n cs)
 | .ptr cs=>some (.ptr cs)
 | .fr g=>some g
 | _=>none
where go:List G→Option (List G)
 | []=>some []
 | g::r=>match lendG H stv g,go r with
  | some g',some r'=>some (g'::r')
  | _,_=>none
theorem lendG_go {H:List Nat}{stv:List (Nat×Blk)}:∀{gs gs':List G},lendG.go H stv gs=some gs'→gs'.length=gs.length∧∀(j:Nat) (g':G),gs'[j]?=some g'→∃g,gs[j]?=some g∧lendG H stv g=some g'
 | [],_,h=>by cases h;exact⟨rfl,fun j g h=>by simp at h⟩
 | g::r,gs',h=>by
  simp only[lendG.go] at h
  cases h1:lendG H stv g with
  | none=>rw[h1] at h;cases h
  | some g1=>
   rw[h1] at h
   cases h2:lendG.go H stv r with
   | none=>rw[h2] at h;cases h
   | some r1=>
    rw[h2] at h
    cases h
    obtain⟨h3,h4⟩:=lendG_go h2
    refine⟨by simp[h3],fun j g' hg'=>?_⟩
    cases j with
    | zero=>cases hg';exact⟨g,rfl,h1⟩
    | succ j=>exact h4 j g' hg'
def lendB (H:List Nat) (stv:List (Nat×Blk)) (k:Blk):Option Blk:=
 bif k.pure then some {k with mine:=false,fresh:=false} else match lendG.go H stv k.cells with
  | some cs=>some {k with mine:=false,fresh:=false,cells:=cs}
  | none=>none
theorem lendB_mine {H:List Nat}{stv:List (Nat×Blk)}{k k':Blk}(h:lendB H stv k=some k'):k'.mine=false:=by
 unfold lendB at h
 cases hp:k.pure with
 | true=>rw[hp] at h;cases h;rfl
 | false=>
  rw[hp,cond_false] at h
  split at h
  ·cases h;rfl
  ·cases h
def lendSt (H:List Nat) (stv st:List (Nat×Blk)):List Nat→Nat→Option (List (Nat×Blk))
 | [],_=>some []
 | h::r,i=>match sget st h with
  | some k=>match lendB H stv k,lendSt H stv st r (i+1) with
   | some k',some r'=>some ((1000+i,k')::r')
   | _,_=>none
  | none=>none
theorem lendSt_get {H:List Nat}{stv st:List (Nat×Blk)}:∀{r:List Nat}{i:Nat}{stC:List (Nat×Blk)},lendSt H stv st r i=some stC→∀{j:Nat}{k':Blk},sget stC j=some k'→
  ∃n h k,j=1000+(i+n)∧r[n]?=some h∧sget st h=some k∧lendB H stv k=some k'
 | [],_,_,e,_,_,h=>by cases e;cases h
 | x::r,i,stC,e,j,k',h=>by
  simp only[lendSt] at e
  cases hk:sget st x with
  | none=>rw[hk] at e;cases e
  | some k=>
   rw[hk] at e
   dsimp only at e
   cases h1:lendB H stv k with
   | none=>rw[h1] at e;cases e
   | some k1=>
    rw[h1] at e
    cases h2:lendSt H stv st r (i+1) with
    | none=>rw[h2] at e;cases e
    | some r'=>
     rw[h2] at e
     cases e
     simp only[sget] at h
     cases hb:Nat.beq (1000+i) j with
     | true=>
      rw[hb] at h
      cases h
      exact⟨0,x,k,(Nat.eq_of_beq_eq_true hb).symm,rfl,hk,h1⟩
     | false=>
      rw[hb] at h
      obtain⟨n,y,k2,e1,e2,e3,e4⟩:=lendSt_get h2 h
      exact⟨n+1,y,k2,by omega,e2,e3,e4⟩
theorem lendSt_dom {H:List Nat}{stv st:List (Nat×Blk)}:∀{r:List Nat}{i:Nat}{stC:List (Nat×Blk)},lendSt H stv st r i=some stC→∀{n h:Nat},r[n]?=some h→(∃k',sget stC (1000+(i+n))=some k')∧∃k,sget st h=some k
 | [],_,_,_,_,_,h=>by cases h
 | x::r,i,stC,e,n,y,h=>by
  simp only[lendSt] at e
  cases hk:sget st x with
  | none=>rw[hk] at e;cases e
  | some k=>
   rw[hk] at e
   dsimp only at e
   cases h1:lendB H stv k with
   | none=>rw[h1] at e;cases e
   | some k1=>
    rw[h1] at e
    cases h2:lendSt H stv st r (i+1) with
    | none=>rw[h2] at e;cases e
    | some r'=>
     rw[h2] at e
     cases e
     cases n with
     | zero=>cases h;exact⟨⟨k1,by rw[Nat.add_zero,sget_cons_same]⟩,k,hk⟩
     | succ n=>
      obtain⟨⟨k',h3⟩,h4⟩:=lendSt_dom h2 (n:=n) (h:=y) h
      refine⟨⟨k',?_⟩,h4⟩
      rw[sget_cons_other _ _ (by omega),show 1000+(i+(n+1))=1000+(i+1+n) by omega]
      exact h3
def muC (H:List Nat) (μ:Mu):Mu:=fun j=>bif pinned j then(H[j-1000]?).bind μ else none
theorem pinned_add (i:Nat):pinned (1000+i)=true:=Nat.ble_eq_true_of_le (by omega)
theorem muC_at {H:List Nat}{μ:Mu}{i h:Nat}(e:H[i]?=some h):muC H μ (1000+i)=μ h:=by
 unfold muC
 rw[pinned_add,cond_true,show 1000+i-1000=i by omega,e]
 rfl
def outSt (H:List Nat):List (Nat×Blk)→List (Nat×Blk)
 | []=>[]
 | (h,k)::r=>match idxH H h with
  | some _=>outSt H r
  | none=>(h,k)::outSt H r
theorem outSt_get {H:List Nat}{h:Nat}{k:Blk}:∀{st:List (Nat×Blk)},sget (outSt H st) h=some k→idxH H h=none∧sget st h=some k
 | [],e=>by cases e
 | (x,k')::r,e=>by
  simp only[outSt] at e
  cases hx:idxH H x with
  | some i=>
   rw[hx] at e
   obtain⟨h1,h2⟩:=outSt_get e
   refine⟨h1,?_⟩
   rw[sget_cons_other _ _ fun e=>by subst e;rw[hx] at h1;cases h1]
   exact h2
  | none=>
   rw[hx] at e
   simp only[sget] at e⊢
   cases hb:Nat.beq x h with
   | true=>
    rw[hb] at e
    have:=Nat.eq_of_beq_eq_true hb
    subst this
    exact⟨hx,e⟩
   | false=>rw[hb] at e;exact outSt_get e
theorem outSt_of {H:List Nat}{h:Nat}{k:Blk}(hi:idxH H h=none):∀{st:List (Nat×Blk)},sget st h=some k→sget (outSt H st) h=some k
 | [],e=>by cases e
 | (x,k')::r,e=>by
  simp only[outSt]
  simp only[sget] at e
  cases hb:Nat.beq x h with
  | true=>
   rw[hb] at e
   have:=Nat.eq_of_beq_eq_true hb
   subst this
   rw[hi]
   simp only[sget,Nat.beq_refl]
   exact e
  | false=>
   rw[hb] at e
   have:=outSt_of hi (st:=r) e
   split
   ·exact this
   ·simp only[sget,hb];exact this
def lendX (cx:Cx) (st:List (Nat×Blk)) (μ:Mu) (H:List Nat) (vw:Bool):Nat→Prop:=fun b=>cx.X b∨(vw=false∧Own (outSt H st) μ b)
def lendV (st:List (Nat×Blk)) (H:List Nat) (vw:Bool):List (Nat×Blk):=bif vw then outSt H st else[]
section
variable {P:Program}{N:Nat}{cx:Cx}{s:St}
theorem own_lent {st stC stv:List (Nat×Blk)}{H:List Nat}{μ:Mu}(hls:lendSt H stv st H 0=some stC){b:Nat}(ho:Own stC (muC H μ) b):∃(i h:Nat) (k:Blk) (c:Nat) (m:Mm),H[i]?=some h∧sget st h=some k∧μ h=some (c,m)∧In b c m:=by
 obtain⟨j,k',c,m,h1,h2,hi⟩:=ho
 obtain⟨n,h,k,rfl,e2,e3,_⟩:=lendSt_get hls h1
 rw[Nat.zero_add,muC_at e2] at h2
 exact⟨n,h,k,c,m,e2,e3,h2,hi⟩
theorem own_out {st:List (Nat×Blk)}{H:List Nat}{μ:Mu}{b:Nat}(ho:Own (outSt H st) μ b):∃h k c m,idxH H h=none∧sget st h=some k∧μ h=some (c,m)∧In b c m:=by
 obtain⟨h,k,c,m,h1,h2,hi⟩:=ho
 obtain⟨h3,h4⟩:=outSt_get h1
 exact⟨h,k,c,m,h3,h4,h2,hi⟩
theorem mem_of_idx {H:List Nat}{i h:Nat}(e:H[i]?=some h):h∈H:=List.mem_of_getElem? e
theorem not_both {st:List (Nat×Blk)}{H:List Nat}{μ:Mu}{w:World}(hst:RelSt cx μ st w){i h h' b c c':Nat}{m m':Mm}{k k':Blk}(e:H[i]?=some h) (hk:sget st h=some k) (hm:μ h=some (c,m)) (hi:In b c m) (e':idxH H h'=none) (hk':sget st h'=some k') (hm':μ h'=some (c',m')) (hi':In b c' m'):False:=by
 have:=hst.injF h h' k k' b c m c' m' hk hk' hm hm' hi hi'
 subst this
 exact idxH_none e' (mem_of_idx e)
theorem lendO {st stC stv:List (Nat×Blk)}{H:List Nat}{μ:Mu}(vw:Bool) (hls:lendSt H stv st H 0=some stC) (w:World) (b:Nat) (ho:(cx0 (lendX cx st μ H vw) stC (muC H μ) w).O stC (muC H μ) b):cx.O st μ b:=by
 rcases ho with (ho | ⟨_,ho⟩) | ho
 ·exact .inl ho
 ·obtain⟨h,k,c,m,_,h2,h3,hi⟩:=own_out ho;exact .inr ⟨h,k,c,m,h2,h3,hi⟩
 ·obtain⟨i,h,k,c,m,_,h2,h3,hi⟩:=own_lent hls ho;exact .inr ⟨h,k,c,m,h2,h3,hi⟩
theorem lendG_spec {st stC:List (Nat×Blk)}{H:List Nat}{vw:Bool}{μ:Mu}{w:World}(hst:RelSt cx μ st w) (hls:lendSt H (lendV st H vw) st H 0=some stC){g g':G}{v:Value}(hv:RepV (cx.O st μ) cx.base w μ g v)
  (hg:lendG H (lendV st H vw) g=some g'):RepV ((cx0 (lendX cx st μ H vw) stC (muC H μ) w).O stC (muC H μ)) w.heap.size w (muC H μ) g' v:=by
 have hO:=lendO (cx:=cx) (μ:=μ) vw hls w
 generalize hOd:(cx0 (lendX cx st μ H vw) stC (muC H μ) w).O stC (muC H μ)=O' at hO
 have hstv:∀h k,sget (lendV st H vw) h=some k→vw=true∧idxH H h=none∧sget st h=some k:=by
  intro h k hk
  unfold lendV at hk
  cases vw with
  | true=>exact⟨rfl,outSt_get hk⟩
  | false=>cases hk
 have look:∀{g g':G}{v:Value},RepV (cx.O st μ) cx.base w μ g v→view 4 (lendV st H vw) g=some g'→RepI O' w g' v:=by
  intro g g' v hv hg
  refine view_gen (fun h k hk=>hst.blk h k (hstv h k hk).2.2) (fun h k b m x hk hm hi' ho=>?_) hO 4 hv hg
  obtain⟨e0,e1,e2⟩:=hstv h k hk
  rw[←hOd] at ho
  rcases ho with (ho | ⟨ho,_⟩) | ho
  ·exact(hst.outF h k b m x e2 hm hi').1 ho
  ·rw[e0] at ho;cases ho
  ·obtain⟨i,h',k',c',m',h1,h2,h3,hi⟩:=own_lent hls ho
   exact not_both hst h1 h2 h3 hi e1 e2 hm hi'
 have imm:∀{g:G}{v:Value},RepI (cx.O st μ) w g v→∀{g'},lendG H (lendV st H vw) g=some g'→RepV O' w.heap.size w (muC H μ) g' v:=by
  intro g v h
  induction h with
  | any v=>intro g' hg;cases hg
  | val v=>intro g' hg;cases hg;exact .imm (viewV_rep v)
  | ifc b v h=>intro g' hg;cases hg;exact .imm (.ifc b v h)
  | nil=>intro g' hg;cases hg;exact .imm .nil
  | emp a c=>intro g' hg;cases hg;exact .imm (.emp a c)
  | sl n cells b off cap us h1 h2 h3 h4 h5 ih=>intro g' hg;cases hg;exact .imm ((RepI.sl n cells b off cap us h1 h2 h3 h4 h5).mono (Kept.refl _ _) fun b _ hn ho=>hn (hO b ho))
  | ptr cells b off us h1 h2 h3 h4 ih=>intro g' hg;cases hg;exact .imm ((RepI.ptr cells b off us h1 h2 h3 h4).mono (Kept.refl _ _) fun b _ hn ho=>hn (hO b ho))
  | agg cells us hl hr ih=>
   intro g' hg
   simp only[lendG,Option.map_eq_some_iff] at hg
   obtain⟨gs',h1,rfl⟩:=hg
   obtain⟨h2,h3⟩:=lendG_go h1
   refine .agg gs' us (by omega) fun j g v hg hv=>?_
   obtain⟨g0,h4,h5⟩:=h3 j g hg
   exact ih j g0 v h4 hv h5
 induction hv generalizing g' with
 | imm h=>exact imm h hg
 | fr h=>cases hg;exact .imm (h.old.mono (Kept.refl _ _) fun b _ hn ho=>hn (hO b ho))
 | loc h off b m hm=>
  simp only[lendG] at hg
  cases hi:idxH H h with
  | some i=>rw[hi] at hg;cases hg;exact .loc _ _ b m (by rw[muC_at (idxH_some hi)];exact hm)
  | none=>rw[hi] at hg;exact .imm (look (.loc h off b m hm) hg)
 | onil h sz hm=>
  simp only[lendG] at hg
  cases hi:idxH H h with
  | some i=>rw[hi] at hg;cases hg;exact .onil _ _ (by rw[muC_at (idxH_some hi)];exact hm)
  | none=>rw[hi] at hg;exact .imm (look (.onil h sz hm) hg)
 | osl h sz off n b m cap hm hn hc=>
  simp only[lendG] at hg
  cases hi:idxH H h with
  | some i=>rw[hi] at hg;cases hg;exact .osl _ _ _ _ b m cap (by rw[muC_at (idxH_some hi)];exact hm) hn hc
  | none=>rw[hi] at hg;exact .imm (look (.osl h sz off n b m cap hm hn hc) hg)
 | ozero h sz off0 b m hm hpos=>
  simp only[lendG] at hg
  cases hi:idxH H h with
  | some i=>rw[hi] at hg;cases hg;exact .ozero _ _ off0 b m (by rw[muC_at (idxH_some hi)];exact hm) hpos
  | none=>rw[hi] at hg;exact .imm (look (.ozero h sz off0 b m hm hpos) hg)
 | agg cells us hl hr ih=>
  simp only[lendG,Option.map_eq_some_iff] at hg
  obtain⟨gs',h1,rfl⟩:=hg
  obtain⟨h2,h3⟩:=lendG_go h1
  refine .agg gs' us (by omega) fun j g v hg hv=>?_
  obtain⟨g0,h4,h5⟩:=h3 j g hg
  exact ih j g0 v h4 hv h5
 | tup cells us hl hr ih=>cases hg
 | clo f caps us hl hr ih=>
  simp only[lendG,Option.map_eq_some_iff] at hg
  obtain⟨gs',h1,rfl⟩:=hg
  obtain⟨h2,h3⟩:=lendG_go h1
  refine .clo f gs' us (by omega) fun j g v hg hv=>?_
  obtain⟨g0,h4,h5⟩:=h3 j g hg
  exact ih j g0 v h4 hv h5
 | yld h b m hm=>
  simp only[lendG] at hg
  cases hi:idxH H h with
  | some i=>rw[hi] at hg;cases hg;exact .yld _ b m (by rw[muC_at (idxH_some hi)];exact hm)
  | none=>rw[hi] at hg;cases hg
 | mref h b m hm=>
  simp only[lendG] at hg
  cases hi:idxH H h with
  | some i=>rw[hi] at hg;cases hg;exact .mref _ b m (by rw[muC_at (idxH_some hi)];exact hm)
  | none=>rw[hi] at hg;cases hg
 | kp h j off b m c n hm hk=>
  simp only[lendG] at hg
  cases hi:idxH H h with
  | some i=>rw[hi] at hg;cases hg;exact .kp _ j off b m c n (by rw[muC_at (idxH_some hi)];exact hm) hk
  | none=>rw[hi] at hg;cases hg
 | knil h j sz x cap hb=>
  simp only[lendG] at hg
  cases hi:idxH H h with
  | some i=>rw[hi] at hg;cases hg;exact .knil _ j sz x cap hb
  | none=>rw[hi] at hg;cases hg
 | ks h j sz n b m c k cap hm hk hn hc=>
  simp only[lendG] at hg
  cases hi:idxH H h with
  | some i=>rw[hi] at hg;cases hg;exact .ks _ j sz n b m c k cap (by rw[muC_at (idxH_some hi)];exact hm) hk hn hc
  | none=>rw[hi] at hg;cases hg
theorem lend_rel {st stC:List (Nat×Blk)}{H:List Nat}{vw:Bool}{μ:Mu}{w:World}(hst:RelSt cx μ st w) (hls:lendSt H (lendV st H vw) st H 0=some stC) (hnd:H.Nodup):
  RelSt (cx0 (lendX cx st μ H vw) stC (muC H μ) w) (muC H μ) stC w:=by
 have hO:=lendO (cx:=cx) (μ:=μ) vw hls w
 refine {blk:=?_,injF:=?_,outF:=?_,pin:=fun _ _ _ _=>.inl rfl,xlt:=?_,hb:=Nat.le_refl _,os:=rfl,tape:=rfl,output:=rfl,gl:=hst.glw fun b hb=>(by
  obtain⟨i,h,k,c,m',q1,q2,q3,q4⟩:=own_lent hls hb
  obtain⟨_,z2,_⟩:=hst.outF h k c m' b q2 q3 q4
  exact z2),keep:=fun _ _ _=>rfl}
 ·intro j k' hk'
  obtain⟨n,h,k,rfl,e2,e3,e4⟩:=lendSt_get hls hk'
  rw[Nat.zero_add,muC_at e2]
  have hb:=hst.blk h k e3
  unfold lendB at e4
  cases hp:k.pure with
  | true=>
   rw[hp] at e4
   cases e4
   cases hm:μ h with
   | none=>rw[hm] at hb;exact hb.nilAny rfl rfl hp.symm
   | some bm=>
    obtain⟨b,m⟩:=bm
    rw[hm] at hb
    cases hl:k.lp with
    | none=>
     obtain⟨cs,h1,h2,h3,h4,h5,h6⟩:=hb.cells hl
     refine .mk rfl (hb.nokid hl) ⟨cs,h1,h2,h3,(fun h=>by cases h),h5,fun j g hg=>?_⟩
     obtain⟨v,hv,hrv⟩:=h6 j g hg
     refine⟨v,hv,?_⟩
     unfold RepC at hrv⊢
     simp only[hp] at hrv⊢
     have hrv:=hrv.flag (f':=false) (fun h=>by cases h)
     exact RepI.mono hrv (Kept.refl _ _) fun b _ hn ho=>hn (hO b ho)
    | some kd=>
     cases kd with
     | loop lp=>
      obtain⟨D,vs,_,_,_,h4,_⟩:=(RelBlk.loop hl).1 hb
      rw[hp] at h4;cases h4
     | deep d=>
      obtain⟨h1,h2,h3,h4⟩:=(RelBlk.deep hl).1 hb
      refine(RelBlk.deep rfl).2 ⟨d.mono h1 (Kept.refl _ _) (fun x _ hn ho=>hn ?_) (fun _ _=>rfl),rfl,h3,fun h=>by cases h⟩
      cases k.fresh with
      | false=>exact hO x ho
      | true=>exact .inr (hO x ho)
  | false=>
   rw[hp,cond_false] at e4
   cases hgo:lendG.go H (lendV st H vw) k.cells with
   | none=>rw[hgo] at e4;cases e4
   | some cs'=>
    rw[hgo] at e4
    cases e4
    obtain⟨q1,q2⟩:=lendG_go hgo
    cases hm:μ h with
    | none=>
     rw[hm] at hb
     obtain⟨hb1,hb2⟩:=hb
     refine⟨List.eq_nil_of_length_eq_zero (by simp only;rw[q1,hb1];rfl),?_⟩
     dsimp only
     split at hb2
     ·trivial
     ·exact hb2.elim
     ·rw[hp] at hb2;cases hb2.2
    | some bm=>
     obtain⟨b,m⟩:=bm
     rw[hm] at hb
     cases hl:k.lp with
     | none=>
      obtain⟨cs,h1,h2,h3,h4,h5,h6⟩:=hb.cells hl
      refine .mk rfl (hb.nokid hl) ⟨cs,h1,h2,by simp only;omega,(fun h=>by cases h),h5,fun j g hg=>?_⟩
      obtain⟨g0,q3,q4⟩:=q2 j g hg
      obtain⟨v,hv,hrv⟩:=h6 j g0 q3
      refine⟨v,hv,?_⟩
      unfold RepC at hrv⊢
      simp only[hp] at hrv⊢
      exact lendG_spec hst hls hrv q4
     | some kd=>
      cases kd with
      | deep d=>have:=((RelBlk.deep hl).1 hb).2.1;rw[hp] at this;cases this
      | loop lp=>
       obtain⟨D,vs,h1,h2,h3,h4,h5⟩:=(RelBlk.loop hl).1 hb
       refine(RelBlk.loop rfl).2 ⟨D,vs,h1,h2,rfl,rfl,fun j t g ht hg=>?_⟩
       obtain⟨g0,q3,q4⟩:=q2 j g hg
       obtain⟨v,hv,hrv⟩:=h5 j t g0 ht q3
       exact⟨v,hv,lendG_spec hst hls hrv q4⟩
 ·intro j j' k1 k2 y b m b' m' h1 h2 h3 h4 hi hi'
  obtain⟨n,h,k,rfl,e2,e3,_⟩:=lendSt_get hls h1
  obtain⟨n',h',k',rfl,e2',e3',_⟩:=lendSt_get hls h2
  rw[Nat.zero_add,muC_at e2] at h3
  rw[Nat.zero_add,muC_at e2'] at h4
  have:=hst.injF h h' k k' y b m b' m' e3 e3' h3 h4 hi hi'
  subst this
  have:=(List.getElem?_inj (List.getElem?_eq_some_iff.1 e2).1 hnd).1 (e2.trans e2'.symm)
  subst this
  rfl
 ·intro j k1 b m y h1 h2 hi
  obtain⟨n,h,k,rfl,e2,e3,e4⟩:=lendSt_get hls h1
  have hA:Own stC (muC H μ) y:=⟨_,_,_,_,h1,h2,hi⟩
  rw[Nat.zero_add,muC_at e2] at h2
  refine⟨?_,.inr hA,(hst.outF h k b m y e3 h2 hi).2.2.1,fun hm=>?_⟩
  ·rintro(ho | ⟨_,ho⟩)
   ·exact(hst.outF h k b m y e3 h2 hi).1 ho
   ·obtain⟨h',k',c',m',q1,q2,q3,q4⟩:=own_out ho
    exact not_both hst e2 e3 h2 hi q1 q2 q3 q4
  ·rw[lendB_mine e4] at hm;cases hm
 ·rintro b (ho | ⟨_,ho⟩)
  ·have:=hst.xlt b ho;have:=hst.hb;show b<w.heap.size;omega
  ·obtain⟨h',k',c',m',q1,q2,q3,q4⟩:=own_out ho
   exact own_lt hst ⟨h',k',c',m',q2,q3,q4⟩
end
end Go.AM
/-
 AM,part Y:plain facts of partial functions.
-/
namespace Go.AM
theorem idx_nat {α:Type}{l:List α}{i:Nat}{x:α}(h:l[i]?=some x):idx l (i:Int)=some x:=by
 unfold idx
 rw[if_pos (by omega)]
 simpa using h
theorem bidx_lt {l:ByteArray}{i:Int}(h0:0≤i) (h1:i<(l.size:Int)):∃x,bidx l i=some x∧l[i.toNat]?=some x:=by
 have h:i.toNat<l.size:=by omega
 refine⟨l[i.toNat],?_,?_⟩
 ·unfold bidx
  rw[if_pos h0]
  exact getElem?_pos ..
 ·exact getElem?_pos ..
theorem chk_pos {p:Prop}[Decidable p] (h:p):chk p=some ():=by unfold chk;rw[if_pos h]
theorem i64 {n:Int}(h0:-9223372036854775808≤n) (h1:n≤9223372036854775807):IntKind.i64.wrap n=n:=IntWalk.i64_in n ⟨h0,h1⟩
theorem u64 {n:Int}(h0:0≤n) (h1:n≤18446744073709551615):IntKind.u64.wrap n=n:=IntWalk.u64_in n ⟨h0,h1⟩
def turn {σ τ ρ:Type}(f:σ→τ):Option (σ⊕ρ)→Option (τ⊕ρ)
 | some (.inl s)=>some (.inl (f s))
 | some (.inr r)=>some (.inr r)
 | none=>none
theorem wrap_succ {k n:Nat}(h:k<n) (hn:n≤9223372036854775807):IntKind.i64.wrap ((k:Int)+1)=((k+1:Nat):Int):=by
 rw[i64 (by omega) (by omega)];omega
theorem get_lt {α:Type}{l:List α}{k:Nat}{x:α}(h:l[k]?=some x):k<l.length:=(List.getElem?_eq_some_iff.1 h).1
theorem dec_lt {α:Type}{l:List α}{k:Nat}{x:α}(h:l[k]?=some x):decide ((k:Int)<(l.length:Int))=true:=by have:=get_lt h;simp;omega
theorem dec_end {α:Type}(l:List α):decide ((l.length:Int)<(l.length:Int))=false:=by simp
section
variable {α:Type}[DecidableEq α]
end
end Go.AM
