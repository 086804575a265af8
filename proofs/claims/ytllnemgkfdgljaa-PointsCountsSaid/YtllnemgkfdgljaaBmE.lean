/-
  AM, part BE: the loop over a function.
-/
import Derived.Test.YtllnemgkfdgljaaBmD
set_option linter.unusedSectionVars false
set_option linter.unusedSimpArgs false
set_option linter.unusedVariables false
namespace Go.AM

section
variable {P : Program} {N : Nat} {cx : Cx} {s : St}

/-- A new block of whatever make under a new handle. -/
theorem Rel.allocO {μ : Mu} {a : Act} {w : World} (hr : Rel N cx μ s a w) {hd : Nat} (k : Blk) (o : Obj) (m : Nat) (hfr : fresh s hd = true)
    (hblk : ∀ O' μ', (∀ b, b < w.heap.size → ¬ cx.O s.st μ b → ¬ O' b) → (∀ y, y ≠ hd → μ' y = μ y) → RelBlk O' cx.base (w.alloc o) μ' k (some (w.heap.size, m))) :
    Rel N cx (upd μ hd (some (w.heap.size, m))) { fr := s.fr, st := (hd, k) :: s.st, df := s.df } a (w.alloc o) := by
  obtain ⟨f1, f2, f3, f4, f5⟩ := fresh_spec hfr
  have h := hr.st
  have hO : ∀ b, b < w.heap.size → ¬ cx.O s.st μ b → ¬ cx.O ((hd, k) :: s.st) (upd μ hd (some (w.heap.size, m))) b := by
    intro b hb hn ho
    rcases ho with ho | ⟨x, k', m', h1, h2⟩
    · exact hn (.inl ho)
    · by_cases e : x = hd
      · subst e; rw [upd_same] at h2; cases h2; omega
      · rw [sget_cons_other k _ e] at h1; rw [upd_other e] at h2; exact hn (.inr ⟨x, k', m', h1, h2⟩)
  have hlt : ∀ x k' b m', sget s.st x = some k' → μ x = some (b, m') → b < w.heap.size := fun x k' b m' h1 h2 => own_lt h ⟨x, k', m', h1, h2⟩
  have hkept := kept_alloc (cx.O s.st μ) w o
  refine { st := { blk := ?_, inj := ?_, out := ?_, pin := ?_, xlt := h.xlt, hb := ?_, os := h.os, tape := h.tape, output := h.output, keep := ?_ }, nd := ?_, sz := hr.sz, fr := ?_ }
  · intro x k' h1
    by_cases e : x = hd
    · subst e
      rw [sget_cons_same] at h1; cases h1
      rw [upd_same]
      exact hblk _ _ hO fun y hy => upd_other hy
    · rw [sget_cons_other k _ e] at h1
      rw [upd_other e]
      refine ((h.blk x k' h1).mono (fun b m hm => Go.RowKit.Below.heap_alloc w _ b (hlt x k' b m h1 hm)) hkept hO).remap fun hp g hg y hy => upd_other ?_
      intro e
      subst e
      rw [stNo_get f3 h1 hp hg] at hy
      cases hy
  · intro x x' k1 k2 b m1 m2 h1 h2 h3 h4
    by_cases e : x = hd
    · by_cases e' : x' = hd
      · rw [e, e']
      · subst e
        rw [upd_same] at h3; rw [upd_other e'] at h4; rw [sget_cons_other k _ e'] at h2
        cases h3
        have := hlt x' k2 _ m2 h2 h4
        omega
    · by_cases e' : x' = hd
      · subst e'
        rw [upd_same] at h4; rw [upd_other e] at h3; rw [sget_cons_other k _ e] at h1
        cases h4
        have := hlt x k1 _ m1 h1 h3
        omega
      · rw [sget_cons_other k _ e] at h1; rw [sget_cons_other k _ e'] at h2; rw [upd_other e] at h3; rw [upd_other e'] at h4
        exact h.inj x x' k1 k2 b m1 m2 h1 h2 h3 h4
  · intro x k' b m1 h1 h2
    by_cases e : x = hd
    · subst e
      rw [upd_same] at h2
      cases h2
      refine ⟨fun hx => ?_, .inl h.hb⟩
      have := h.xlt _ hx
      have := h.hb
      omega
    · rw [sget_cons_other k _ e] at h1; rw [upd_other e] at h2
      exact h.out x k' b m1 h1 h2
  · intro x k1 h1 h2
    by_cases e : x = hd
    · subst e; rw [not_pinned f5] at h2; cases h2
    · rw [sget_cons_other k _ e] at h1; rw [upd_other e]; exact h.pin x k1 h1 h2
  · simp only [World.size_alloc]; have := h.hb; omega
  · intro b hb hA
    rw [Go.RowKit.Below.heap_alloc w _ b (by have := h.hb; omega)]
    exact h.keep b hb hA
  · exact (hr.nd.mono hkept hO).remap (fun g hg y hy => upd_other fun e => by subst e; rw [dfNo_mem f4 hg] at hy; cases hy)
  · intro t g hg
    obtain ⟨v, hv, hrv⟩ := hr.fr t g hg
    refine ⟨v, hv, (hrv.mono hkept hO (Nat.le_refl _)).remap fun y hy => upd_other ?_⟩
    intro e
    subst e
    rw [frNo_get f2 hg] at hy
    cases hy

theorem Rel.marked {μ : Mu} {a : Act} {w : World} (hr : Rel N cx μ s a w) : Rel N cx μ s { a with defers := { target := .collected w.heap.size, args := #[] } :: a.defers } (w.alloc (.deferred (some []))) := by
  have hr1 := hr.kept (w' := w.alloc (.deferred (some []))) (by simp) (fun b hb => Go.RowKit.Below.heap_alloc w _ b hb) rfl rfl rfl
  refine { st := hr1.st, nd := .mark (D := w.heap.size) ?_ hr.st.hb (by simp) (World.alloc_heap_new _ _) ?_ hr1.nd, sz := hr1.sz, fr := hr1.fr }
  · rintro (ho | ho)
    · have := hr.st.xlt _ ho; have := hr.st.hb; omega
    · have := own_lt hr.st ho; omega
  · intro d hd e
    have key : ∀ {ds : List Deferred} {gs : List G} {O : Nat → Prop} {base : Nat}, DfRel O base w μ ds gs → d ∈ ds → ∀ D, d.target = .collected D → D < w.heap.size := by
      intro ds gs O base hdf
      induction hdf with
      | nil => intro h; cases h
      | mark _ _ h3 _ _ _ ih =>
        intro hd D e
        rcases List.mem_cons.1 hd with rfl | hd
        · cases e; exact h3
        · exact ih hd D e
      | clo _ _ ih =>
        intro hd D e
        rcases List.mem_cons.1 hd with rfl | hd
        · cases e
        · exact ih hd D e
    exact absurd (key hr.nd hd _ e) (Nat.lt_irrefl _)

theorem Rel.shutLoop {μ : Mu} {a : Act} {w : World} (hr : Rel N cx μ s a w) {h l m : Nat} {k : Blk} {s3 : St} {o o' : Obj} (hk : sget s.st h = some k) (hm : μ h = some (l, m)) (ho : w.heap[l]? = some o) (hc : isMem o = false) (hd : ∀ x, o ≠ .deferred x) (hb : cx.base ≤ l) (hs : Sub s s3) (hn : sget s3.st h = none) :
    Rel N cx μ s3 a (w.putObj l o') := by
  have h1 := hr.sub hs
  have hs' : Shut (fun b => b = l) w (w.putObj l o') := Shut.put _ rfl ho hc
  refine { st := h1.st.shut (w0 := cx.w0) hs' (fun x k1 b m1 q1 q2 _ hz => ?_) ⟨rfl, rfl, rfl⟩ (fun b hb' hA => ?_), nd := DfRel.shut h1.nd hs' fun d hd' D e hz => ?_, sz := h1.sz, fr := fun t g hg => let ⟨v, hv, hrv⟩ := h1.fr t g hg; ⟨v, hv, hrv.shut hs'⟩ }
  · subst hz
    have := hr.st.inj x h k1 k b m1 m (hs.2.1.get q1) hk q2 hm
    subst this
    rw [hn] at q1; cases q1
  · rw [World.putObj_heap_other (by omega)]; exact h1.st.keep b hb' hA
  · subst hz
    have key : ∀ {ds : List Deferred} {gs : List G} {O : Nat → Prop} {base : Nat}, DfRel O base w μ ds gs → d ∈ ds → ∃ x, w.heap[D]? = some (.deferred x) := by
      intro ds gs O base hdf
      induction hdf with
      | nil => intro h; cases h
      | mark _ _ _ h4 _ _ ih =>
        intro hd
        rcases List.mem_cons.1 hd with rfl | hd
        · cases e; exact ⟨_, h4⟩
        · exact ih hd
      | clo _ _ ih =>
        intro hd
        rcases List.mem_cons.1 hd with rfl | hd
        · cases e
        · exact ih hd
    obtain ⟨x, hx⟩ := key h1.nd hd'
    rw [ho] at hx
    exact hd x (Option.some.inj hx)

def loopB (cells : List G) (lp : Lp) : Blk := ⟨0, false, false, false, 0, cells, some lp⟩
def LoopR (R : Exit → St → Prop) (s : St) : Option Code → Prop
  | none => R .normal s
  | some .ret => R .ret s
  | some (.exit id) => R (.exit id) s
  | _ => False

def getAll (fr : List (Nat × G)) : List Nat → Option (List G)
  | [] => some []
  | t :: r => match get fr t, getAll fr r with
    | some g, some gs => some (g :: gs)
    | _, _ => none
theorem getAll_get {fr : List (Nat × G)} : ∀ {ts : List Nat} {gs : List G}, getAll fr ts = some gs → ∀ {j : Nat} {g : G}, gs[j]? = some g → ∃ t, ts[j]? = some t ∧ get fr t = some g
  | [], _, h, j, g, e => by cases h; simp at e
  | t :: r, gs, h, j, g, e => by
    simp only [getAll] at h
    cases h1 : get fr t with
    | none => rw [h1] at h; cases h
    | some g1 =>
      rw [h1] at h
      cases h2 : getAll fr r with
      | none => rw [h2] at h; cases h
      | some r1 =>
        rw [h2] at h
        cases h
        cases j with
        | zero => cases e; exact ⟨t, rfl, h1⟩
        | succ j => exact getAll_get h2 e
theorem RepV.cloInv {O : Nat → Prop} {base : Nat} {w : World} {μ : Mu} {f : FuncId} {caps : List G} {v : Value} (h : RepV O base w μ (.clo f caps) v) :
    ∃ us : List Value, v = .func (.func f) #[] us.toArray ∧ us.length = caps.length ∧ ∀ (j : Nat) (g : G) (v : Value), caps[j]? = some g → us[j]? = some v → RepV O base w μ g v := by
  cases h with
  | imm h => cases h
  | clo _ _ us hl hr => exact ⟨us, rfl, hl, hr⟩

theorem GW.rangeFunc {g : Operand} {ps : Array Tmp} {asg body : Code} {f : FuncId} {caps cells gs' : List G} {stC : FuncId → List (Nat × Blk)} {Q : FuncId → G → List (Nat × Blk) → Prop} {R : Exit → St → Prop} (hro : cx.ro = none) (lp : FuncId → Option Code → Lp) (hd : Nat) (slots : List Nat) (H : List Nat) (vw : Bool) (bk : List Nat)
    (hlp : ∀ fn j, lp fn j = ⟨fn, N, slots, ps, asg, body, j⟩) (hg : ev s g = some (.clo f caps)) (hc : ∀ args w, (callFunc f args).run P w = .ok (.enter f args) w) (hcells : getAll s.fr slots = some cells) (hfr : fresh s hd = true)
    (hl : ∀ fn, lendSt H (lendV ((hd, loopB cells (lp fn none)) :: s.st) H vw) ((hd, loopB cells (lp fn none)) :: s.st) H 0 = some (stC fn)) (hnd : ndB H = true) (hdH : hd ∈ H) (hcon : ∀ fn, GM P f gs' (stC fn) (Q fn))
    (hv : ∀ fn, lendG.go H (lendV ((hd, loopB cells (lp fn none)) :: s.st) H vw) (.yld hd :: caps) = some gs')
    (hres : ∀ fn r st', Q fn r st' → ∃ s2 s3 j k2, backS vw { fr := s.fr, st := (hd, loopB cells (lp fn none)) :: s.st, df := s.df } H st' bk = some s2 ∧ (deads st' H 0).contains hd = false ∧ sget s2.st hd = some k2 ∧ k2.lp = some (lp fn j) ∧ Sub s2 s3 ∧ sget s3.st hd = none ∧ LoopR R s3 j) :
    GW P N cx (.rangeFunc g ps asg body) R s := by
  intro μ a w hr
  refine wpIn_rangeFunc ?_
  intro fn _
  have hround : (FF cx.ro).round = none := hro
  rw [hround]
  obtain ⟨us, hav, hlu, _⟩ := (hr.ev hg).cloInv
  refine ⟨w.heap.size + 1, _, (w.alloc (.deferred (some []))).alloc (.loop { state := .ready, pending := none, fn := fn, tmps := a.tmps, params := ps, assign := asg, body := body, defers := w.heap.size }), { target := .fn (.func f) us.toArray, args := #[.func (.yield (w.heap.size + 1)) #[] #[]] }, (w.alloc (.deferred (some []))).alloc (.loop { state := .ready, pending := none, fn := fn, tmps := a.tmps, params := ps, assign := asg, body := body, defers := w.heap.size }), f, #[.func (.yield (w.heap.size + 1)) #[] #[]] ++ us.toArray, (w.alloc (.deferred (some []))).alloc (.loop { state := .ready, pending := none, fn := fn, tmps := a.tmps, params := ps, assign := asg, body := body, defers := w.heap.size }), run_enterLoop_outer _ _ _ _ _, ?_, fun _ _ => trivial, ?_, fun h => (by cases h), ?_⟩
  · simp only [resolve, hav]
    simp [go_sem]
  · simp [invoke, go_sem, hc]
  · -- the new record
    generalize hW : (w.alloc (.deferred (some []))).alloc (.loop { state := .ready, pending := none, fn := fn, tmps := a.tmps, params := ps, assign := asg, body := body, defers := w.heap.size }) = W1
    have hr1 := hr.marked
    have hsz1 : (w.alloc (.deferred (some []))).heap.size = w.heap.size + 1 := by simp
    have hr2 := hr1.allocO (hd := hd) (loopB cells (lp fn none)) (.loop { state := .ready, pending := none, fn := fn, tmps := a.tmps, params := ps, assign := asg, body := body, defers := w.heap.size }) 0 hfr (fun O' μ' hO hμ => by
      unfold RelBlk
      simp only [loopB]
      refine ⟨w.heap.size, a.tmps, ?_, ?_, rfl, rfl, fun j t g ht hg => ?_⟩
      · rw [hlp]; exact World.alloc_heap_new _ _
      · rw [hlp]; exact hr.sz
      · rw [hlp] at ht
        obtain ⟨t', e1, e2⟩ := getAll_get hcells hg
        rw [ht] at e1
        cases e1
        obtain ⟨v, hv, hrv⟩ := hr1.fr t g e2
        refine ⟨v, hv, (hrv.mono (kept_alloc _ _ _) hO (Nat.le_refl _)).remap fun y hy => hμ y fun e => ?_⟩
        subst e
        rw [frNo_get (fresh_spec hfr).2.1 e2] at hy; cases hy)
    rw [hW, hsz1] at hr2
    have hgv2 := hr2.ev (x := g) (g := .clo f caps) (by cases g <;> exact hg)
    rw [show ({ a with defers := { target := .collected w.heap.size, args := #[] } :: a.defers } : Act).eval g = .func (.func f) #[] us.toArray from hav] at hgv2
    obtain ⟨us', e1, _, hrc⟩ := hgv2.cloInv
    have e2 : us' = us := by
      injection e1 with _ _ e3
      have := congrArg Array.toList e3
      simpa using this.symm
    subst e2
    -- the call
    have hcall := lend_core (P := P) (f := f) (vs := .func (.yield (w.heap.size + 1)) #[] #[] :: us') hr2 (hv fn) (hl fn) hnd (by simp [hlu]) (fun j g v hg hv => by
      cases j with
      | zero => cases hg; cases hv; exact .yld hd _ 0 (upd_same _ _ _)
      | succ j => exact hrc j g v hg hv) (hcon fn)
    have hargs : (Value.func (.yield (w.heap.size + 1)) #[] #[] :: us').toArray = #[.func (.yield (w.heap.size + 1)) #[] #[]] ++ us'.toArray := by simp
    rw [hargs] at hcall
    refine callsIn_FF.2 (hcall.mono ?_)
    rintro e w2 (⟨v, r, st', μ'', rfl, hq, hC, _⟩ | ⟨_, _, _, _, h, _⟩)
    rotate_left
    · exact h.elim
    obtain ⟨s2, s3, j, k2, hb, hdd, hk2, hk2l, hsub, hn3, hR⟩ := hres fn r st' hq
    obtain ⟨r2, _, _, r4⟩ := back_rel hr2 (hl fn) (ndB_spec hnd) hC hb
    have hm2 := r4 hd hdH (by simpa using hdd)
    rw [upd_same] at hm2
    obtain ⟨l, m, hm3, D, vs, q1, q2, _, _, _⟩ := r2.loopAt hk2 hk2l
    rw [hm2] at hm3
    cases hm3
    have hend := run_endLoop (P := P) q1 (by cases (lp fn j).pend <;> simp)
    refine ⟨_, _, hend, ?_⟩
    have r5 := r2.shutLoop (o' := .loop { state := .exhausted, pending := (lp fn j).pend, fn := (lp fn j).fn, tmps := vs, params := (lp fn j).ps, assign := (lp fn j).assign, body := (lp fn j).body, defers := D }) hk2 hm2 q1 rfl (fun x h => by cases h) (by have := hr.st.hb; omega) hsub hn3
    have hpend : (lp fn j).pend = j := by rw [hlp]
    simp only [hpend] at r5 ⊢
    cases j with
    | none => exact ⟨_, s3, r5, hR⟩
    | some c =>
      cases c with
      | ret => exact wpIn_ret ⟨_, s3, r5, hR⟩
      | exit id => exact wpIn_exit ⟨_, s3, r5, hR⟩
      | _ => exact hR.elim
end
end Go.AM
