/-
  AM, part BD: loops over functions: their rounds, the calls of yield, the loop itself.
-/
import Derived.Test.YtllnemgkfdgljaaBmC
set_option linter.unusedSectionVars false
set_option linter.unusedSimpArgs false
set_option linter.unusedVariables false
namespace Go.AM

theorem RelSt.ro {cx : Cx} {μ : Mu} {st : List (Nat × Blk)} {w : World} (h : RelSt cx μ st w) (r : Option Nat) : RelSt { cx with ro := r } μ st w :=
  { blk := h.blk, inj := h.inj, out := h.out, pin := h.pin, xlt := h.xlt, hb := h.hb, os := h.os, tape := h.tape, output := h.output, keep := h.keep }

def zipG : List Nat → List G → List (Nat × G)
  | t :: ts, g :: gs => (t, g) :: zipG ts gs
  | _, _ => []
theorem get_zipG : ∀ {ts : List Nat} {gs : List G} {t : Nat} {g : G}, get (zipG ts gs) t = some g → ∃ j : Nat, ts[j]? = some t ∧ gs[j]? = some g
  | [], _, _, _, h => by cases h
  | _ :: _, [], _, _, h => by cases h
  | x :: ts, y :: gs, t, g, h => by
    simp only [zipG, get_cons] at h
    cases hb : Nat.beq x t with
    | true => rw [hb] at h; cases h; have := Nat.eq_of_beq_eq_true hb; subst this; exact ⟨0, rfl, rfl⟩
    | false =>
      rw [hb] at h
      obtain ⟨j, h1, h2⟩ := get_zipG h
      exact ⟨j + 1, h1, h2⟩
theorem get_append {a b : List (Nat × G)} {t : Nat} : get (a ++ b) t = (get a t).or (get b t) := by
  induction a with
  | nil => rfl
  | cons x r ih =>
    obtain ⟨y, k⟩ := x
    simp only [List.cons_append, get]
    cases Nat.beq y t with
    | true => rfl
    | false => exact ih

/-- How a round is left. -/
def RoundQ (Q : Option Code → List (Nat × Blk) → Prop) : Exit → St → Prop := fun e s => s.df = [] ∧ ∃ st', SubSt s.st st' ∧ match e with
  | .normal => Q none st'
  | .ret => Q (some .ret) st'
  | .exit id => Q (some (.exit id)) st'
  | _ => False

/-- A CONTRACT OF A ROUND: of the loop 'lp', whose frame reads as 'cells', with what is yielded. -/
def GY (P : Program) (lp : Lp) (cells args : List G) (st : List (Nat × Blk)) (Q : Option Code → List (Nat × Blk) → Prop) : Prop :=
  ∀ cx, GW P lp.N cx lp.assign (fun e s => e = .normal ∧ ∀ cx', GW P lp.N cx' lp.body (RoundQ Q) s) { fr := zipG lp.ps.toList args ++ zipG lp.slots cells, st := st, df := [] }

theorem GY.of {P : Program} {lp : Lp} {cells args : List G} {st : List (Nat × Blk)} {Q : Option Code → List (Nat × Blk) → Prop} {asg body : Code} (ha : lp.assign = asg) (hb : lp.body = body)
    (h : ∀ cx, GW P lp.N cx asg (fun e s => e = .normal ∧ ∀ cx', GW P lp.N cx' body (RoundQ Q) s) { fr := zipG lp.ps.toList args ++ zipG lp.slots cells, st := st, df := [] }) : GY P lp cells args st Q := by
  unfold GY; rw [ha, hb]; exact h

section
variable {P : Program} {N : Nat} {cx : Cx} {s : St}

theorem foldl_set (ps : List Nat) (vs : List Value) (tm : Array Value) (t : Nat) : ((ps.zip vs).foldl (fun (tm : Array Value) (x : Nat × Value) => tm.setIfInBounds x.1 x.2) tm).size = tm.size ∧
    (t ∉ ps → ((ps.zip vs).foldl (fun (tm : Array Value) (x : Nat × Value) => tm.setIfInBounds x.1 x.2) tm)[t]? = tm[t]?) := by
  induction ps generalizing vs tm with
  | nil => exact ⟨rfl, fun _ => rfl⟩
  | cons p r ih =>
    cases vs with
    | nil => exact ⟨rfl, fun _ => rfl⟩
    | cons v vs =>
      simp only [List.zip_cons_cons, List.foldl_cons]
      obtain ⟨h1, h2⟩ := ih vs (tm.setIfInBounds p v)
      refine ⟨h1.trans (by simp), fun hn => ?_⟩
      rw [List.mem_cons, not_or] at hn
      rw [h2 hn.2, Array.getElem?_setIfInBounds_ne (Ne.symm hn.1)]
theorem foldl_set_get : ∀ (ps : List Nat) (vs : List Value) (tm : Array Value) (j t : Nat) (v : Value), ps.Nodup → ps[j]? = some t → vs[j]? = some v → t < tm.size →
    ((ps.zip vs).foldl (fun (tm : Array Value) (x : Nat × Value) => tm.setIfInBounds x.1 x.2) tm)[t]? = some v
  | [], _, _, _, _, _, _, h, _, _ => by cases h
  | _ :: _, [], _, _, _, _, _, _, h, _ => by cases h
  | p :: r, u :: vs, tm, j, t, v, hn, h1, h2, hl => by
    simp only [List.zip_cons_cons, List.foldl_cons]
    cases j with
    | zero =>
      cases h1; cases h2
      rw [(foldl_set r vs _ _).2 (List.nodup_cons.1 hn).1, Array.getElem?_setIfInBounds_self_of_lt hl]
    | succ j => exact foldl_set_get r vs _ j t v (List.nodup_cons.1 hn).2 h1 h2 (by simpa using hl)

/-- The loop's block under a handle of the call's own. -/
theorem Rel.loopAt {μ : Mu} {a : Act} {w : World} (hr : Rel N cx μ s a w) {h : Nat} {k : Blk} {lp : Lp} (hk : sget s.st h = some k) (hlp : k.lp = some lp) :
    ∃ l m, μ h = some (l, m) ∧ RelLp (cx.O s.st μ) cx.base w μ k lp l := by
  have hb := hr.st.blk h k hk
  cases hm : μ h with
  | none => rw [hm] at hb; have := hb.2; rw [hlp] at this; cases this
  | some bm =>
    obtain ⟨l, m⟩ := bm
    rw [hm] at hb
    unfold RelBlk at hb
    rw [hlp] at hb
    exact ⟨l, m, rfl, hb⟩

theorem RelLp.shut {O Z : Nat → Prop} {base : Nat} {w w' : World} {μ : Mu} {k k' : Blk} {lp lp' : Lp} {l : Nat} (hr : RelLp O base w μ k lp l) (h : Shut Z w w') (hl : ∀ D vs, w.heap[l]? = some (.loop { state := if lp.pend.isNone then .ready else .done, pending := lp.pend, fn := lp.fn, tmps := vs, params := lp.ps, assign := lp.assign, body := lp.body, defers := D }) →
      w'.heap[l]? = some (.loop { state := if lp'.pend.isNone then .ready else .done, pending := lp'.pend, fn := lp'.fn, tmps := vs, params := lp'.ps, assign := lp'.assign, body := lp'.body, defers := D })) (e1 : lp'.N = lp.N) (e2 : lp'.slots = lp.slots) (e3 : k'.cells = k.cells) (e4 : k'.mine = k.mine) (e5 : k'.pure = k.pure) : RelLp O base w' μ k' lp' l := by
  obtain ⟨D, vs, h1, h2, h3, h4, h5⟩ := hr
  refine ⟨D, vs, hl D vs h1, h2.trans e1.symm, e4.trans h3, e5.trans h4, fun j t g ht hg => ?_⟩
  rw [e2] at ht
  rw [e3] at hg
  obtain ⟨v, hv, hrv⟩ := h5 j t g ht hg
  exact ⟨v, hv, hrv.shut h⟩

/-- The loop's record says now how it was left. -/
theorem Rel.setLoop {μ : Mu} {a : Act} {w : World} (hr : Rel N cx μ s a w) {h l m : Nat} {k : Blk} {lp : Lp} (hk : sget s.st h = some k) (hlp : k.lp = some lp) (hm : μ h = some (l, m)) (j : Option Code) {D : Nat} {vs : Array Value}
    (hD : w.heap[l]? = some (.loop { state := if lp.pend.isNone then .ready else .done, pending := lp.pend, fn := lp.fn, tmps := vs, params := lp.ps, assign := lp.assign, body := lp.body, defers := D })) :
    Rel N cx μ { s with st := sset s.st h { k with lp := some { lp with pend := j } } } a (w.putObj l (.loop { state := if j.isNone then .ready else .done, pending := j, fn := lp.fn, tmps := vs, params := lp.ps, assign := lp.assign, body := lp.body, defers := D })) := by
  have hs : Shut (fun b => b = l) w (w.putObj l (.loop { state := if j.isNone then .ready else .done, pending := j, fn := lp.fn, tmps := vs, params := lp.ps, assign := lp.assign, body := lp.body, defers := D })) := Shut.put _ rfl hD rfl
  have hll : l < w.heap.size := lt_of_heap hD
  have hOO : ∀ b, cx.O (sset s.st h { k with lp := some { lp with pend := j } }) μ b ↔ cx.O s.st μ b := fun b => or_congr Iff.rfl (Own.sset hk)
  have hO : ∀ b, ¬ cx.O s.st μ b → ¬ cx.O (sset s.st h { k with lp := some { lp with pend := j } }) μ b := fun b hn ho => hn ((hOO b).1 ho)
  have dom : ∀ x k1, sget (sset s.st h { k with lp := some { lp with pend := j } }) x = some k1 → ∃ k0, sget s.st x = some k0 := fun x k1 h1 => by
    rcases sget_sset_iff hk h1 with ⟨rfl, rfl⟩ | ⟨_, h1⟩
    · exact ⟨k, hk⟩
    · exact ⟨_, h1⟩
  refine { st := { blk := ?_, inj := ?_, out := ?_, pin := ?_, xlt := hr.st.xlt, hb := by rw [hs.size]; exact hr.st.hb, os := hr.st.os, tape := hr.st.tape, output := hr.st.output, keep := ?_ }, nd := ?_, sz := hr.sz, fr := ?_ }
  · intro x k1 h1
    rcases sget_sset_iff hk h1 with ⟨rfl, rfl⟩ | ⟨hne, h1⟩
    · rw [hm]
      have hb := hr.st.blk x k hk
      rw [hm] at hb
      unfold RelBlk at hb ⊢
      rw [hlp] at hb
      simp only
      refine (hb.shut (Z := fun b => b = l) (w := w) (k' := k) (lp' := { lp with pend := j }) hs (fun D' vs' h' => ?_) rfl rfl rfl rfl rfl).imp fun D' hx => hx.imp fun vs' hx => ⟨hx.1, hx.2.1, hx.2.2.1, hx.2.2.2.1, fun j' t g ht hg => let ⟨v, hv, hrv⟩ := hx.2.2.2.2 j' t g ht hg; ⟨v, hv, hrv.mono (Kept.refl _ _) (fun b _ => hO b) (Nat.le_refl _)⟩⟩
      rw [hD] at h'
      cases h'
      rw [World.putObj_heap_same hll]
    · exact ((hr.st.blk x k1 h1).shut hs fun b m' hmx _ hb => hne (hr.st.inj x h k1 k b m' m h1 hk hmx (hb ▸ hm))).mono (fun _ _ _ => rfl) (Kept.refl _ _) (fun b _ => hO b)
  · intro x x' k1 k2 b m1 m2 h1 h2 h3 h4
    obtain ⟨k1', h1'⟩ := dom x k1 h1
    obtain ⟨k2', h2'⟩ := dom x' k2 h2
    exact hr.st.inj x x' k1' k2' b m1 m2 h1' h2' h3 h4
  · intro x k1 b m1 h1 h2
    obtain ⟨k1', h1'⟩ := dom x k1 h1
    exact hr.st.out x k1' b m1 h1' h2
  · intro x k1 h1 h2
    obtain ⟨k1', h1'⟩ := dom x k1 h1
    exact hr.st.pin x k1' h1' h2
  · intro b hb hA
    have hne : b ≠ l := fun e => by
      subst e
      rcases (hr.st.out h k b m hk hm).2 with h1 | h1
      · omega
      · exact hA h1
    rw [World.putObj_heap_other hne]
    exact hr.st.keep b hb hA
  · refine (DfRel.shut hr.nd hs fun d hd D' e hz => ?_).mono (Kept.refl _ _) (fun b _ => hO b)
    subst hz
    have key : ∀ {ds : List Deferred} {gs : List G}, DfRel (cx.O s.st μ) cx.base w μ ds gs → d ∈ ds → ∃ x, w.heap[D']? = some (.deferred x) := by
      intro ds gs hdf
      induction hdf with
      | nil => intro h; cases h
      | mark _ _ _ h4 _ _ ih =>
        intro hd
        rcases List.mem_cons.1 hd with rfl | hd
        · cases e; exact ⟨_, h4⟩
        · exact ih hd
      | clo _ _ ih =>
        intro hd
        rcases List.mem_cons.1 hd with rfl | hd
        · cases e
        · exact ih hd
    obtain ⟨x, hx⟩ := key hr.nd hd
    rw [hD] at hx; cases hx
  · intro t g hg
    obtain ⟨v, hv, hrv⟩ := hr.fr t g hg
    exact ⟨v, hv, (hrv.shut hs).mono (Kept.refl _ _) (fun b _ => hO b) (Nat.le_refl _)⟩

theorem putObj_twice (w : World) (l : Nat) (o o' : Obj) : (w.putObj l o).putObj l o' = w.putObj l o' := by
  simp [World.putObj]

variable {ty : TypeId} {pos : String} {after : Array Edge} {guard : Option (Nat × Bool)} {d : Nat} {ops : Array Oper} {rest : List Oper} {R : Exit → St → Prop}

/-- A round, as the function that is ranged over sees it. -/
theorem round_core {μ : Mu} {a : Act} {w : World} {vs : List Value} {gs gs' cells' : List G} {stC : List (Nat × Blk)} {Q : Option Code → List (Nat × Blk) → Prop} {h l m : Nat} {k : Blk} {lp : Lp} (hr : Rel N cx μ s a w) (hk : sget s.st h = some k) (hlp : k.lp = some lp) (hpend : lp.pend = none) (hm : μ h = some (l, m))
    (H : List Nat) (hh : idxH H h = none) (hv : lendG.go H [] gs = some gs') (hc : lendG.go H [] k.cells = some cells') (hl : lendSt H [] s.st H 0 = some stC) (hnd : ndB H = true) (hps : gs'.length = lp.ps.size) (hpn : ndB lp.ps.toList = true) (hpl : lp.ps.toList.all (Nat.blt · lp.N) = true)
    (hvs : vs.length = gs.length) (hrep : ∀ (j : Nat) (g : G) (v : Value), gs[j]? = some g → vs[j]? = some v → RepV (cx.O s.st μ) cx.base w μ g v) (hcon : GY P lp cells' gs' stC Q)
    {T : Ending → World → Prop} (hT : ∀ j st' μ'' w3, Q j st' → RelSt (cx0 (lendX cx s.st μ H false) stC (muC H μ) w) μ'' st' w3 → ∀ D tm, w3.heap[l]? = some (.loop { state := .ready, pending := none, fn := lp.fn, tmps := tm, params := lp.ps, assign := lp.assign, body := lp.body, defers := D }) →
      T (.returned (.bool j.isNone)) (w3.putObj l (.loop { state := if j.isNone then .ready else .done, pending := j, fn := lp.fn, tmps := tm, params := lp.ps, assign := lp.assign, body := lp.body, defers := D }))) :
    ∃ tm0 D, w.heap[l]? = some (.loop { state := .ready, pending := none, fn := lp.fn, tmps := tm0, params := lp.ps, assign := lp.assign, body := lp.body, defers := D }) ∧
      RoundIn (FF cx.ro) 0 P l lp.fn ((lp.ps.zip vs.toArray).foldl (fun tmps (t, a) => tmps.setIfInBounds t a) tm0) lp.assign lp.body w T := by
  obtain ⟨l', m', hm', D, tm0, q1, q2, q3, q4, q5⟩ := hr.loopAt hk hlp
  rw [hm] at hm'
  cases hm'
  simp only [hpend, Option.isNone_none, if_true] at q1
  refine ⟨tm0, D, q1, ?_⟩
  have hll := lt_of_heap q1
  have hls : lendSt H (lendV s.st H false) s.st H 0 = some stC := hl
  have hrel := lend_rel hr.st hls (ndB_spec hnd)
  have hlX : lendX cx s.st μ H false l := .inr ⟨rfl, ⟨h, k, m, outSt_of hh hk, hm⟩⟩
  have hlA : ¬ Own stC (muC H μ) l := fun ho => by
    obtain ⟨i, h', k', m', e1, e2, e3⟩ := own_lent hls ho
    exact not_both hr.st e1 e2 e3 hh hk hm
  generalize htm : (lp.ps.zip vs.toArray).foldl (fun tmps (t, a) => tmps.setIfInBounds t a) tm0 = tm
  have htm' : (lp.ps.toList.zip vs).foldl (fun (tm : Array Value) (x : Nat × Value) => tm.setIfInBounds x.1 x.2) tm0 = tm := by
    rw [← htm, ← Array.foldl_toList, Array.toList_zip]
  obtain ⟨v1, v2⟩ := lendG_go hv
  obtain ⟨c1, c2⟩ := lendG_go hc
  -- the frame of the round
  have hstart : Rel lp.N { cx0 (lendX cx s.st μ H false) stC (muC H μ) w with ro := some l } (muC H μ) { fr := zipG lp.ps.toList gs' ++ zipG lp.slots cells', st := stC, df := [] } { tmps := tm, defers := [] } w := by
    refine { st := hrel.ro _, nd := .nil, sz := by rw [← htm']; exact (foldl_set _ _ _ 0).1.trans q2, fr := fun t g hg => ?_ }
    rw [get_append] at hg
    have hslot : ∀ t, t ∈ lp.ps.toList → t < tm0.size := fun t ht => by
      have := List.all_eq_true.1 hpl t ht
      rw [q2]; simpa [Nat.blt_eq] using this
    cases hz : get (zipG lp.ps.toList gs') t with
    | some g1 =>
      rw [hz] at hg
      cases hg
      obtain ⟨j, e1, e2⟩ := get_zipG hz
      obtain ⟨g0, e3, e4⟩ := v2 j _ e2
      have hj : j < vs.length := by have := (List.getElem?_eq_some_iff.1 e3).1; omega
      refine ⟨vs[j], ?_, lendG_spec hr.st hls (hrep j g0 _ e3 (List.getElem?_eq_getElem hj)) e4⟩
      rw [← htm']
      exact foldl_set_get _ _ _ j t _ (ndB_spec hpn) e1 (List.getElem?_eq_getElem hj) (hslot t (List.mem_of_getElem? e1))
    | none =>
      rw [hz, Option.none_or] at hg
      obtain ⟨j, e1, e2⟩ := get_zipG hg
      obtain ⟨g0, e3, e4⟩ := c2 j _ e2
      obtain ⟨v, hv0, hrv⟩ := q5 j t g0 e1 e3
      refine ⟨v, ?_, lendG_spec hr.st hls hrv e4⟩
      have hnot : t ∉ lp.ps.toList := fun ht => by
        obtain ⟨i, hi, rfl⟩ := List.getElem_of_mem ht
        have hlen : i < gs'.length := by rw [hps]; simpa using hi
        have key : ∀ (ts : List Nat) (gs : List G) (i : Nat) (hi : i < ts.length), i < gs.length → get (zipG ts gs) ts[i] ≠ none := by
          intro ts
          induction ts with
          | nil => intro gs i hi; cases hi
          | cons x r ih =>
            intro gs i hi hg
            cases gs with
            | nil => cases hg
            | cons y ys =>
              simp only [zipG, get_cons]
              cases i with
              | zero => simp [Nat.beq_refl]
              | succ i =>
                simp only [List.getElem_cons_succ]
                cases Nat.beq x (r[i]'(by simpa using hi)) with
                | true => simp
                | false => exact ih ys i (by simpa using hi) (by simpa using hg)
        exact key _ _ i hi hlen hz
      rw [← htm', (foldl_set _ _ _ t).2 hnot]
      exact hv0
  -- the assignments, the round's beginning, the body
  refine roundIn_of_wpIn trivial ?_
  have hA := hcon { cx0 (lendX cx s.st μ H false) stC (muC H μ) w with ro := some l } (muC H μ) { tmps := tm, defers := [] } w hstart
  refine wpIn_mono (show lp.assign.wpIn ((FF cx.ro).inRound l) 0 P _ _ _ from hA) fun e a1 w1 hq => ?_
  have hnorm : e = .normal := by
    cases e with
    | normal => rfl
    | outgrown => exact hq.elim
    | panic c => obtain ⟨_, _, _, _, _, hq, _⟩ := hq; exact hq
    | _ => obtain ⟨_, _, _, hq, _⟩ := hq; exact hq
  subst hnorm
  obtain ⟨μ1, s1, hr1, _, hB⟩ := hq
  have hw1 : w1.heap[l]? = some (.loop { state := .ready, pending := none, fn := lp.fn, tmps := tm0, params := lp.ps, assign := lp.assign, body := lp.body, defers := D }) := (hr1.st.keep l hll hlA).trans q1
  refine ⟨_, run_beginRound hw1 rfl, ?_⟩
  generalize hbusy : (({ state := .busy, pending := none, fn := lp.fn, tmps := tm0, params := lp.ps, assign := lp.assign, body := lp.body, defers := D } : Loop)) = busy
  have hs1 : Shut (fun b => b = l) w1 (w1.putObj l (.loop busy)) := Shut.put _ rfl hw1 rfl
  have hl1 := lt_of_heap hw1
  have hr2 : Rel lp.N { ({ cx0 (lendX cx s.st μ H false) stC (muC H μ) w with ro := some l } : Cx) with w0 := w.putObj l (.loop busy) } μ1 s1 a1 (w1.putObj l (.loop busy)) := by
    have hst2 := hr1.st.shut (w0 := w.putObj l (.loop busy)) hs1 (fun x k1 b m1 h1 h2 _ hz => (hr1.st.out x k1 b m1 h1 h2).1 (by rw [hz]; exact hlX)) ⟨rfl, rfl, rfl⟩ fun b hb hnA => by
      by_cases e : b = l
      · subst e; rw [World.putObj_heap_same hl1, World.putObj_heap_same hll]
      · rw [World.putObj_heap_other e, World.putObj_heap_other e]; exact hr1.st.keep b hb hnA
    refine { st := hst2, nd := ?_, sz := hr1.sz, fr := fun t g hg => let ⟨v, hv, hrv⟩ := hr1.fr t g hg; ⟨v, hv, hrv.shut hs1⟩ }
    refine DfRel.shut hr1.nd hs1 fun d hd D' e hz => ?_
    subst hz
    have key : ∀ {ds : List Deferred} {gs : List G} {O : Nat → Prop} {base : Nat}, DfRel O base w1 μ1 ds gs → d ∈ ds → ∃ x, w1.heap[D']? = some (.deferred x) := by
      intro ds gs O base hdf
      induction hdf with
      | nil => intro h; cases h
      | mark _ _ _ h4 _ _ ih =>
        intro hd
        rcases List.mem_cons.1 hd with rfl | hd
        · cases e; exact ⟨_, h4⟩
        · exact ih hd
      | clo _ _ ih =>
        intro hd
        rcases List.mem_cons.1 hd with rfl | hd
        · cases e
        · exact ih hd
    obtain ⟨x, hx⟩ := key hr1.nd hd
    rw [hw1] at hx; cases hx
  refine wpIn_mono (show lp.body.wpIn ((FF cx.ro).inRound l) 0 P _ _ _ from hB _ μ1 a1 _ hr2) fun e a3 w3 hq => ?_
  -- the round's end
  have fin : ∀ (μ3 : Mu) (s3 : St) (j : Option Code), RelSt { ({ cx0 (lendX cx s.st μ H false) stC (muC H μ) w with ro := some l } : Cx) with w0 := w.putObj l (.loop busy) } μ3 s3.st w3 → (∃ st', SubSt s3.st st' ∧ Q j st') →
      ∃ v w', (Instr.endRound l j).run P w3 = .ok v w' ∧ T (.returned v) w' := by
    rintro μ3 s3 j hr3 ⟨st', hsub, hQ⟩
    have hw3 : w3.heap[l]? = some (.loop busy) := (hr3.keep l hll hlA).trans (World.putObj_heap_same hll)
    have hl3 := lt_of_heap hw3
    refine ⟨_, _, run_endRound j hw3, ?_⟩
    have hr3 := hr3.sub hsub
    have hs3 : Shut (fun b => b = l) w3 (w3.putObj l (.loop { state := .ready, pending := none, fn := lp.fn, tmps := tm0, params := lp.ps, assign := lp.assign, body := lp.body, defers := D })) := Shut.put _ rfl hw3 rfl
    have hr4 := (hr3.shut (w0 := w) hs3 (fun x k1 b m1 h1 h2 _ hz => (hr3.out x k1 b m1 h1 h2).1 (by rw [hz]; exact hlX)) ⟨rfl, rfl, rfl⟩ fun b hb hnA => by
      by_cases e : b = l
      · subst e; rw [World.putObj_heap_same hl3]; exact q1.symm
      · rw [World.putObj_heap_other e, hr3.keep b hb hnA]; exact World.putObj_heap_other e).ro none
    have := hT j st' μ3 _ hQ hr4 D tm0 (World.putObj_heap_same hl3)
    rw [putObj_twice] at this
    rw [← hbusy]
    exact this
  cases e with
  | normal => obtain ⟨μ3, s3, hr3, _, hq⟩ := hq; exact fin μ3 s3 none hr3.st hq
  | ret => obtain ⟨μ3, s3, hr3, _, hq⟩ := hq; exact fin μ3 s3 (some .ret) hr3.st hq
  | exit id => obtain ⟨μ3, s3, hr3, _, hq⟩ := hq; exact fin μ3 s3 (some (.exit id)) hr3.st hq
  | goto t => obtain ⟨_, _, _, _, _, _, hq⟩ := hq; exact hq.elim
  | panic c => obtain ⟨_, _, _, _, _, _, _, _, hq⟩ := hq; exact hq.elim
  | outgrown => exact hq.elim

theorem GL.yld {x : Operand} {xs : Array Operand} {ts : Array TypeId} {gs gs' cells' : List G} {stC : List (Nat × Blk)} {Q : Option Code → List (Nat × Blk) → Prop} {h : Nat} {k : Blk} {lp : Lp} (H bk : List Nat) (hx : ev s x = some (.yld h)) (hxs : evA s xs.toList = some gs) (hk : sget s.st h = some k) (hlp : k.lp = some lp)
    (hpend : lp.pend = none) (hh : idxH H h = none) (hv : lendG.go H [] gs = some gs') (hc : lendG.go H [] k.cells = some cells') (hl : lendSt H [] s.st H 0 = some stC) (hnd : ndB H = true) (hps : gs'.length = lp.ps.size) (hpn : ndB lp.ps.toList = true) (hpl : lp.ps.toList.all (Nat.blt · lp.N) = true)
    (hcon : GY P lp cells' gs' stC Q) (hw : wants ops s guard = some true) (hN : Nat.blt d N = true)
    (hres : ∀ j st', Q j st' → ∃ s2, backS false s H st' bk = some s2 ∧ ∃ k2, sget s2.st h = some k2 ∧ k2.lp = some lp ∧ ∃ b, j.isNone = b ∧ GL P N cx ops R rest (({ s2 with st := sset s2.st h { k2 with lp := some { lp with pend := j } } } : St).put d (.val (.bool b)))) :
    GL P N cx ops R (⟨some d, .call ⟨.value x, xs, ts⟩, ty, pos, after, guard⟩ :: rest) s := by
  intro μ a w hr
  unfold wpListIn
  rw [if_pos (wants_spec hr hw)]
  refine ⟨fun _ _ => trivial, ?_⟩
  rw [Oper.semAt_eq _ _ _ (fun _ h => by cases h)]
  obtain ⟨l, m, hm, hlpr⟩ := hr.loopAt hk hlp
  obtain ⟨e1, e2⟩ := evA_get hxs
  have hls : lendSt H (lendV s.st H false) s.st H 0 = some stC := hl
  have hxv : a.eval x = .func (.yield l) #[] #[] := by
    have hv := hr.ev hx
    generalize a.eval x = v at hv
    cases hv with
    | imm h => cases h
    | yld _ b m' hm' => rw [hm] at hm'; cases hm'; rfl
  obtain ⟨tm0, D, q1, hround⟩ := round_core (P := P) (vs := xs.toList.map a.eval) hr hk hlp hpend hm H hh hv hc hl hnd hps hpn hpl (by simp [e1]) (fun j g v hg hv => by
    obtain ⟨x, hxj, he⟩ := e2 j g hg
    rw [List.getElem?_map, hxj] at hv
    cases hv
    exact hr.ev he) hcon (T := fun
      | .returned v, w'' => wpListIn (FF cx.ro) 0 P ops (lift N cx R) rest (a.put (some d) v) w''
      | .panicked chain, w'' => lift N cx R (.panic chain) a w''
      | .outgrown, _ => LetsOut (lift N cx R)) (by
    intro j st' μ'' w3 hQ hC D tm hw3
    obtain ⟨s2, hb, k2, hk2, hk2l, b0, hb0, hgl⟩ := hres j st' hQ
    subst hb0
    obtain ⟨r1, _, _, _⟩ := back_rel hr hls (ndB_spec hnd) hC hb
    have hm2 : muB μ μ'' st' bk h = some (l, m) := by
      unfold muB
      have hbk : bkI st' bk h = none := by
        unfold backS at hb
        cases hok : bkOk s H st' bk && s.df.all (fun g => !(anyH (deads st' H 0) g)) with
        | false => rw [hok] at hb; cases hb
        | true =>
          simp only [Bool.and_eq_true] at hok
          cases hI : bkI st' bk h with
          | none => rfl
          | some j' =>
            rcases (bkOk_row hok.1 hI).2.2.2 with ⟨_, e⟩ | ⟨_, _, e | e⟩
            · exact absurd (mem_of_idx e) (idxH_none hh)
            · exact absurd e (idxH_none hh)
            · rw [(fresh_spec e).1] at hk; cases hk
      rw [hbk]
      exact hm
    have r2 := r1.setLoop hk2 hk2l hm2 j (D := D) (vs := tm) (by rw [hpend]; exact hw3)
    exact hgl _ _ _ (r2.put (by simpa [Nat.blt_eq] using hN) (.imm (.val _))))
  have hrun : (execOp a.eval ⟨some d, .call ⟨.value x, xs, ts⟩, ty, pos, after, guard⟩).run P w = .ok (.round l lp.fn ((lp.ps.zip (xs.toList.map a.eval).toArray).foldl (fun tmps (t, a) => tmps.setIfInBounds t a) tm0) lp.assign lp.body) w := by
    have e : xs.map a.eval = (xs.toList.map a.eval).toArray := by rw [← Array.toList_map]
    have hy := run_yield (P := P) (args := (xs.toList.map a.eval).toArray) q1 (by
      have := (lendG_go hv).1
      simp only [List.size_toArray, List.length_map]
      omega)
    simp [execOp, resolve, invoke, Deferred.ofValue, hxv, e, hy]
  rw [hrun]
  exact ⟨(fun h => by cases h), hround⟩
end
end Go.AM
