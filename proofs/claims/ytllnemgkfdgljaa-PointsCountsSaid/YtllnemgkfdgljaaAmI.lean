/-
  AM, part I: append.
-/
import Derived.Test.YtllnemgkfdgljaaAmH
set_option linter.unusedSectionVars false
set_option linter.unusedSimpArgs false
set_option linter.unusedVariables false
namespace Go.AM

def immGs : List G → Option (List G × Bool)
  | [] => some ([], true)
  | g :: r => match immG g, immGs r with
    | some (g', f), some (r', f') => some (g' :: r', f && f')
    | _, _ => none

/-- What is appended: its cells, how many elements, are they fresh? -/
def gsrc (st : List (Nat × Blk)) (sz : Nat) : G → Option (List G × Nat × Bool)
  | .sl m cs => some (cs, m, false)
  | .fr (.sl m cs) => some (cs, m, true)
  | .osl h2 _ off m => match sget st h2 with
    | some k2 => match k2.lp with
      | some _ => none
      | none => match k2.pure with
        | true => some ((k2.cells.drop off).take (m * sz), m, k2.fresh)
        | false => match immGs ((k2.cells.drop off).take (m * sz)) with
          | some (l, f) => some (l, m, f)
          | none => none
    | none => none
  | .val (.slice none 0 0) => some ([], 0, true)
  | _ => none

theorem immGs_get : ∀ {gs gs' : List G} {f : Bool}, immGs gs = some (gs', f) → gs'.length = gs.length ∧ ∀ (j : Nat) (g' : G), gs'[j]? = some g' → ∃ g f', gs[j]? = some g ∧ immG g = some (g', f') ∧ (f = true → f' = true)
  | [], _, _, h => by cases h; exact ⟨rfl, fun j g h => by simp at h⟩
  | g :: r, gs', f, h => by
    simp only [immGs] at h
    cases h1 : immG g with
    | none => rw [h1] at h; cases h
    | some x =>
      obtain ⟨g1, f1⟩ := x
      rw [h1] at h
      cases h2 : immGs r with
      | none => rw [h2] at h; cases h
      | some y =>
        obtain ⟨r1, f2⟩ := y
        rw [h2] at h
        cases h
        obtain ⟨h3, h4⟩ := immGs_get h2
        refine ⟨by simp [h3], fun j g' hg' => ?_⟩
        cases j with
        | zero => simp only [List.getElem?_cons_zero, Option.some.injEq] at hg'; subst hg'; exact ⟨g, f1, rfl, h1, fun h => by simp at h; exact h.1⟩
        | succ j =>
          simp only [List.getElem?_cons_succ] at hg' ⊢
          obtain ⟨g2, f', e1, e2, e3⟩ := h4 j g' hg'
          exact ⟨g2, f', e1, e2, fun h => by simp at h; exact e3 h.2⟩

section
variable {P : Program} {N : Nat} {cx : Cx} {s : St}

theorem Rel.src {μ : Mu} {a : Act} {w : World} (hr : Rel N cx μ s a w) {y : Operand} {gy : G} {m sz : Nat} {newsG : List G} {f : Bool} (hy : AM.ev s y = some gy) (hs : gsrc s.st sz gy = some (newsG, m, f))
    (hl : newsG.length = m * sz) (hone : ∀ g, g ∈ newsG → g.one = true) :
    ((∃ o c, a.eval y = .slice o 0 c) ∧ m = 0) ∨ ∃ (b off c : Nat) (news : List Value), a.eval y = .slice (some ⟨b, off, none⟩) m c ∧ news.length = m * sz ∧ (∀ (j : Nat) (u : Value), news[j]? = some u → w.cell? ⟨b, off + j, none⟩ = some u) ∧ (∀ u ∈ news, u.oneCell' = true) ∧
      (∀ (j : Nat) (g : G), newsG[j]? = some g → ∃ u, news[j]? = some u ∧ RepI (bif f then Old (cx.O s.st μ) cx.base else cx.O s.st μ) w g u) ∧
      (∀ h k m', sget s.st h = some k → μ h = some (b, m') → gy.hasH h = true) := by
  have hv := hr.ev hy
  generalize a.eval y = v at hv
  have imm : ∀ (O : Nat → Prop) (n : Nat) (cs : List G), cs.length = n * sz → (∀ g, g ∈ cs → g.one = true) → RepI O w (.sl n cs) v → (∀ b, ¬ O b → ¬ cx.O s.st μ b) →
      ((∃ o c, v = .slice o 0 c) ∧ n = 0) ∨ ∃ (b off c : Nat) (news : List Value), v = .slice (some ⟨b, off, none⟩) n c ∧ news.length = n * sz ∧ (∀ (j : Nat) (u : Value), news[j]? = some u → w.cell? ⟨b, off + j, none⟩ = some u) ∧ (∀ u ∈ news, u.oneCell' = true) ∧
      (∀ (j : Nat) (g : G), cs[j]? = some g → ∃ u, news[j]? = some u ∧ RepI O w g u) ∧ ¬ cx.O s.st μ b := by
    intro O n cs hl hone h hO
    cases h with
    | nil => exact .inl ⟨⟨none, 0, rfl⟩, rfl⟩
    | emp o c => exact .inl ⟨⟨some o, c, rfl⟩, rfl⟩
    | sl _ _ b off cap us hn hOb hb hc hrr =>
      refine .inr ⟨b, off, cap, (List.range cs.length).map us, rfl, by simp [hl], ?_, ?_, ?_, hO b hOb⟩
      · intro j u hu
        rw [List.getElem?_map] at hu
        cases hj : (List.range cs.length)[j]? with
        | none => rw [hj] at hu; cases hu
        | some i =>
          rw [hj] at hu
          have hjl := (List.getElem?_eq_some_iff.1 hj).1
          rw [List.length_range] at hjl
          rw [List.getElem?_range hjl] at hj
          cases hj
          cases hu
          exact hc j hjl
      · intro u hu
        obtain ⟨j, hj, rfl⟩ := List.mem_map.1 hu
        rw [List.mem_range] at hj
        exact (hrr j _ (List.getElem?_eq_getElem hj)).one (hone _ (List.getElem_mem hj))
      · intro j g hg
        have hj := (List.getElem?_eq_some_iff.1 hg).1
        exact ⟨us j, by rw [List.getElem?_map, List.getElem?_range hj]; rfl, hrr j g hg⟩
  cases gy with
  | sl n cs =>
    cases hs
    cases hv with
    | imm h =>
      rcases imm _ _ _ hl hone h (fun _ h => h) with h | ⟨b, off, c, news, h1, h2, h3, h4, h5, h6⟩
      · exact .inl h
      · exact .inr ⟨b, off, c, news, h1, h2, h3, h4, h5, fun h k m' h7 h8 => absurd (.inr ⟨h, k, m', h7, h8⟩) h6⟩
  | fr g =>
    cases hv with
    | imm h => cases h
    | fr h =>
      cases g with
      | sl n cs =>
        cases hs
        rcases imm _ _ _ hl hone h (fun _ hn ho => hn (.inr ho)) with h | ⟨b, off, c, news, h1, h2, h3, h4, h5, h6⟩
        · exact .inl h
        · exact .inr ⟨b, off, c, news, h1, h2, h3, h4, h5, fun h k m' h7 h8 => absurd (.inr ⟨h, k, m', h7, h8⟩) h6⟩
      | _ => cases hs
  | val u =>
    cases hv with
    | imm h =>
      cases h
      cases v with
      | slice b n c => cases b with
        | none => cases n with
          | zero => cases c with
            | zero => cases hs; exact .inl ⟨⟨none, 0, rfl⟩, rfl⟩
            | succ c => cases hs
          | succ n => cases hs
        | some b => cases hs
      | _ => cases hs
  | osl h2 sz2 off n =>
    simp only [gsrc] at hs
    cases hk : sget s.st h2 with
    | none => rw [hk] at hs; cases hs
    | some k2 =>
      rw [hk] at hs
      dsimp only at hs
      cases hlp2 : k2.lp with
      | some lp => rw [hlp2] at hs; cases hs
      | none =>
      rw [hlp2] at hs
      dsimp only at hs
      have own : ∀ b m0 cap, v = .slice (some ⟨b, off, none⟩) n cap → μ h2 = some (b, m0) → (∀ b off c, v = .slice (some ⟨b, off, none⟩) n c → n = m) →
          ∃ (b off c : Nat) (news : List Value), v = .slice (some ⟨b, off, none⟩) m c ∧ news.length = m * sz ∧ (∀ (j : Nat) (u : Value), news[j]? = some u → w.cell? ⟨b, off + j, none⟩ = some u) ∧ (∀ u ∈ news, u.oneCell' = true) ∧
            (∀ (j : Nat) (g : G), newsG[j]? = some g → ∃ u, news[j]? = some u ∧ RepI (bif f then Old (cx.O s.st μ) cx.base else cx.O s.st μ) w g u) ∧
            (∀ h k m', sget s.st h = some k → μ h = some (b, m') → (G.osl h2 sz2 off n).hasH h = true) := by
        intro b m0 cap hv hm hnm
        obtain rfl := hnm b off cap hv
        obtain ⟨cs, c1, c2, c3, c4, c6, c5⟩ := hr.own hk hm hlp2
        have rd : ∀ (j : Nat) (g : G), newsG[j]? = some g → ∃ u, cs[off + j]? = some u ∧ RepI (bif f then Old (cx.O s.st μ) cx.base else cx.O s.st μ) w g u := by
          intro j g hg
          cases hp : k2.pure with
          | true =>
            rw [hp] at hs
            cases hs
            rw [List.getElem?_take] at hg
            split at hg
            · rw [List.getElem?_drop] at hg
              obtain ⟨u, hu, hru⟩ := c5 _ g hg
              unfold RepC at hru
              rw [hp] at hru
              exact ⟨u, hu, hru⟩
            · cases hg
          | false =>
            rw [hp] at hs
            dsimp only at hs
            cases hi : immGs ((k2.cells.drop off).take (n * sz)) with
            | none => rw [hi] at hs; cases hs
            | some x =>
              obtain ⟨l, f0⟩ := x
              rw [hi] at hs
              cases hs
              obtain ⟨_, h4⟩ := immGs_get hi
              obtain ⟨g0, f', e1, e2, e3⟩ := h4 j g hg
              rw [List.getElem?_take] at e1
              split at e1
              · rw [List.getElem?_drop] at e1
                obtain ⟨u, hu, hru⟩ := c5 _ g0 e1
                unfold RepC at hru
                rw [hp] at hru
                exact ⟨u, hu, (immG_spec hru e2).flag e3⟩
              · cases e1
        have hall : ∀ j, j < n * sz → ∃ u, cs[off + j]? = some u ∧ u.oneCell' = true := by
          intro j hj
          have hj' : j < newsG.length := by omega
          obtain ⟨u, hu, hru⟩ := rd j _ (List.getElem?_eq_getElem hj')
          exact ⟨u, hu, hru.one (hone _ (List.getElem_mem hj'))⟩
        have hlen : n * sz = 0 ∨ off + n * sz ≤ cs.size := by
          rcases Nat.eq_zero_or_pos (n * sz) with h | h
          · exact .inl h
          · obtain ⟨u, hu, _⟩ := hall (n * sz - 1) (by omega)
            have := (Array.getElem?_eq_some_iff.1 hu).1
            exact .inr (by omega)
        refine ⟨b, off, cap, (cs.toList.drop off).take (n * sz), hv, ?_, ?_, ?_, ?_, ?_⟩
        · rw [List.length_take, List.length_drop, Array.length_toList]; omega
        · intro j u hu
          rw [List.getElem?_take] at hu
          split at hu
          · rw [List.getElem?_drop, Array.getElem?_toList] at hu
            rw [cell_of c1]; exact hu
          · cases hu
        · intro u hu
          obtain ⟨j, hj⟩ := List.getElem?_of_mem hu
          rw [List.getElem?_take] at hj
          split at hj
          · rename_i hlt
            rw [List.getElem?_drop, Array.getElem?_toList] at hj
            obtain ⟨u', hu', ho⟩ := hall j hlt
            rw [hj] at hu'
            cases hu'
            exact ho
          · cases hj
        · intro j g hg
          obtain ⟨u, hu, hru⟩ := rd j g hg
          have hj : j < n * sz := by have := (List.getElem?_eq_some_iff.1 hg).1; omega
          exact ⟨u, by rw [List.getElem?_take, if_pos hj, List.getElem?_drop, Array.getElem?_toList]; exact hu, hru⟩
        · intro h k m' h7 h8
          have := hr.st.inj h2 h k2 k b m0 m' hk h7 hm h8
          subst this
          simp [G.hasH]
      have hnm : n = m := by
        cases hp : k2.pure with
        | true => rw [hp] at hs; cases hs; rfl
        | false =>
          rw [hp] at hs
          dsimp only at hs
          cases hi : immGs ((k2.cells.drop off).take (n * sz)) with
          | none => rw [hi] at hs; cases hs
          | some x => rw [hi] at hs; cases hs; rfl
      cases hv with
      | imm h => cases h
      | onil _ _ hm => exact .inl ⟨⟨none, 0, rfl⟩, hnm.symm⟩
      | osl _ _ _ _ b m0 cap hm hn hc => exact .inr (own b m0 cap rfl hm fun _ _ _ _ => hnm)
      | ozero _ _ off0 b m0 hm _ =>
        subst hnm
        refine .inr ⟨b, off0, 0, [], rfl, by simp, fun j u hu => by simp at hu, fun u hu => (by cases hu), fun j g hg => ?_, ?_⟩
        · have := (List.getElem?_eq_some_iff.1 hg).1
          omega
        · intro h k m' h7 h8
          have := hr.st.inj h2 h k2 k b off m' hk h7 hm h8
          subst this
          simp [G.hasH]
  | _ => cases hs

/-! ### Behind a reallocation: what named the block is forgotten -/
def killG (h : Nat) (g : G) : G := bif g.hasH h then .any else g
def killFr (h : Nat) : List (Nat × G) → List (Nat × G)
  | [] => []
  | (t, g) :: r => (t, killG h g) :: killFr h r
def killSt (h : Nat) : List (Nat × Blk) → List (Nat × Blk)
  | [] => []
  | (x, k) :: r => (x, bif k.pure then k else { k with cells := k.cells.map (killG h) }) :: killSt h r

theorem get_killFr {h : Nat} {fr : List (Nat × G)} {t : Nat} {g : G} (hg : get (killFr h fr) t = some g) : ∃ g0, get fr t = some g0 ∧ g = killG h g0 := by
  induction fr with
  | nil => cases hg
  | cons x r ih =>
    obtain ⟨k, g'⟩ := x
    simp only [killFr, get_cons] at hg ⊢
    cases hb : Nat.beq k t with
    | true => rw [hb] at hg; cases hg; exact ⟨g', rfl, rfl⟩
    | false => rw [hb] at hg; exact ih hg
theorem sget_killSt {h : Nat} {st : List (Nat × Blk)} {t : Nat} {k : Blk} (hg : sget (killSt h st) t = some k) : ∃ k0, sget st t = some k0 ∧ k = bif k0.pure then k0 else { k0 with cells := k0.cells.map (killG h) } := by
  induction st with
  | nil => cases hg
  | cons x r ih =>
    obtain ⟨y, k'⟩ := x
    simp only [killSt, sget_cons] at hg ⊢
    cases hb : Nat.beq y t with
    | true => rw [hb] at hg; cases hg; exact ⟨k', rfl, rfl⟩
    | false => rw [hb] at hg; exact ih hg

theorem killG_spec {O : Nat → Prop} {base : Nat} {w : World} {μ μ' : Mu} {h : Nat} {g : G} {v : Value} (hv : RepV O base w μ g v) (hμ : ∀ k, k ≠ h → μ' k = μ k) : RepV O base w μ' (killG h g) v := by
  unfold killG
  cases hh : g.hasH h with
  | true => exact .imm (.any _)
  | false => exact hv.remap fun k hk => hμ k fun e => by subst e; rw [hh] at hk; cases hk

def killB (h : Nat) (k : Blk) : Blk := bif k.pure then k else { k with cells := k.cells.map (killG h) }
theorem RelBlk.kill {O : Nat → Prop} {base : Nat} {w : World} {μ μ' : Mu} {k : Blk} {x : Option (Nat × Nat)} (hb : RelBlk O base w μ k x) (h : Nat) (hμ : ∀ y, y ≠ h → μ' y = μ y) : RelBlk O base w μ' (killB h k) x := by
  unfold killB
  cases hp : k.pure with
  | true => exact hb.remap fun hp' => by rw [hp] at hp'; cases hp'
  | false =>
    simp only [cond_false]
    cases x with
    | none => obtain ⟨h1, h2⟩ := hb; exact ⟨by simp [h1], h2⟩
    | some bm =>
      obtain ⟨b, m⟩ := bm
      cases hl : k.lp with
      | none =>
        obtain ⟨cs1, h4, h5, h6, h7, h8, h9⟩ := hb.cells hl
        refine .mk rfl ⟨cs1, h4, h5, by simpa using h6, h7, h8, fun j g hg => ?_⟩
        dsimp only at hg
        rw [List.getElem?_map] at hg
        cases hg0 : k.cells[j]? with
        | none => rw [hg0] at hg; cases hg
        | some g0 =>
          rw [hg0] at hg
          cases hg
          obtain ⟨v, hv, hrv⟩ := h9 j g0 hg0
          refine ⟨v, hv, ?_⟩
          unfold RepC at hrv ⊢
          rw [hp] at hrv
          simp only
          exact killG_spec hrv hμ
      | some lp =>
        unfold RelBlk at hb ⊢
        simp only [hl] at hb ⊢
        obtain ⟨D, vs, h1, h2, h3, h4, h5⟩ := hb
        refine ⟨D, vs, h1, h2, h3, rfl, fun j t g ht hg => ?_⟩
        dsimp only at hg
        rw [List.getElem?_map] at hg
        cases hg0 : k.cells[j]? with
        | none => rw [hg0] at hg; cases hg
        | some g0 =>
          rw [hg0] at hg
          cases hg
          obtain ⟨v, hv, hrv⟩ := h5 j t g0 ht hg0
          exact ⟨v, hv, killG_spec hrv hμ⟩

/-- Handle 'h' has its cells in another block now (or in the same): nothing else is owned anew. -/
theorem Rel.regrow {μ : Mu} {a : Act} {w w' : World} (hr : Rel N cx μ s a w) {h : Nat} {k k' : Blk} {b' m' : Nat} {cs' : Array Value} (hk : sget s.st h = some k)
    (hnew : (∃ m, μ h = some (b', m)) ∨ w.heap.size ≤ b') (hb' : w'.heap[b']? = some (.cells cs' k'.ety (0, 0))) (hs : cs'.size = m') (hsz : w.heap.size ≤ w'.heap.size)
    (hoth : ∀ b, b < w.heap.size → (∀ m, μ h ≠ some (b, m)) → w'.heap[b]? = w.heap[b]?) (hos : w'.os = w.os) (htape : w'.tape = w.tape) (hout : w'.output = w.output)
    (hmine : k'.mine = true → k.mine = true) (hpure : k'.pure = true) (hl : k'.cells.length ≤ m') (hbt : k'.sz ≠ 0 → m' ≤ maxLen * k'.sz)
    (hc : ∀ (j : Nat) (g : G), k'.cells[j]? = some g → ∃ v, cs'[j]? = some v ∧ RepC (cx.O s.st μ) cx.base w μ k' g v) (W : List Nat) (hW : W.contains h = true) (hlp : k'.lp = none) (hpn : pinned h = false) (hdf : dfNo h s.df = true) :
    Rel N cx (upd μ h (some (b', m'))) { fr := killFr h s.fr, st := (h, k') :: killSt h s.st, df := s.df } a w' ∧ Step W s.st μ ((h, k') :: killSt h s.st) (upd μ h (some (b', m'))) w w' := by
  have hO : ∀ b, b < w.heap.size → ¬ cx.O s.st μ b → ¬ cx.O ((h, k') :: killSt h s.st) (upd μ h (some (b', m'))) b := by
    intro b hb hn ho
    rcases ho with ho | ⟨x, k1, m, h1, h2⟩
    · exact hn (.inl ho)
    · by_cases e : x = h
      · subst e
        rw [upd_same] at h2
        cases h2
        rcases hnew with ⟨m0, h3⟩ | h3
        · exact hn (.inr ⟨x, k, m0, hk, h3⟩)
        · omega
      · rw [sget_cons_other _ _ e] at h1
        rw [upd_other e] at h2
        obtain ⟨k0, h3, _⟩ := sget_killSt h1
        exact hn (.inr ⟨x, k0, m, h3, h2⟩)
  have hkept : Kept (cx.O s.st μ) w w' := ⟨hsz, fun b hb hn => hoth b hb fun m hm => hn (.inr ⟨h, k, m, hk, hm⟩)⟩
  have hlt : ∀ x k1 b m, sget s.st x = some k1 → μ x = some (b, m) → b < w.heap.size := by
    intro x k1 b m h1 h2
    have := hr.st.blk x k1 h1
    rw [h2] at this
    obtain ⟨⟨o, h3⟩, _⟩ := this.heap
    exact lt_of_heap h3
  have hsep : ∀ x k1 b m, x ≠ h → sget s.st x = some k1 → μ x = some (b, m) → b ≠ b' := by
    intro x k1 b m hne h1 h2 e
    subst e
    rcases hnew with ⟨m0, h3⟩ | h3
    · exact hne (hr.st.inj x h k1 k b m m0 h1 hk h2 h3)
    · have := hlt x k1 b m h1 h2; omega
  refine ⟨{ st := { blk := ?_, inj := ?_, out := ?_, pin := ?_, xlt := hr.st.xlt, hb := Nat.le_trans hr.st.hb hsz, os := hos.trans hr.st.os, tape := htape.trans hr.st.tape, output := hout.trans hr.st.output, keep := ?_ }, nd := (hr.nd.mono hkept hO).remap (fun g hg y hy => upd_other fun e => by subst e; rw [dfNo_mem hdf hg] at hy; cases hy), sz := hr.sz, fr := ?_ }, ?_⟩
  · intro x k1 h1
    by_cases e : x = h
    · subst e
      rw [sget_cons_same] at h1
      cases h1
      rw [upd_same]
      refine .mk hlp ⟨cs', hb', hs, hl, fun hmn => ?_, hbt, fun j g hg => ?_⟩
      · rcases hnew with ⟨m0, h3⟩ | h3
        · have h4 := hr.st.blk x k hk
          rw [h3] at h4
          exact h4.heap.2 (hmine hmn)
        · have := hr.st.hb; omega
      · obtain ⟨v, hv, hrv⟩ := hc j g hg
        exact ⟨v, hv, (hrv.mono hkept hO).remap fun hp => by rw [hpure] at hp; cases hp⟩
    · rw [sget_cons_other _ _ e] at h1
      rw [upd_other e]
      obtain ⟨k0, h2, rfl⟩ := sget_killSt h1
      exact ((hr.st.blk x k0 h2).mono (fun b m hm => hoth b (hlt x k0 b m h2 hm) fun m0 hm0 => e (hr.st.inj x h k0 k b m m0 h2 hk hm hm0)) hkept hO).kill h fun y hy => upd_other hy
  · intro x x' k1 k2 b m m2 h1 h2 h3 h4
    by_cases e : x = h
    · by_cases e' : x' = h
      · rw [e, e']
      · subst e
        rw [upd_same] at h3
        cases h3
        rw [upd_other e'] at h4
        rw [sget_cons_other _ _ e'] at h2
        obtain ⟨k0, h5, _⟩ := sget_killSt h2
        exact absurd rfl (hsep x' k0 _ m2 e' h5 h4)
    · by_cases e' : x' = h
      · subst e'
        rw [upd_same] at h4
        cases h4
        rw [upd_other e] at h3
        rw [sget_cons_other _ _ e] at h1
        obtain ⟨k0, h5, _⟩ := sget_killSt h1
        exact absurd rfl (hsep x k0 _ m e h5 h3)
      · rw [upd_other e] at h3
        rw [upd_other e'] at h4
        rw [sget_cons_other _ _ e] at h1
        rw [sget_cons_other _ _ e'] at h2
        obtain ⟨k0, h5, _⟩ := sget_killSt h1
        obtain ⟨k0', h5', _⟩ := sget_killSt h2
        exact hr.st.inj x x' k0 k0' b m m2 h5 h5' h3 h4
  · intro x k1 b m h1 h2
    by_cases e : x = h
    · subst e
      rw [upd_same] at h2
      cases h2
      rcases hnew with ⟨m0, h3⟩ | h3
      · exact hr.st.out x k _ m0 hk h3
      · have := hr.st.hb
        exact ⟨fun hx => by have := hr.st.xlt _ hx; omega, .inl (by omega)⟩
    · rw [sget_cons_other _ _ e] at h1
      rw [upd_other e] at h2
      obtain ⟨k0, h5, _⟩ := sget_killSt h1
      exact hr.st.out x k0 b m h5 h2
  · intro x k1 h1 h2
    by_cases e : x = h
    · subst e; rw [hpn] at h2; cases h2
    · rw [sget_cons_other _ _ e] at h1
      rw [upd_other e]
      obtain ⟨k0, h5, _⟩ := sget_killSt h1
      exact hr.st.pin x k0 h5 h2
  · intro b hb hA
    rw [hoth b (by have := hr.st.hb; omega) fun m hm => ?_]
    · exact hr.st.keep b hb hA
    · obtain ⟨_, h1⟩ := hr.st.out h k b m hk hm
      rcases h1 with h1 | h1
      · omega
      · exact hA h1
  · intro t g hg
    obtain ⟨g0, h1, rfl⟩ := get_killFr hg
    obtain ⟨v, hv, hrv⟩ := hr.fr t g0 h1
    exact ⟨v, hv, killG_spec (hrv.mono hkept hO (Nat.le_refl _)) fun k hk => upd_other hk⟩
  · refine ⟨hsz, fun b hb hn => hoth b hb fun m hm => hn h k m (by simpa using hW) hk hm, fun x k1 b m hw h1 h2 => ?_⟩
    by_cases e : x = h
    · subst e
      rw [upd_same] at h2
      cases h2
      rcases hnew with ⟨m0, h3⟩ | h3
      · exact .inl ⟨x, k, m0, hw, hk, h3⟩
      · exact .inr h3
    · rw [sget_cons_other _ _ e] at h1
      rw [upd_other e] at h2
      obtain ⟨k0, h5, _⟩ := sget_killSt h1
      exact .inl ⟨x, k0, m, hw, h5, h2⟩

end
end Go.AM
