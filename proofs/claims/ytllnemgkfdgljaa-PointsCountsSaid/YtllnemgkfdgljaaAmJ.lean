/-
  AM, part J: append, the operation.
-/
import Derived.Test.YtllnemgkfdgljaaAmI
set_option linter.unusedSectionVars false
set_option linter.unusedSimpArgs false
set_option linter.unusedVariables false
namespace Go.AM

section
variable {P : Program} {N : Nat} {cx : Cx} {s : St}

theorem Rel.kill {μ : Mu} {a : Act} {w : World} (hr : Rel N cx μ s a w) (h : Nat) : Rel N cx μ { fr := killFr h s.fr, st := killSt h s.st, df := s.df } a w := by
  have hO : ∀ b, ¬ cx.O s.st μ b → ¬ cx.O (killSt h s.st) μ b := by
    rintro b hn (ho | ⟨x, k1, m, h1, h2⟩)
    · exact hn (.inl ho)
    · obtain ⟨k0, h3, _⟩ := sget_killSt h1
      exact hn (.inr ⟨x, k0, m, h3, h2⟩)
  refine { st := { blk := ?_, inj := ?_, out := ?_, pin := ?_, xlt := hr.st.xlt, hb := hr.st.hb, os := hr.st.os, tape := hr.st.tape, output := hr.st.output, keep := hr.st.keep }, nd := hr.nd.mono (Kept.refl _ _) (fun b _ => hO b), sz := hr.sz, fr := ?_ }
  · intro x k1 h1
    obtain ⟨k0, h2, rfl⟩ := sget_killSt h1
    exact ((hr.st.blk x k0 h2).mono (fun _ _ _ => rfl) (Kept.refl _ _) (fun b _ => hO b)).kill h fun _ _ => rfl
  · intro x x' k1 k2 b m m2 h1 h2 h3 h4
    obtain ⟨k0, h5, _⟩ := sget_killSt h1
    obtain ⟨k0', h5', _⟩ := sget_killSt h2
    exact hr.st.inj x x' k0 k0' b m m2 h5 h5' h3 h4
  · intro x k1 b m h1 h2
    obtain ⟨k0, h5, _⟩ := sget_killSt h1
    exact hr.st.out x k0 b m h5 h2
  · intro x k1 h1 h2
    obtain ⟨k0, h5, _⟩ := sget_killSt h1
    exact hr.st.pin x k0 h5 h2
  · intro t g hg
    obtain ⟨g0, h1, rfl⟩ := get_killFr hg
    obtain ⟨v, hv, hrv⟩ := hr.fr t g0 h1
    exact ⟨v, hv, killG_spec (hrv.mono (Kept.refl _ _) (fun b _ => hO b) (Nat.le_refl _)) fun k hk => rfl⟩

/-- The same cells, of which less is said. -/
theorem Rel.reblk {μ : Mu} {a : Act} {w : World} (hr : Rel N cx μ s a w) {h : Nat} {k k' : Blk} (hk : sget s.st h = some k) (he : k'.ety = k.ety) (hp : k'.pure = k.pure) (hmine : k'.mine = true → k.mine = true)
    (hf : k'.fresh = true → k.fresh = true) (hsz : k'.sz = k.sz) (hc : k'.cells = k.cells) (hlp : k.lp = none) (hlp' : k'.lp = none) : Rel N cx μ { fr := s.fr, st := (h, k') :: s.st, df := s.df } a w := by
  have key : ∀ x k1, sget ((h, k') :: s.st) x = some k1 → ∃ k0, sget s.st x = some k0 := by
    intro x k1 h1
    by_cases e : x = h
    · subst e; exact ⟨k, hk⟩
    · rw [sget_cons_other _ _ e] at h1; exact ⟨k1, h1⟩
  have hO : ∀ b, ¬ cx.O s.st μ b → ¬ cx.O ((h, k') :: s.st) μ b := by
    rintro b hn (ho | ⟨x, k1, m, h1, h2⟩)
    · exact hn (.inl ho)
    · obtain ⟨k0, h3⟩ := key x k1 h1
      exact hn (.inr ⟨x, k0, m, h3, h2⟩)
  refine { st := { blk := ?_, inj := ?_, out := ?_, pin := ?_, xlt := hr.st.xlt, hb := hr.st.hb, os := hr.st.os, tape := hr.st.tape, output := hr.st.output, keep := hr.st.keep }, nd := hr.nd.mono (Kept.refl _ _) (fun b _ => hO b), sz := hr.sz, fr := ?_ }
  · intro x k1 h1
    by_cases e : x = h
    · subst e
      rw [sget_cons_same] at h1
      cases h1
      have h3 := hr.st.blk x k hk
      cases hm : μ x with
      | none => rw [hm] at h3; obtain ⟨h3, _⟩ := h3; exact ⟨by rw [hc]; exact h3, hlp'⟩
      | some bm =>
        obtain ⟨b, m⟩ := bm
        rw [hm] at h3
        obtain ⟨cs1, h4, h5, h6, h7, h8, h9⟩ := h3.cells hlp
        refine .mk hlp' ⟨cs1, by rw [he]; exact h4, h5, by rw [hc]; exact h6, fun h => h7 (hmine h), by rw [hsz]; exact h8, fun j g hg => ?_⟩
        rw [hc] at hg
        obtain ⟨v, hv, hrv⟩ := h9 j g hg
        refine ⟨v, hv, ?_⟩
        have hrv' := hrv.mono (Kept.refl _ _) fun b _ => hO b
        unfold RepC at hrv' ⊢
        rw [hp]
        cases hpp : k.pure with
        | true => rw [hpp] at hrv'; exact hrv'.flag hf
        | false => rw [hpp] at hrv'; exact hrv'
    · rw [sget_cons_other _ _ e] at h1
      exact (hr.st.blk x k1 h1).mono (fun _ _ _ => rfl) (Kept.refl _ _) (fun b _ => hO b)
  · intro x x' k1 k2 b m m2 h1 h2 h3 h4
    obtain ⟨k0, h5⟩ := key x k1 h1
    obtain ⟨k0', h5'⟩ := key x' k2 h2
    exact hr.st.inj x x' k0 k0' b m m2 h5 h5' h3 h4
  · intro x k1 b m h1 h2
    obtain ⟨k0, h5⟩ := key x k1 h1
    exact hr.st.out x k0 b m h5 h2
  · intro x k1 h1 h2
    obtain ⟨k0, h5⟩ := key x k1 h1
    exact hr.st.pin x k0 h5 h2
  · intro t g hg
    obtain ⟨v, hv, hrv⟩ := hr.fr t g hg
    exact ⟨v, hv, hrv.mono (Kept.refl _ _) (fun b _ => hO b) (Nat.le_refl _)⟩

theorem sget_killSt_pure {h x : Nat} {st : List (Nat × Blk)} {k : Blk} (hk : sget st x = some k) (hp : k.pure = true) : sget (killSt h st) x = some k := by
  induction st with
  | nil => cases hk
  | cons y r ih =>
    obtain ⟨z, k'⟩ := y
    simp only [killSt, sget_cons] at hk ⊢
    cases hb : Nat.beq z x with
    | true => rw [hb] at hk; cases hk; simp [hp]
    | false => rw [hb] at hk; exact ih hk

variable {ty : TypeId} {pos : String} {after : Array Edge} {guard : Option (Nat × Bool)} {W : List Nat} {d : Nat}

theorem run_append_empty (w : World) (t ty e : TypeId) (i : TypeInfo) (ht : P.underlying t = some (.slice e)) (hi : P.info? e = some i) (b : Option Addr) (n cap : Nat) (hn : n ≤ cap) (b2 : Option Addr) (c2 : Nat) :
    (Builtin.append_ #[t, t] ty #[.slice b n cap, .slice b2 0 c2]).run P w = .ok (.slice b n cap) w := by
  have hf : (Builtin.firstCells i.size 0 (.slice b2 0 c2)).run P w = .ok #[] w := by
    cases b2 with
    | none => simp [Builtin.firstCells]
    | some a => simp [Builtin.firstCells, loadCells, loadCellsFrom]
  cases b with
  | none => simp [Builtin.append_, run_underlying ht, sizeOf, typeInfo, hi, Builtin.lenOf, hn, hf]
  | some a => simp [Builtin.append_, run_underlying ht, sizeOf, typeInfo, hi, Builtin.lenOf, hn, hf, storeCells]

theorem EF.append {t e : TypeId} {x y : Operand} {h sz n bt m : Nat} {k : Blk} {gy : G} {newsG : List G} {f : Bool} {z : Value} (hx : ev s x = some (.osl h sz 0 n)) (hy : ev s y = some gy) (hk : sget s.st h = some k)
    (hp : k.pure = true) (hety : k.ety = e) (hksz : k.sz = sz) (hfull : k.cells.length = n * sz) (hsrc : gsrc s.st sz gy = some (newsG, m, f)) (hlen : newsG.length = m * sz)
    (hone : ∀ g, g ∈ newsG → g.one = true) (hap : gy.hasH h = false) (ht : P.underlying t = some (.slice e)) (hi : (P.info? e).map (fun i => (i.zero, i.size, i.bytes)) = some (some z, sz, bt))
    (hzs : z.cells.size = sz) (hsz : 0 < sz) (hmax : n + m ≤ maxLen) (hbound : (n + m) * bt ≤ 140737488355328) (hW : W.contains h = true) (hlp : k.lp = none := by rfl) (hpn : pinned h = false := by rfl) (hdf : dfNo h s.df = true := by rfl) :
    Effect P W s ⟨some d, .call ⟨.builtin .append, #[x, y], #[t, t]⟩, ty, pos, after, guard⟩
      (· = { fr := (d, .osl h sz 0 (n + m)) :: killFr h s.fr, st := (h, { k with fresh := k.fresh && f, cells := k.cells ++ newsG }) :: killSt h s.st, df := s.df }) := by
  subst hety hksz
  refine ⟨(fun _ h => by cases h), ?_⟩
  intro N cx μ a w hr hN K Q hK
  obtain ⟨i, hi1, hi2⟩ := Option.map_eq_some_iff.1 hi
  simp only [Prod.mk.injEq] at hi2
  obtain ⟨hz, hs1, hb1⟩ := hi2
  -- the slice that is appended to
  have hv : (a.eval x = .slice none 0 0 ∧ n = 0 ∧ μ h = none ∧ k.cells = []) ∨
      ∃ b cap m0 cs, a.eval x = .slice (some ⟨b, 0, none⟩) n cap ∧ n ≤ cap ∧ μ h = some (b, m0) ∧ cap * k.sz = m0 ∧ w.heap[b]? = some (.cells cs k.ety (0, 0)) ∧ cs.size = m0 ∧ m0 ≤ maxLen * k.sz ∧
        ∀ (j : Nat) (g : G), k.cells[j]? = some g → ∃ v, cs[j]? = some v ∧ RepC (cx.O s.st μ) cx.base w μ k g v := by
    have hv := hr.ev hx
    generalize a.eval x = v at hv
    cases hv with
    | imm h => cases h
    | onil _ _ hm =>
      have := hr.st.blk h k hk
      rw [hm] at this
      exact .inl ⟨rfl, rfl, hm, this.1⟩
    | osl _ _ _ _ b m0 cap hm hn hc =>
      obtain ⟨cs, h1, h2, h3, h4, h5, h6⟩ := hr.own hk hm hlp
      exact .inr ⟨b, cap, m0, cs, rfl, hn, hm, by omega, h1, h2, h5 (by omega), h6⟩
    | ozero _ _ off0 b _ hm hpos => exact absurd hpos (Nat.lt_irrefl _)
  -- nothing is appended
  have idle : ∀ (b2 : Option Addr) (c2 : Nat), m = 0 → a.eval y = .slice b2 0 c2 → (Oper.wp P ⟨some d, .call ⟨.builtin .append, #[x, y], #[t, t]⟩, ty, pos, after, guard⟩ a w K Q) := by
    intro b2 c2 hm0 hyv
    subst hm0
    have hnil : newsG = [] := List.eq_nil_of_length_eq_zero (by simpa using hlen)
    subst hnil
    have hxv : ∃ b n' cap, a.eval x = .slice b n cap ∧ n ≤ cap ∧ n' = n ∧ RepV (cx.O s.st μ) cx.base w μ (.osl h k.sz 0 n) (.slice b n cap) := by
      have hv' := hr.ev hx
      rcases hv with ⟨h1, h2, _⟩ | ⟨b, cap, m0, cs, h1, h2, _⟩
      · subst h2; rw [h1] at hv' ⊢; exact ⟨none, 0, 0, rfl, Nat.le_refl _, rfl, hv'⟩
      · rw [h1] at hv' ⊢; exact ⟨_, n, cap, rfl, h2, rfl, hv'⟩
    obtain ⟨b, n', cap, h1, h2, rfl, h3⟩ := hxv
    have hrun := run_append_empty (P := P) w t ty k.ety i ht hi1 b n' cap h2 b2 c2
    unfold Oper.wp
    have : (execOp a.eval ⟨some d, .call ⟨.builtin .append, #[x, y], #[t, t]⟩, ty, pos, after, guard⟩).run P w = .ok (.value (.slice b n' cap)) w := by
      simp only [execOp, resolve, invoke, builtin, Sem.run_bind, Sem.run_pure, Result.andThen_ok, List.map_toArray, List.map_cons, List.map_nil, h1, hyv, hrun]
    rw [this]
    have hk2 := sget_killSt_pure (h := h) hk hp
    have hr2 := (hr.kill h).reblk (k' := { k with fresh := k.fresh && f, cells := k.cells ++ [] }) hk2 rfl rfl id (fun h => by simp at h; exact h.1) rfl (by simp) hlp hlp
    refine hK μ _ _ w (hr2.put (d := d) (g := .osl h k.sz 0 (n' + 0)) (hN d rfl) ?_) rfl ?_
    · have h4 : RepV (cx.O ((h, { k with fresh := k.fresh && f, cells := k.cells ++ [] }) :: killSt h s.st) μ) cx.base w μ (.osl h k.sz 0 n') (.slice b n' cap) := by
        cases h3 with
        | imm h => cases h
        | onil _ _ hm => exact .onil _ _ hm
        | osl _ _ _ _ b m0 cap hm hn hc => exact .osl _ _ _ _ b m0 cap hm hn hc
        | ozero _ _ off0 b _ hm hpos => exact .ozero _ _ off0 b _ hm hpos
      exact h4
    · refine ⟨Nat.le_refl _, fun _ _ _ => rfl, fun x k1 b1 m1 hw h1 h2 => ?_⟩
      by_cases e : x = h
      · subst e; exact .inl ⟨x, k, m1, hw, hk, h2⟩
      · have h1' : sget (killSt h s.st) x = some k1 := by rw [← sget_cons_other _ _ e]; exact h1
        obtain ⟨k0, h5, _⟩ := sget_killSt h1'
        exact .inl ⟨x, k0, m1, hw, h5, h2⟩
  rcases hr.src hy hsrc hlen hone with ⟨⟨o2, c2, h1⟩, h2⟩ | ⟨b2, off2, c2, news, e1, e2, e3, e4, e5, e6⟩
  · exact idle o2 c2 h2 h1
  rcases Nat.eq_zero_or_pos m with hm0 | hm0
  · subst hm0
    exact idle _ c2 rfl e1
  -- something is appended
  have hcell : ∀ j u, news[j]? = some u → w.cell? ((⟨b2, off2, none⟩ : Addr).add j) = some u := fun j u hu => by rw [Addr.add_off]; exact e3 j u hu
  -- as the kit's law wants it
  have hown : ∃ v xs, a.eval x = v ∧ w.ownsRow 0 k.ety k.sz v n xs ∧ (∀ (j : Nat) (g : G), k.cells[j]? = some g → ∃ v, xs[j]? = some v ∧ RepC (cx.O s.st μ) cx.base w μ k g v) := by
    rcases hv with ⟨h1, h2, h3, h4⟩ | ⟨b, cap, m0, cs, h1, h2, h3, h4, h6, h7, h8, h9⟩
    · subst h2
      exact ⟨_, [], h1, World.ownsRow_nil w 0 k.ety k.sz, fun j g hg => by rw [h4] at hg; simp at hg⟩
    · refine ⟨_, cs.toList.take (n * k.sz), h1, ⟨?_, .inr ⟨b, cap, cs, rfl, Nat.zero_le _, h6, h2, ?_, by rw [h7, h4], rfl⟩⟩, fun j g hg => ?_⟩
      · rw [List.length_take, Array.length_toList, h7, ← h4]
        exact Nat.min_eq_left (Nat.mul_le_mul_right _ h2)
      · subst h4
        exact Nat.le_of_mul_le_mul_right h8 hsz
      · obtain ⟨v, hv, hrv⟩ := h9 j g hg
        have hj : j < n * k.sz := by have := (List.getElem?_eq_some_iff.1 hg).1; omega
        exact ⟨v, by rw [List.getElem?_take, if_pos hj, Array.getElem?_toList]; exact hv, hrv⟩
  obtain ⟨v, xs, h1, h2, h5⟩ := hown
  have law := run_append_own (P := P) w 0 t ty k.ety i z k.sz bt ht hi1 hz hs1 hb1 hzs hsz v n xs h2 ⟨b2, off2, none⟩ m c2 news e2 hcell e4 hmax hbound (Nat.zero_le _)
  rw [← h1, ← e1] at law
  obtain ⟨v', w', hrun, ho, hgrow, _⟩ := law
  -- which block
  have hblock : ∃ g cap, v' = .slice (some ⟨g, 0, none⟩) (n + m) cap ∧ ((∃ m0, μ h = some (g, m0)) ∨ w.heap.size ≤ g) := by
    have hmm : n + m ≤ 9223372036854775807 := by unfold maxLen at hmax; omega
    rcases hv with ⟨q1, q2, q3, q4⟩ | ⟨b, cap, m0, cs, q1, q2, q3, q4, q6, q7, q8, q9⟩
    · subst q2
      have hr2 := run_append_nil (P := P) w t ty k.ety i z ht hi1 hz ⟨b2, off2, none⟩ m c2 news (by rw [hs1]; exact e2) hcell hm0 (by omega) (by rw [hb1]; simp only [Nat.zero_add] at hbound; omega)
      rw [q1, e1, hr2] at hrun
      injection hrun with r1 r2
      exact ⟨_, _, by rw [← r1, Nat.zero_add], .inr (Nat.le_refl _)⟩
    · rcases h2.2 with ⟨q10, q11⟩ | ⟨g, cap', cur, q10, _, q12, q13, q14, q15, q16⟩
      · rw [← h1, q1] at q10; cases q10
      · rw [← h1, q1] at q10
        cases q10
        by_cases hroom : n + m ≤ cap
        · have hfit : n * i.size + news.length ≤ cur.size := by rw [e2, hs1, q15, ← Nat.add_mul]; exact Nat.mul_le_mul_right _ hroom
          have hr2 := run_append_room (P := P) w t ty k.ety i ht hi1 b n cap cur q12 ⟨b2, off2, none⟩ m c2 news (by rw [hs1]; exact e2) hcell e4 hroom hfit
          rw [q1, e1, hr2] at hrun
          injection hrun with r1 r2
          exact ⟨_, _, r1.symm, .inl ⟨m0, q3⟩⟩
        · have holds := h2.cells (g := b) (by rw [← h1, q1]; rfl)
          have hr2 := run_append_grow (P := P) w t ty k.ety i z ht hi1 hz ⟨b, 0, none⟩ n cap xs (by rw [hs1]; exact h2.1) holds ⟨b2, off2, none⟩ m c2 news (by rw [hs1]; exact e2) hcell (by omega)
            (by omega) (growslice_fits (by omega) (by rw [hb1]; exact hbound))
          rw [q1, e1, hr2] at hrun
          injection hrun with r1 r2
          exact ⟨_, _, r1.symm, .inr (Nat.le_refl _)⟩
  have hoth : ∀ b, b < w.heap.size → (∀ m, μ h ≠ some (b, m)) → w'.heap[b]? = w.heap[b]? := by
    intro b hb' hn
    refine hgrow.block b hb' fun e => ?_
    rcases hv with ⟨q1, q2, q3, q4⟩ | ⟨b', cap, m0, cs, q1, q2, q3, q4, q6, q7, q8, q9⟩
    · rw [q1] at e; cases e
    · rw [q1] at e
      cases e
      exact hn m0 q3
  obtain ⟨g, cap, rfl, hg⟩ := hblock
  obtain ⟨ho1, ho2⟩ := ho
  rcases ho2 with ⟨ho2, _⟩ | ⟨g', cap', cur, ho2, _, hcur, hnc, hcm, hcs, htake⟩
  · cases ho2
  · cases ho2
    have hxl := h2.1
    have hget : ∀ (j : Nat) (v : Value), (xs ++ news)[j]? = some v → cur[j]? = some v := by
      intro j v hv
      rw [← htake, List.getElem?_take] at hv
      split at hv
      · rw [Array.getElem?_toList] at hv; exact hv
      · cases hv
    have hle : (n + m) * k.sz ≤ cap * k.sz := Nat.mul_le_mul_right _ hnc
    obtain ⟨hr2, hst⟩ := hr.regrow (k' := { k with fresh := k.fresh && f, cells := k.cells ++ newsG }) hk hg hcur rfl hgrow.size hoth hgrow.os hgrow.tape hgrow.output id hp (by dsimp only; rw [List.length_append, hfull, hlen, ← Nat.add_mul, hcs]; exact hle)
      (fun _ => by dsimp only; rw [hcs]; exact Nat.mul_le_mul_right _ hcm)
      (by
        intro j g' hg'
        dsimp only at hg'
        rw [List.getElem?_append] at hg'
        split at hg'
        · obtain ⟨v, hv, hrv⟩ := h5 j g' hg'
          refine ⟨v, hget j v ?_, ?_⟩
          · rw [List.getElem?_append_left (by omega)]; exact hv
          · unfold RepC at hrv ⊢
            dsimp only
            rw [hp] at hrv ⊢
            exact hrv.flag fun h => by simp at h; exact h.1
        · rename_i hj
          obtain ⟨v, hv, hrv⟩ := e5 _ g' hg'
          refine ⟨v, hget j v ?_, ?_⟩
          · rw [List.getElem?_append_right (by omega), hxl, ← hfull]; exact hv
          · unfold RepC
            dsimp only
            rw [hp]
            exact hrv.flag fun h => by simp at h; exact h.2) W hW hlp hpn hdf
    unfold Oper.wp
    have : (execOp a.eval ⟨some d, .call ⟨.builtin .append, #[x, y], #[t, t]⟩, ty, pos, after, guard⟩).run P w = .ok (.value (.slice (some ⟨g, 0, none⟩) (n + m) cap)) w' := by
      simp only [execOp, resolve, invoke, builtin, Sem.run_bind, Sem.run_pure, Result.andThen_ok, List.map_toArray, List.map_cons, List.map_nil, hrun]
    rw [this]
    refine hK _ _ _ w' (hr2.put (d := d) (g := .osl h k.sz 0 (n + m)) (hN d rfl) ?_) rfl hst
    exact .osl _ _ _ _ _ _ cap (upd_same _ _ _) hnc (by rw [hcs]; omega)

end
end Go.AM
