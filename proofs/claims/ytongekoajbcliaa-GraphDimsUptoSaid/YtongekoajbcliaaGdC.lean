/-
  Graphs: the plain law of their dimensions: what they cost; the statement.
-/
import Derived.Test.YtongekoajbcliaaGdB
set_option linter.unusedSectionVars false
set_option linter.unusedSimpArgs false
set_option linter.unusedVariables false
set_option maxRecDepth 20000
namespace Go.DN.Pl
open Go.AM Go.PL
theorem lookG_zero {fu : Nat} {g : SGraph} (h : (lookG fu g).1 = 0) : g.Nodes.length ≤ 4096 ∧ (∀ k, k < g.Nodes.length → codeS fu (parS g.Nodes : Int) g.Nodes k = 0) ∧ (lookG fu g).2 = outS fu (parS g.Nodes : Int) g.Nodes g.Nodes.length := by
  unfold lookG at h ⊢
  split at h
  · exact absurd h (by simp)
  · rename_i h0
    rw [if_neg h0]
    split at h
    · rename_i h1
      exact absurd h h1
    · rename_i h1
      rw [if_neg h1]
      split at h
      · exact absurd h (by simp)
      · rename_i h2
        rw [if_neg h2]
        have h1 : firstC fu (parS g.Nodes : Int) g.Nodes = 0 := by simpa using h1
        exact ⟨by omega, firstC_zero h1, rfl⟩
theorem lookG_ok {fu : Nat} {g : SGraph} (hg : okG g) (hf : 4000000 < fu) : okOut (lookG fu g).2 ∧ (lookG fu g).2.length ≤ 4096 := by
  by_cases h : (lookG fu g).1 = 0
  · obtain ⟨h1, h2, h3⟩ := lookG_zero h
    rw [h3]
    exact ⟨out_ok hg.1 hf (Nat.le_refl _) h2, by rw [out_len (Nat.le_refl _)]; exact h1⟩
  · have : (lookG fu g).2 = [] := by
      unfold lookG at h ⊢
      split
      · rfl
      · rename_i h0
        rw [if_neg h0] at h
        split
        · rfl
        · rename_i h1
          rw [if_neg h1] at h
          split
          · rfl
          · rename_i h2
            rw [if_neg h2] at h
            exact absurd rfl h
    rw [this]
    exact ⟨fun d hd => absurd hd List.not_mem_nil, by simp⟩
theorem set_self {α : Type} : ∀ {l : List α} {k : Nat} {x : α}, l[k]? = some x → l.set k x = l
 | y :: r, 0, x, h => by simp only [List.getElem?_cons_zero, Option.some.injEq] at h; rw [h]; rfl
 | y :: r, k + 1, x, h => by
  rw [List.getElem?_cons_succ] at h
  rw [List.set_cons_succ, set_self h]
theorem gdims_ok (fu : Nat) (g : SGraph) (hg : okG g) (hf : 4000000 < fu) : F.graph_Dims fu g = some ((lookG fu g).2, (lookG fu g).1) := by
 obtain ⟨h1, h2⟩ := lookG_ok (fu := fu) hg hf
 unfold F.graph_Dims
 rw [look_ok5 fu g hg hf]
 generalize lookG fu g = q at h1 h2
 obtain ⟨e, out⟩ := q
 replace h1 : okOut out := h1
 replace h2 : out.length ≤ 4096 := h2
 have hL := loop_acc (body := F.graph_Dims_l1 fu out) out (fun k => ((k : Int), out)) out (fun k x hx => by
  have hd := h1 x (List.mem_of_getElem? hx)
  simp only [F.graph_Dims_l1, dec_lt hx, cond_true, idx_nat hx, Option.bind_some, clone_ok fu x (by omega), wrap_succ (get_lt hx) (show out.length ≤ 9223372036854775807 by omega), Int.toNat_natCast, set_self hx])
  (by simp only [F.graph_Dims_l1, dec_end, cond_false]) fu (by omega)
 rw [show ((0 : Nat) : Int) = 0 from rfl] at hL
 simp only [Option.bind_some, hL]
theorem sameD_ok (fu : Nat) (a : List (List Int)) (ha : okOut a) (hl : a.length ≤ 4096) (hf : 4000000 < fu) : F.adjointlaw5_sameDims fu a a = some true := by
 unfold F.adjointlaw5_sameDims
 rw [bne_false rfl, cond_false]
 have hL := loop_find (body := F.adjointlaw5_sameDims_l1 fu a a) a (fun k => (k : Int)) (fun _ => none) (fun k x hx => by
  have hd := ha x (List.mem_of_getElem? hx)
  simp only [F.adjointlaw5_sameDims_l1, dec_lt hx, cond_true, idx_nat hx, Option.bind_some, sameList_ok fu x x (by omega) hf, decide_true, Bool.not_true, cond_false, wrap_succ (get_lt hx) (show a.length ≤ 9223372036854775807 by omega)])
  (by simp only [F.adjointlaw5_sameDims_l1, dec_end, cond_false]) fu (by omega)
 rw [show ((0 : Nat) : Int) = 0 from rfl] at hL
 rw [hL]
 have : a.findSome? (fun _ => (none : Option Bool)) = none := List.findSome?_eq_none_iff.2 fun _ _ => rfl
 rw [this]
 rfl
noncomputable def WS (fu : Nat) (op : SOp) (args : List (List Int)) : Int × Int := (F.array_Weight fu op args).getD (0, 0)
theorem WS_ok (fu : Nat) (op : SOp) (args : List (List Int)) (ho : okOp op) (ha : okArgs args) (hf : 4000000 < fu) : F.array_Weight fu op args = some (WS fu op args) ∧ F.adjointref2_Weight fu op args = some (WS fu op args) := by
 obtain ⟨r, h1, h2⟩ := weight_same fu op args ho ha hf
 have : WS fu op args = r := by unfold WS; rw [h1]; rfl
 rw [this]
 exact ⟨h1, h2⟩
noncomputable def sumW (fu : Nat) (p : Nat) (nodes : List SNode) (out : List (List Int)) : Nat → Int
 | 0 => 0
 | k + 1 => match nodes[k]? with
  | some x => if p ≤ k then IntKind.i64.wrap (sumW fu p nodes out k + (WS fu x.Op (dsS out x.Args)).1) else sumW fu p nodes out k
  | none => sumW fu p nodes out k
theorem sumW_low {fu p : Nat} {nodes : List SNode} {out : List (List Int)} : ∀ {k : Nat}, k ≤ p → sumW fu p nodes out k = 0
 | 0, _ => rfl
 | k + 1, h => by
  simp only [sumW]
  split
  · rw [if_neg (by omega)]; exact sumW_low (by omega)
  · exact sumW_low (by omega)
theorem any_mono {i n : Nat} (h : i ≤ n) {args : List Int} (ha : args.any (badA i) = false) : args.any (badA n) = false := by
 rw [List.any_eq_false] at ha ⊢
 intro a hm hb
 refine ha a hm ?_
 unfold badA at hb ⊢
 simp only [Bool.or_eq_true, decide_eq_true_eq] at hb ⊢
 omega
theorem gather_ok {body : Int × List (List Int) → Option ((Int × List (List Int)) ⊕ List (List Int))} (out : List (List Int)) (args : List Int) (ha : args.length ≤ 1048576) (hb : args.any (badA out.length) = false)
  (hbody : ∀ (k : Nat) a m, args[k]? = some a → m.length = k → ∀ d, idx out a = some d → body ((k : Int), m) = some (.inl (((k + 1 : Nat) : Int), m ++ [d])))
  (hend : ∀ m, body ((args.length : Int), m) = some (.inr m)) (fu : Nat) (hf : 4000000 < fu) : loopF body fu (0, []) = some (dsS out args) := by
 have := loop_acc (body := body) args (fun k => ((k : Int), dsS out (args.take k))) (dsS out args) (fun k a h => by
  have hba : badA out.length a = false := by
   have := List.any_eq_false.1 hb a (List.mem_of_getElem? h)
   simpa using this
  obtain ⟨d1, d2⟩ := ds_step h hba
  rw [hbody k a _ h (by rw [ds_len]; exact lenT h) _ d1, d2]) (by simp only [List.take_length]; exact hend _) fu (by omega)
 exact this
theorem weightG_ok (fu : Nat) (g : SGraph) (hg : okG g) (hf : 4000000 < fu) : ∃ r, F.graph_Weight fu g = some r ∧ F.adjointref5_Weight fu g = some r := by
  unfold F.graph_Weight F.adjointref5_Weight
  rw [look_ok5 fu g hg hf, dims5_ok fu g hg hf]
  obtain ⟨hO, hOl⟩ := lookG_ok (fu := fu) hg hf
  have hz := @lookG_zero fu g
  generalize lookG fu g = q at hO hOl hz
  obtain ⟨e, out⟩ := q
  replace hO : okOut out := hO
  by_cases he : e = 0
  · obtain ⟨h0, hc, ho⟩ := hz he
    replace ho : out = outS fu (parS g.Nodes : Int) g.Nodes g.Nodes.length := ho
    have hol : out.length = g.Nodes.length := by rw [ho]; exact out_len (Nat.le_refl _)
    obtain ⟨hn, hout⟩ := hg
    have hp := parS_le g.Nodes
    have hargs : ∀ (k : Nat) (x : SNode), g.Nodes[k]? = some x → x.Args.any (badA out.length) = false := fun k x hx => by
      have h1 := hc k (get_lt hx)
      rw [code_at hx] at h1
      have h2 := node_args fu _ x _ h1
      have hk := get_lt hx
      rw [out_len (by omega)] at h2
      exact any_mono (show k ≤ out.length by rw [hol]; omega) h2
    have hW : ∀ (k : Nat) (x : SNode), g.Nodes[k]? = some x → F.array_Weight fu x.Op (dsS out x.Args) = some (WS fu x.Op (dsS out x.Args)) ∧ F.adjointref2_Weight fu x.Op (dsS out x.Args) = some (WS fu x.Op (dsS out x.Args)) := fun k x hx =>
      let hx0 := hn.2 x (List.mem_of_getElem? hx)
      WS_ok fu x.Op (dsS out x.Args) hx0.1 (ds_args hO hx0.2) hf
    have hwr : ∀ k, k < g.Nodes.length → IntKind.i64.wrap ((k : Int) + 1) = ((k + 1 : Nat) : Int) := fun k hk => wrap_succ hk (by omega)
    refine ⟨(sumW fu (parS g.Nodes) g.Nodes out g.Nodes.length, 0), ?_, ?_⟩
    · have hcp : chk ((0 : Int) ≤ (parS g.Nodes : Int) ∧ (parS g.Nodes : Int) ≤ (g.Nodes.length : Int)) = some () := chk_pos ⟨by omega, by omega⟩
      simp only [Option.bind_some, bne_false he, cond_false, params_ok fu g hn.1 hf, hcp]
      have hpl : lpart g.Nodes (parS g.Nodes : Int) (g.Nodes.length : Int) = g.Nodes.drop (parS g.Nodes) := by
        unfold lpart
        rw [Int.toNat_natCast, Int.toNat_natCast]
        exact List.take_of_length_le (by rw [List.length_drop]; exact Nat.le_refl _)
      have hlen : (g.Nodes.drop (parS g.Nodes)).length = g.Nodes.length - parS g.Nodes := List.length_drop
      have hL := loop_acc (body := F.graph_Weight_l2 fu g out (parS g.Nodes : Int)) (g.Nodes.drop (parS g.Nodes)) (fun j => (sumW fu (parS g.Nodes) g.Nodes out (parS g.Nodes + j), (j : Int))) (sumW fu (parS g.Nodes) g.Nodes out g.Nodes.length)
        (fun j x hx => by
          have hx' : g.Nodes[parS g.Nodes + j]? = some x := by rw [List.getElem?_drop] at hx; exact hx
          have hx0 := hn.2 x (List.mem_of_getElem? hx')
          have hj := get_lt hx
          have hA := gather_ok (body := F.graph_Weight_l1 fu out x) out x.Args hx0.2 (hargs _ x hx') (fun k a m h hm d hd => by
            have hla := hx0.2
            have hk := get_lt h
            have hc : chk (m.length + [d].length ≤ maxLen ∧ (m.length + [d].length) * 24 ≤ 140737488355328) = some () := chk_app (by simp only [List.length_singleton]; omega) (by simp only [List.length_singleton]; omega)
            simp only [F.graph_Weight_l1, dec_lt h, cond_true, idx_nat h, Option.bind_some, hd, hc, wrap_succ hk (show x.Args.length ≤ 9223372036854775807 by omega)]) (fun m => by simp only [F.graph_Weight_l1, dec_end, cond_false]) fu hf
          have hs : sumW fu (parS g.Nodes) g.Nodes out (parS g.Nodes + (j + 1)) = IntKind.i64.wrap (sumW fu (parS g.Nodes) g.Nodes out (parS g.Nodes + j) + (WS fu x.Op (dsS out x.Args)).1) := by
            show sumW fu (parS g.Nodes) g.Nodes out ((parS g.Nodes + j) + 1) = _
            simp only [sumW, hx']
            rw [if_pos (by omega)]
          simp only [F.graph_Weight_l2, hpl, dec_lt hx, cond_true, idx_nat hx, Option.bind_some, hA, (hW _ x hx').1, hs, wrap_succ hj (show (g.Nodes.drop (parS g.Nodes)).length ≤ 9223372036854775807 by omega)])
        (by
          simp only [F.graph_Weight_l2, hpl, dec_end, cond_false]
          rw [hlen, show parS g.Nodes + (g.Nodes.length - parS g.Nodes) = g.Nodes.length by omega]) fu (by omega)
      simp only [Nat.add_zero, sumW_low (Nat.le_refl _)] at hL
      rw [show ((0 : Nat) : Int) = 0 from rfl] at hL
      rw [hL]
      rfl
    · simp only [Option.bind_some, bne_false he, cond_false]
      have hL := loop_acc (body := F.adjointref5_Weight_l2 fu g out) g.Nodes (fun j => (sumW fu (parS g.Nodes) g.Nodes out j, (j : Int))) (sumW fu (parS g.Nodes) g.Nodes out g.Nodes.length)
        (fun j x hx => by
          have hx0 := hn.2 x (List.mem_of_getElem? hx)
          have hj := get_lt hx
          have hA := gather_ok (body := F.adjointref5_Weight_l1 fu out x) out x.Args hx0.2 (hargs _ x hx) (fun k a m h hm d hd => by
            have hla := hx0.2
            have hk := get_lt h
            have hc : chk (m.length + [d].length ≤ maxLen ∧ (m.length + [d].length) * 24 ≤ 140737488355328) = some () := chk_app (by simp only [List.length_singleton]; omega) (by simp only [List.length_singleton]; omega)
            simp only [F.adjointref5_Weight_l1, dec_lt h, cond_true, idx_nat h, Option.bind_some, hd, hc, wrap_succ hk (show x.Args.length ≤ 9223372036854775807 by omega)]) (fun m => by simp only [F.adjointref5_Weight_l1, dec_end, cond_false]) fu hf
          simp only [F.adjointref5_Weight_l2, dec_lt hx, cond_true, idx_nat hx, Option.bind_some, params5_ok fu g hn.1 hf, wrap_succ hj (show g.Nodes.length ≤ 9223372036854775807 by omega)]
          simp only [sumW, hx]
          by_cases hq : parS g.Nodes ≤ j
          · rw [dec_true (show (j : Int) ≥ (parS g.Nodes : Int) by omega), if_pos hq]
            simp only [cond_true, hA, Option.bind_some, (hW _ x hx).2]
          · rw [dec_false (show ¬ ((j : Int) ≥ (parS g.Nodes : Int)) by omega), if_neg hq]
            rfl)
        (by simp only [F.adjointref5_Weight_l2, dec_end, cond_false]) fu (by omega)
      rw [show ((0 : Nat) : Int) = 0 from rfl] at hL
      rw [show sumW fu (parS g.Nodes) g.Nodes out 0 = 0 from rfl] at hL
      rw [hL]
      rfl
  · exact ⟨(0, e), by simp only [Option.bind_some, bne_true he, cond_true], by simp only [Option.bind_some, bne_true he, cond_true]⟩
theorem graphDims_ok (fu : Nat) (g : SGraph) (hg : okG g) (hf : 4000000 < fu) : F.adjointlaw5_GraphDims fu g = some true := by
 obtain ⟨r, w1, w2⟩ := weightG_ok fu g hg hf
 obtain ⟨hO, hOl⟩ := lookG_ok (fu := fu) hg hf
 unfold F.adjointlaw5_GraphDims
 have hw : F.graph_Wrong fu g = some (lookG fu g).1 := by unfold F.graph_Wrong; rw [look_ok5 fu g hg hf]; rfl
 have hw5 : F.adjointref5_Wrong fu g = some (lookG fu g).1 := by unfold F.adjointref5_Wrong; rw [dims5_ok fu g hg hf]; rfl
 simp only [gdims_ok fu g hg hf, dims5_ok fu g hg hf, sameD_ok fu _ hO hOl hf, Option.bind_some, Bool.not_true, cond_false, bne_false, amb_self, amb2_self, hw, hw5, params_ok fu g hg.1.1 hf, params5_ok fu g hg.1.1 hf, w1, w2, beq_self_eq_true, cond_true]
end Go.DN.Pl
