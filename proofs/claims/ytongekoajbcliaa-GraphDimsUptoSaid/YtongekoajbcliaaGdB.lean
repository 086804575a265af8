/-
  Graphs: the plain law of their dimensions: all nodes; what they cost.
-/
import Derived.Test.YtongekoajbcliaaGdA
set_option linter.unusedSectionVars false
set_option linter.unusedSimpArgs false
set_option linter.unusedVariables false
set_option maxRecDepth 20000
namespace Go.DN.Pl
open Go.AM Go.PL
noncomputable def outS (fu : Nat) (p : Int) (nodes : List SNode) : Nat → List (List Int)
 | 0 => []
 | k + 1 => match nodes[k]? with
  | some x => outS fu p nodes k ++ [(nodeS fu p x (outS fu p nodes k)).1]
  | none => outS fu p nodes k
noncomputable def codeS (fu : Nat) (p : Int) (nodes : List SNode) (k : Nat) : Int := match nodes[k]? with
 | some x => (nodeS fu p x (outS fu p nodes k)).2
 | none => 0
def okNodes (nodes : List SNode) : Prop := nodes.length ≤ 4000000 ∧ ∀ x ∈ nodes, okNode x
section
variable {fu : Nat} {p : Int} {nodes : List SNode}
theorem out_at {k : Nat} {x : SNode} (h : nodes[k]? = some x) : outS fu p nodes (k + 1) = outS fu p nodes k ++ [(nodeS fu p x (outS fu p nodes k)).1] := by
 simp only [outS, h]
theorem code_at {k : Nat} {x : SNode} (h : nodes[k]? = some x) : codeS fu p nodes k = (nodeS fu p x (outS fu p nodes k)).2 := by
 simp only [codeS, h]
theorem out_len : ∀ {k : Nat}, k ≤ nodes.length → (outS fu p nodes k).length = k
 | 0, _ => rfl
 | k + 1, h => by
  rw [out_at (List.getElem?_eq_getElem (show k < nodes.length by omega)), List.length_append, out_len (by omega)]; rfl
theorem out_ok (hn : okNodes nodes) (hf : 4000000 < fu) : ∀ {k : Nat}, k ≤ nodes.length → (∀ j, j < k → codeS fu p nodes j = 0) → okOut (outS fu p nodes k)
  | 0, _, _ => fun d hd => by cases hd
  | k + 1, h, hc => by
    have hx := List.getElem?_eq_getElem (show k < nodes.length by omega)
    have i := out_ok hn hf (show k ≤ nodes.length by omega) fun j hj => hc j (by omega)
    have hk := hc k (by omega)
    rw [code_at hx] at hk
    rw [out_at hx]
    intro d hd
    rcases List.mem_append.1 hd with hd | hd
    · exact i d hd
    · rw [List.mem_singleton.1 hd]
      exact node_len fu p _ _ (hn.2 _ (List.getElem_mem _)) i hf hk
end
theorem find_code {ρ : Type} (c : Nat → Int) (f : Int → ρ) : ∀ l : List Nat, (l.findSome? fun k => if c k = 0 then none else some (f (c k))) = (errI (firstW c l)).map f
 | [] => rfl
 | x :: r => by
  rw [List.findSome?_cons, firstW_cons]
  by_cases h : c x = 0
  · rw [if_pos h, if_pos h]; exact find_code c f r
  · rw [if_neg h, if_neg h, errI_pos h]; rfl
noncomputable def firstC (fu : Nat) (p : Int) (nodes : List SNode) : Int := firstW (codeS fu p nodes) (List.range nodes.length)
theorem firstC_zero {fu : Nat} {p : Int} {nodes : List SNode} (h : firstC fu p nodes = 0) : ∀ k, k < nodes.length → codeS fu p nodes k = 0 := fun k hk => firstW_zero h k (List.mem_range.2 hk)
theorem no_code {ρ : Type} {c : Int} {f : ρ} (h : (if c = 0 then (none : Option ρ) else some f) = none) : c = 0 := by
 by_cases h2 : c = 0
 · exact h2
 · rw [if_neg h2] at h; cases h
noncomputable def lookG (fu : Nat) (g : SGraph) : Int × List (List Int) :=
 if g.Nodes.length > 4096 then (5, []) else
 if firstC fu (parS g.Nodes : Int) g.Nodes ≠ 0 then (firstC fu (parS g.Nodes : Int) g.Nodes, []) else
 if g.Outs.any (badA g.Nodes.length) then (4, []) else (0, outS fu (parS g.Nodes : Int) g.Nodes g.Nodes.length)
def okG (g : SGraph) : Prop := okNodes g.Nodes ∧ g.Outs.length ≤ 4000000
theorem outs_loop {ρ : Type} {body : Int → Option (Int ⊕ Ex Unit ρ)} (l : List Int) (n : Nat) (v : ρ) (hl : l.length ≤ 4000000) (hbody : ∀ (k : Nat) a, l[k]? = some a → body (k : Int) = some (if badA n a then .inr (.ret v) else .inl ((k + 1 : Nat) : Int)))
  (hend : body (l.length : Int) = some (.inr (.brk ()))) (fu : Nat) (hf : 4000000 < fu) : loopF body fu 0 = some (if l.any (badA n) then .ret v else .brk ()) := by
 have := loop_ends (body := body) l (fun k => (k : Int)) (fun a => if badA n a then some (Ex.ret v) else none) (.brk ()) (fun k a h => by
  rw [hbody k a h]
  cases badA n a <;> rfl) hend fu (by omega)
 rw [show ((0 : Nat) : Int) = 0 from rfl] at this
 rw [this, findCst]
 cases l.any (badA n) <;> rfl
theorem look_ok5 (fu : Nat) (g : SGraph) (hg : okG g) (hf : 4000000 < fu) : F.graph_look fu g = some (lookG fu g) := by
  obtain ⟨hn, hout⟩ := hg
  have hn1 := hn.1
  unfold F.graph_look lookG
  by_cases h0 : g.Nodes.length > 4096
  · rw [if_pos h0, dec_true (show (g.Nodes.length : Int) > 4096 by omega)]; rfl
  · have h0' : g.Nodes.length ≤ 4096 := by omega
    rw [if_neg h0, dec_false (show ¬ ((g.Nodes.length : Int) > 4096) by omega), cond_false]
    have hc : chk ((0 : Int) ≤ 0 ∧ 0 ≤ (g.Nodes.length : Int) ∧ ((24 : Nat) : Int) * (g.Nodes.length : Int) ≤ 281474976710656 ∧ (g.Nodes.length : Int) ≤ 9223372036854775807) = some () := chk_pos ⟨by omega, by omega, by omega, by omega⟩
    rw [hc, params_ok fu g hn1 hf]
    simp only [Option.bind_some]
    generalize (parS g.Nodes : Int) = p
    have hL := loop_at (body := F.graph_look_l1 fu g p) g.Nodes.length (fun k => ((k : Int), outS fu p g.Nodes k)) (fun k => if codeS fu p g.Nodes k = 0 then none else some (Ex.ret (codeS fu p g.Nodes k, ([] : List (List Int))))) (.brk (outS fu p g.Nodes g.Nodes.length))
      (fun k hk hj => by
        have hx := List.getElem?_eq_getElem hk
        have hok := out_ok (p := p) hn hf (show k ≤ g.Nodes.length by omega) fun j h => no_code (hj j h)
        have hl := out_len (fu := fu) (p := p) (nodes := g.Nodes) (show k ≤ g.Nodes.length by omega)
        have hnode := node_ok fu p g.Nodes[k] (outS fu p g.Nodes k) (hn.2 _ (List.getElem_mem _)) hok (by omega) hf
        rw [hl] at hnode
        have hb : Nat.beq (List.length (outS fu p g.Nodes k)) (List.length (outS fu p g.Nodes k)) = true := Nat.beq_refl _
        have hc : chk ((outS fu p g.Nodes k).length + [(nodeS fu p g.Nodes[k] (outS fu p g.Nodes k)).1].length ≤ maxLen ∧ ((outS fu p g.Nodes k).length + [(nodeS fu p g.Nodes[k] (outS fu p g.Nodes k)).1].length) * 24 ≤ 140737488355328) = some () :=
          chk_app (by simp only [List.length_singleton]; omega) (by simp only [List.length_singleton]; omega)
        have he : (⟨(⟨g.Nodes[k].Op.Kind, g.Nodes[k].Op.Dims, g.Nodes[k].Op.At, g.Nodes[k].Op.Lo, g.Nodes[k].Op.Hi, g.Nodes[k].Op.Step, g.Nodes[k].Op.Value⟩ : SOp), g.Nodes[k].Args⟩ : SNode) = g.Nodes[k] := rfl
        simp only [F.graph_look_l1, dec_lt hx, cond_true, idx_nat hx, Option.bind_some, he, hnode, hb, code_at hx, out_at hx, hc, wrap_succ hk (by omega)]
        by_cases hq : (nodeS fu p g.Nodes[k] (outS fu p g.Nodes k)).2 = 0
        · rw [if_pos hq, bne_false hq]; rfl
        · rw [if_neg hq, bne_true hq]; rfl)
      (fun _ => by simp only [F.graph_look_l1, dec_end, cond_false]) fu (by omega)
    have e0 : (((0 : Nat) : Int), outS fu p g.Nodes 0) = ((0 : Int), List.replicate (Int.toNat 0) ([] : List Int)) := rfl
    simp only [e0] at hL
    rw [hL, find_code (codeS fu p g.Nodes) (fun c => Ex.ret (c, ([] : List (List Int))))]
    rw [show firstW (codeS fu p g.Nodes) (List.range g.Nodes.length) = firstC fu p g.Nodes from rfl]
    by_cases h1 : firstC fu p g.Nodes = 0
    · rw [if_neg (by simpa using h1), h1, errI_zero]
      simp only [Option.map_none, bindE]
      have hO := outs_loop (body := F.graph_look_l2 fu g) g.Outs g.Nodes.length ((4, []) : Int × List (List Int)) hout (fun k a h => by
        have hb0 : (cond (decide (a < 0)) (some true) (some (decide (a ≥ (g.Nodes.length : Int))))) = some (badA g.Nodes.length a) := cc _ _
        simp only [F.graph_look_l2, dec_lt h, cond_true, idx_nat h, Option.bind_some, hb0, wrap_succ (get_lt h) (by omega)]
        cases badA g.Nodes.length a <;> rfl) (by simp only [F.graph_look_l2, dec_end, cond_false]) fu hf
      rw [hO]
      cases g.Outs.any (badA g.Nodes.length) <;> rfl
    · rw [if_pos h1, errI_pos h1]
      rfl
theorem dims5_ok (fu : Nat) (g : SGraph) (hg : okG g) (hf : 4000000 < fu) : F.adjointref5_Dims fu g = some ((lookG fu g).2, (lookG fu g).1) := by
  obtain ⟨hn, hout⟩ := hg
  have hn1 := hn.1
  unfold F.adjointref5_Dims lookG
  by_cases h0 : g.Nodes.length > 4096
  · rw [if_pos h0, dec_true (show (g.Nodes.length : Int) > 4096 by omega)]; rfl
  · have h0' : g.Nodes.length ≤ 4096 := by omega
    rw [if_neg h0, dec_false (show ¬ ((g.Nodes.length : Int) > 4096) by omega), cond_false]
    have hpar := params5_ok fu g hn1 hf
    revert hpar
    generalize (parS g.Nodes : Int) = p
    intro hpar
    have hL := loop_at (body := F.adjointref5_Dims_l2 fu g) g.Nodes.length (fun k => ((k : Int), outS fu p g.Nodes k)) (fun k => if codeS fu p g.Nodes k = 0 then none else some (Ex.ret (([] : List (List Int)), codeS fu p g.Nodes k))) (.brk (outS fu p g.Nodes g.Nodes.length))
      (fun k hk hj => by
        have hx := List.getElem?_eq_getElem hk
        have hok := out_ok (p := p) hn hf (show k ≤ g.Nodes.length by omega) fun j h => no_code (hj j h)
        have hl := out_len (fu := fu) (p := p) (nodes := g.Nodes) (show k ≤ g.Nodes.length by omega)
        have hx0 := hn.2 _ (List.getElem_mem hk)
        rw [code_at hx, out_at hx]
        generalize hxe : g.Nodes[k] = x at hx hx0
        generalize hoe : outS fu p g.Nodes k = out at hok hl
        have hA := ds_loop (body := F.adjointref5_Dims_l1 fu (k : Int) out x) out x.Args (.ret (.ret (.inr (.ret (([] : List (List Int)), 10))))) .brk hx0.2 (fun j a m h hm => by
            have hla := hx0.2
            have hk := get_lt h
            have hb0 : (cond (decide (a < 0)) (some true) (some (decide (a ≥ (k : Int))))) = some (badA out.length a) := by rw [hl]; exact cc _ _
            refine ⟨fun hb => ?_, fun hb d hd => ?_⟩
            · simp only [F.adjointref5_Dims_l1, dec_lt h, cond_true, idx_nat h, Option.bind_some, hb0, hb]
            · have hc : chk (m.length + [d].length ≤ maxLen ∧ (m.length + [d].length) * 24 ≤ 140737488355328) = some () := chk_app (by simp only [List.length_singleton]; omega) (by simp only [List.length_singleton]; omega)
              simp only [F.adjointref5_Dims_l1, dec_lt h, cond_true, idx_nat h, Option.bind_some, hb0, hb, cond_false, hd, hc, wrap_succ hk (by omega)]) (fun m => by simp only [F.adjointref5_Dims_l1, dec_end, cond_false]) fu hf
        simp only [F.adjointref5_Dims_l2, dec_lt hx, cond_true, idx_nat hx, Option.bind_some, hA]
        obtain ⟨_, d1, _⟩ := DS_ok fu x.Op (dsS out x.Args) hx0.1 (ds_args hok hx0.2) hf
        have hcA : ∀ d : List Int, chk (out.length + [d].length ≤ maxLen ∧ (out.length + [d].length) * 24 ≤ 140737488355328) = some () := fun d => chk_app (by simp only [List.length_singleton]; omega) (by simp only [List.length_singleton]; omega)
        unfold nodeS
        cases hb : x.Args.any (badA out.length) with
        | true => rfl
        | false =>
          simp only [if_neg Bool.false_ne_true, bindE]
          unfold noPar
          cases hkd : (x.Op.Kind == 1) with
          | false =>
            have hkn : (x.Op.Kind != 1) = true := by unfold bne; rw [hkd]; rfl
            simp only [cond_false, d1, Option.bind_some, hkn, if_pos]
            by_cases hq : (DS fu x.Op (dsS out x.Args)).2 = 0
            · rw [bne_false hq, if_pos hq]
              simp only [cond_false, hcA, Option.bind_some, wrap_succ hk (show g.Nodes.length ≤ 9223372036854775807 by omega)]
            · rw [bne_true hq, if_neg hq]; rfl
          | true =>
            have hkn : (x.Op.Kind != 1) = false := by unfold bne; rw [hkd]; rfl
            have hb1 := badPa_ok p x.Op k
            simp only [cond_true, hpar, Option.bind_some, hb1, hkn, if_neg Bool.false_ne_true, hl]
            cases hp : badPa p x.Op k with
            | true => rfl
            | false =>
              simp only [cond_false, if_neg Bool.false_ne_true]
              cases hq : decide ((x.Args.length : Int) > 0) with
              | true => rfl
              | false =>
                have hd : x.Op.Dims.length ≤ 1048576 := hx0.1.1
                simp only [cond_false, if_neg Bool.false_ne_true, refSize_ok fu x.Op.Dims (by omega) hf, Option.bind_some]
                by_cases hz : (sizeS x.Op.Dims).2 = 0
                · rw [bne_false hz, if_pos hz]
                  simp only [← hl, cond_false, hcA, Option.bind_some]
                  simp only [hl, wrap_succ hk (show g.Nodes.length ≤ 9223372036854775807 by omega)]
                · rw [bne_true hz, if_neg hz]; rfl)
      (fun _ => by simp only [F.adjointref5_Dims_l2, dec_end, cond_false]) fu (by omega)
    have e0 : (((0 : Nat) : Int), outS fu p g.Nodes 0) = ((0 : Int), ([] : List (List Int))) := rfl
    simp only [e0] at hL
    rw [hL, find_code (codeS fu p g.Nodes) (fun c => Ex.ret (([] : List (List Int)), c))]
    rw [show firstW (codeS fu p g.Nodes) (List.range g.Nodes.length) = firstC fu p g.Nodes from rfl]
    by_cases h1 : firstC fu p g.Nodes = 0
    · rw [if_neg (by simpa using h1), h1, errI_zero]
      simp only [Option.map_none, bindE]
      have hO := outs_loop (body := F.adjointref5_Dims_l3 fu g) g.Outs g.Nodes.length (([], 4) : List (List Int) × Int) hout (fun k a h => by
        have hb0 : (cond (decide (a < 0)) (some true) (some (decide (a ≥ (g.Nodes.length : Int))))) = some (badA g.Nodes.length a) := cc _ _
        simp only [F.adjointref5_Dims_l3, dec_lt h, cond_true, idx_nat h, Option.bind_some, hb0, wrap_succ (get_lt h) (by omega)]
        cases badA g.Nodes.length a <;> rfl) (by simp only [F.adjointref5_Dims_l3, dec_end, cond_false]) fu hf
      rw [hO]
      cases g.Outs.any (badA g.Nodes.length) <;> rfl
    · rw [if_pos h1, errI_pos h1]
      rfl
end Go.DN.Pl
