/-
  Graphs: the plain law of their dimensions: parameters; one node.
-/
import Derived.Test.YtongekoajbcliaaWtA
set_option linter.unusedSectionVars false
set_option linter.unusedSimpArgs false
set_option linter.unusedVariables false
set_option maxRecDepth 20000
namespace Go.DN.Pl
open Go.AM Go.PL
theorem find_map {α β γ : Type} (f : α → Option β) (g : β → γ) : ∀ l : List α, (l.findSome? fun x => (f x).map g) = (l.findSome? f).map g
 | [] => rfl
 | x :: r => by
  rw [List.findSome?_cons, List.findSome?_cons]
  cases f x with
  | some b => rfl
  | none => exact find_map f g r
def noPar (x : SNode) : Bool := x.Op.Kind != 1
def parE (nodes : List SNode) (k : Nat) : Option Nat := match nodes[k]? with
 | some x => if noPar x then some k else none
 | none => none
def parO (nodes : List SNode) : Option Nat := (List.range nodes.length).findSome? (parE nodes)
def parS (nodes : List SNode) : Nat := (parO nodes).getD nodes.length
theorem parO_lt {nodes : List SNode} {k : Nat} (h : parO nodes = some k) : k < nodes.length := by
  obtain ⟨j, h1, h2⟩ := List.exists_of_findSome?_eq_some h
  unfold parE at h2
  split at h2
  · rename_i x hx
    split at h2
    · cases h2; exact get_lt hx
    · cases h2
  · cases h2
theorem parS_le (nodes : List SNode) : parS nodes ≤ nodes.length := by
 unfold parS
 cases h : parO nodes with
 | none => exact Nat.le_refl _
 | some k => exact Nat.le_of_lt (parO_lt h)
theorem par_loop {body : Int → Option (Int ⊕ Ex Unit Int)} (nodes : List SNode) (hn : nodes.length ≤ 4000000) (hbody : ∀ (k : Nat) x, nodes[k]? = some x → body (k : Int) = some (if noPar x then .inr (.ret (k : Int)) else .inl ((k + 1 : Nat) : Int)))
  (hend : body (nodes.length : Int) = some (.inr (.brk ()))) (fu : Nat) (hf : 4000000 < fu) : loopF body fu 0 = some (match parO nodes with | some k => .ret (k : Int) | none => .brk ()) := by
 have := loop_at (body := body) nodes.length (fun k => (k : Int)) (fun k => (parE nodes k).map fun (j : Nat) => Ex.ret (j : Int)) (.brk ()) (fun k hk _ => by
  have hx := List.getElem?_eq_getElem hk
  rw [hbody k _ hx]
  unfold parE
  rw [hx]
  simp only
  cases noPar nodes[k] <;> rfl) (fun _ => hend) fu (by omega)
 rw [show ((0 : Nat) : Int) = 0 from rfl] at this
 rw [this, find_map]
 unfold parO
 cases (List.range nodes.length).findSome? (parE nodes) <;> rfl
theorem params_ok (fu : Nat) (g : SGraph) (hn : g.Nodes.length ≤ 4000000) (hf : 4000000 < fu) : F.graph_Params fu g = some (parS g.Nodes : Int) := by
 have h := par_loop (body := F.slices_IndexFunc_3_l1 fu g.Nodes) g.Nodes hn (fun k x hx => by
  simp only [F.slices_IndexFunc_3_l1, F.graph_Params_1, dec_lt hx, cond_true, idx_nat hx, Option.bind_some, wrap_succ (get_lt hx) (by omega)]
  unfold noPar
  cases (x.Op.Kind != 1) <;> rfl) (by simp only [F.slices_IndexFunc_3_l1, dec_end, cond_false]) fu hf
 unfold F.graph_Params F.slices_IndexFunc_3 parS
 rw [h]
 cases ho : parO g.Nodes with
 | none =>
  simp only [bindE, Option.bind_some, dec_true (show ((-1 : Int) < 0) by omega), cond_true]
  rfl
 | some k =>
  simp only [bindE, Option.bind_some, dec_false (show ¬ ((k : Int) < 0) by omega), cond_false]
  rfl
theorem params5_ok (fu : Nat) (g : SGraph) (hn : g.Nodes.length ≤ 4000000) (hf : 4000000 < fu) : F.adjointref5_Params fu g = some (parS g.Nodes : Int) := by
 have h := par_loop (body := F.adjointref5_Params_l1 fu g) g.Nodes hn (fun k x hx => by
  simp only [F.adjointref5_Params_l1, dec_lt hx, cond_true, idx_nat hx, Option.bind_some, wrap_succ (get_lt hx) (by omega)]
  unfold noPar
  cases (x.Op.Kind != 1) <;> rfl) (by simp only [F.adjointref5_Params_l1, dec_end, cond_false]) fu hf
 unfold F.adjointref5_Params parS
 rw [h]
 cases ho : parO g.Nodes with
 | none =>
  simp only [bindE]
  rfl
 | some k =>
  simp only [bindE]
  rfl
def badA (i : Nat) (a : Int) : Bool := decide (a < 0) || decide (a ≥ (i : Int))
def dsS (out : List (List Int)) (args : List Int) : List (List Int) := args.map fun a => out.getD a.toNat []
theorem ds_step {out : List (List Int)} {args : List Int} {k : Nat} {a : Int} (h : args[k]? = some a) (hb : badA out.length a = false) :
    idx out a = some (out.getD a.toNat []) ∧ dsS out (args.take (k + 1)) = dsS out (args.take k) ++ [out.getD a.toNat []] := by
  unfold badA at hb
  rw [Bool.or_eq_false_iff] at hb
  have h1 : ¬ (a < 0) := by simpa using hb.1
  have h2 : ¬ (a ≥ (out.length : Int)) := by simpa using hb.2
  refine ⟨?_, ?_⟩
  · have hl : a.toNat < out.length := by omega
    have : idx out ((a.toNat : Nat) : Int) = some (out.getD a.toNat []) := idx_nat (by rw [List.getD_eq_getElem?_getD, List.getElem?_eq_getElem hl]; rfl)
    rwa [show ((a.toNat : Nat) : Int) = a by omega] at this
  · unfold dsS
    rw [take_succ h, List.map_append]; rfl
theorem ds_len (out : List (List Int)) (args : List Int) : (dsS out args).length = args.length := by unfold dsS; simp
def okOut (out : List (List Int)) : Prop := ∀ d ∈ out, d.length ≤ 6
theorem ds_args {out : List (List Int)} {args : List Int} (h : okOut out) (ha : args.length ≤ 1048576) : okArgs (dsS out args) := by
 refine ⟨by rw [ds_len]; exact ha, fun d hd => ?_⟩
 unfold dsS at hd
 obtain ⟨a, _, rfl⟩ := List.mem_map.1 hd
 rw [List.getD_eq_getElem?_getD]
 cases hq : out[a.toNat]? with
 | none => simp
 | some d =>
  have := h d (List.mem_of_getElem? hq)
  show d.length ≤ 1048576
  omega
theorem ds_loop {ρ : Type} {body : Int × List (List Int) → Option ((Int × List (List Int)) ⊕ ρ)} (out : List (List Int)) (args : List Int) (bad : ρ) (fin : List (List Int) → ρ) (ha : args.length ≤ 1048576)
  (hbody : ∀ (k : Nat) a m, args[k]? = some a → m.length = k → (badA out.length a = true → body ((k : Int), m) = some (.inr bad)) ∧ (badA out.length a = false → ∀ d, idx out a = some d → body ((k : Int), m) = some (.inl (((k + 1 : Nat) : Int), m ++ [d]))))
  (hend : ∀ m, body ((args.length : Int), m) = some (.inr (fin m))) (fu : Nat) (hf : 4000000 < fu) : loopF body fu (0, []) = some (if args.any (badA out.length) then bad else fin (dsS out args)) := by
 have := loop_ends (body := body) args (fun k => ((k : Int), dsS out (args.take k))) (fun a => if badA out.length a then some bad else none) (fin (dsS out args)) (fun k a h => by
  obtain ⟨h1, h2⟩ := hbody k a (dsS out (args.take k)) h (by rw [ds_len]; exact lenT h)
  cases hb : badA out.length a with
  | true => rw [h1 hb]; rfl
  | false =>
   obtain ⟨d1, d2⟩ := ds_step h hb
   rw [h2 hb _ d1, d2]; rfl) (by simp only [List.take_length]; exact hend _) fu (by omega)
 have e0 : (((0 : Nat) : Int), dsS out (args.take 0)) = ((0 : Int), ([] : List (List Int))) := rfl
 simp only [e0] at this
 rw [this, findCst]
 cases args.any (badA out.length) <;> rfl
noncomputable def DS (fu : Nat) (op : SOp) (args : List (List Int)) : List Int × Int := (F.array_Dims fu op args).getD ([], 0)
theorem DS_ok (fu : Nat) (op : SOp) (args : List (List Int)) (ho : okOp op) (ha : okArgs args) (hf : 4000000 < fu) : F.array_Dims fu op args = some (DS fu op args) ∧ F.adjointref2_Dims fu op args = some (DS fu op args) ∧ (DS fu op args).1.length ≤ 6 := by
 obtain ⟨r, h1, h2, h3, _⟩ := dims_same fu op args ho ha hf
 have : DS fu op args = r := by unfold DS; rw [h1]; rfl
 rw [this]
 exact ⟨h1, h2, h3⟩
def badPa (p : Int) (op : SOp) (i : Nat) : Bool := decide ((i : Int) ≥ p) || (((op.At.length : Int) != 1) || (op.At.getD 0 0 != (i : Int)))
theorem badPa_ok (p : Int) (op : SOp) (i : Nat) : (cond (decide ((i : Int) ≥ p)) (some true) (cond ((op.At.length : Int) != 1) (some true) ((idx op.At 0).bind fun x => some (x != (i : Int))))) = some (badPa p op i) := by
  unfold badPa
  cases decide ((i : Int) ≥ p) with
  | true => rfl
  | false =>
    by_cases h : (op.At.length : Int) = 1
    · obtain ⟨a, ha⟩ := len1 (show op.At.length = 1 by omega)
      rw [ha, idx0]
      rfl
    · rw [bne_true h]; rfl
noncomputable def nodeS (fu : Nat) (p : Int) (x : SNode) (out : List (List Int)) : List Int × Int :=
 if x.Args.any (badA out.length) then ([], 10) else
 if noPar x then DS fu x.Op (dsS out x.Args) else
 if badPa p x.Op out.length then ([], 7) else if decide ((x.Args.length : Int) > 0) then ([], 2) else (x.Op.Dims, (sizeS x.Op.Dims).2)
def okNode (x : SNode) : Prop := okOp x.Op ∧ x.Args.length ≤ 1048576
theorem node_ok (fu : Nat) (p : Int) (x : SNode) (out : List (List Int)) (hx : okNode x) (ho : okOut out) (hl : out.length ≤ 5000) (hf : 4000000 < fu) :
    F.graph_node_2 fu x (out.length : Int) p out = some ((nodeS fu p x out).1, (nodeS fu p x out).2, out) := by
  have hL := ds_loop (body := F.graph_node_2_l1 fu x (out.length : Int) out) out x.Args (.ret (([] : List Int), 10, out)) .brk hx.2 (fun k a m h hm => by
    have hla := hx.2
    have hk := get_lt h
    have hb0 : (cond (decide (a < 0)) (some true) (some (decide (a ≥ (out.length : Int))))) = some (badA out.length a) := cc _ _
    refine ⟨fun hb => ?_, fun hb d hd => ?_⟩
    · simp only [F.graph_node_2_l1, dec_lt h, cond_true, idx_nat h, Option.bind_some, hb0, hb]
    · have hc : chk (m.length + [d].length ≤ maxLen ∧ (m.length + [d].length) * 24 ≤ 140737488355328) = some () := chk_app (by simp only [List.length_singleton]; omega) (by simp only [List.length_singleton]; omega)
      simp only [F.graph_node_2_l1, dec_lt h, cond_true, idx_nat h, Option.bind_some, hb0, hb, cond_false, hd, hc, wrap_succ hk (by omega)]) (fun m => by simp only [F.graph_node_2_l1, dec_end, cond_false]) fu hf
  unfold F.graph_node_2
  rw [hL]
  unfold nodeS
  cases hb : x.Args.any (badA out.length) with
  | true => rfl
  | false =>
    obtain ⟨d1, _, _⟩ := DS_ok fu x.Op (dsS out x.Args) hx.1 (ds_args ho hx.2) hf
    simp only [if_neg Bool.false_ne_true, bindE]
    unfold noPar
    cases hk : (x.Op.Kind != 1) with
    | true =>
      simp only [cond_true, d1, Option.bind_some, if_pos]
    | false =>
      simp only [cond_false, badPa_ok, Option.bind_some, if_neg Bool.false_ne_true]
      cases hp : badPa p x.Op out.length with
      | true => rfl
      | false =>
        simp only [cond_false, if_neg Bool.false_ne_true]
        cases hq : decide ((x.Args.length : Int) > 0) with
        | true => rfl
        | false =>
          have hd : x.Op.Dims.length ≤ 1048576 := hx.1.1
          simp only [cond_false, if_neg Bool.false_ne_true, size_ok fu x.Op.Dims (by omega) hf, clone_ok fu x.Op.Dims (by omega), Option.bind_some]
theorem node_len (fu : Nat) (p : Int) (x : SNode) (out : List (List Int)) (hx : okNode x) (ho : okOut out) (hf : 4000000 < fu) (h : (nodeS fu p x out).2 = 0) : (nodeS fu p x out).1.length ≤ 6 := by
  unfold nodeS at h ⊢
  split
  · simp
  · rename_i h1
    rw [if_neg h1] at h
    split
    · exact (DS_ok fu x.Op (dsS out x.Args) hx.1 (ds_args ho hx.2) hf).2.2
    · rename_i h2
      rw [if_neg h2] at h
      split
      · simp
      · rename_i h3
        rw [if_neg h3] at h
        split
        · simp
        · rename_i h4
          rw [if_neg h4] at h
          exact (size_small h).1
theorem node_args (fu : Nat) (p : Int) (x : SNode) (out : List (List Int)) (h : (nodeS fu p x out).2 = 0) : x.Args.any (badA out.length) = false := by
 unfold nodeS at h
 cases hb : x.Args.any (badA out.length) with
 | false => rfl
 | true =>
  rw [hb, if_pos rfl] at h
  exact absurd h (by simp)
end Go.DN.Pl
