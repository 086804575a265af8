/-
  ArrayRows: the row: for every input the law returns true, and each argument reads as it did (inputs of bulk at most 1048576).
-/
import Derived.Test.YtcbaolgciiieeaaGreatAnW
import Derived.Test.YtcbaolgciiieeaaGreatRwP
import Derived.Test.YtcbaolgciiieeaaGreatMgE
namespace Go.Proofs.YtcbaolgciiieeaaGreat.arrayRows
open Go.ChangeShapes Go.WideShapes Go.ChangeAt Go.RowKit
open Go.AM Go.Proofs.YtcbaolgciiieeaaGreat.Up
open Go.Proofs.YtcbaolgciiieeaaGreat.Rows (uptoBulk uptoBulkAll uptoSmall)
set_option maxRecDepth 20000
theorem own : ownKnob Tryz.prog.godebug = none := by kernel_rfl
theorem laid : laidOutB Tryz.prog = true := by kernel_rfl
theorem cells3 : Tryz.prog.cellsOf 3 = 1 := by kernel_rfl
theorem cells2 : Tryz.prog.cellsOf 2 = 1 := by kernel_rfl
theorem opens28 : OpensU Tryz.prog 28 Go.DN.SArray Go.DN.okSArray := fun enc W base sp held fuel cs x h hu => by
 obtain ⟨xs, n, _, rfl, hl, hlen, hf⟩ := DataW.trod_struct Tryz.underlying28 h
 have hub : uptoBulkAll (xs.map (·.1)) ≤ 1048576 := by have := hu; simp only [uptoBulk] at this; omega
 obtain ⟨a0, o0, r0⟩ := OpensU.field hlen hf 0 rfl (OpensU.slice Tryz.underlying22 cells3 (OpensU.of (Opens.int Tryz.underlying3))) hub
 obtain ⟨a1, o1, r1⟩ := OpensU.field hlen hf 1 rfl (OpensU.slice Tryz.underlying26 cells2 (OpensU.of (Opens.int Tryz.underlying2))) hub
 exact ⟨⟨a0, a1⟩, ⟨o0, o1⟩, (r0.append rfl r1).all (hl.trans (show Tryz.prog.cellsOf 28 = 2 by kernel_rfl))⟩
theorem readable26 : Tryz.prog.readableRec 26 = true ∧ 26 < Tryz.prog.types.size := ⟨by kernel_rfl, of_decide_eq_true (by kernel_rfl)⟩
theorem readable28 : Tryz.prog.readableRec 28 = true ∧ 28 < Tryz.prog.types.size := ⟨by kernel_rfl, of_decide_eq_true (by kernel_rfl)⟩
theorem contract (H : Type) (enc : TypeId × Value → H) (W : World) (base : Nat) (args : Array Value) (ds gs : List (DataW H)) (before : List MemPlace)
    (hval : ∀ (j : Nat) t v, Tryz.f6.params[j]? = some t → args[j]? = some v → Value.okWide Tryz.prog W .any base t v)
    (hW : DataW.Whole enc Tryz.prog Tryz.f6.params.toList Rows.arrayRowsSpec.vars false W args.toList ds gs before) (hk : Rows.uptoSmall H (ds ++ gs) = true) :
    Calls Tryz.prog 6 args W fun e W' => ∃ v, e = .returned v ∧ Rows.arrayRowsSpec.post enc Tryz.prog Tryz.f6 false true false false W args v W' := by
  have hW' := hW
  obtain ⟨p, q, hA0, hV, rfl, hfz, hnd⟩ := hW
  have hA : DataW.TrodAll enc Tryz.prog W 0 (fun _ => true) true Tryz.f6.params.toList args.toList ds p := hA0
  rw [Tryz.params6] at hA hval
  obtain ⟨v0, vs0, d0, ds0, p0, q0, hargs, rfl, rfl, h0, r0⟩ := trodAll_cons hA
  obtain ⟨v1, vs1, d1, ds1, p1, q1, rfl, rfl, rfl, h1, r1⟩ := trodAll_cons r0
  obtain ⟨v2, vs2, d2, ds2, p2, q2, rfl, rfl, rfl, h2, r2⟩ := trodAll_cons r1
  obtain ⟨rfl, rfl, rfl⟩ := trodAll_nil r2
  obtain rfl : args = #[v0, v1, v2] := by cases args; simp_all
  have hk2 := of_decide_eq_true hk
  obtain ⟨x0, k0, a0⟩ := argU_agg opens28 Tryz.underlying28 (hval 0 28 v0 rfl rfl) h0 (Nat.le_trans (bulk_mem (by simp)) hk2)
  obtain ⟨x1, k1, a1⟩ := argU_agg opens28 Tryz.underlying28 (hval 1 28 v1 rfl rfl) h1 (Nat.le_trans (bulk_mem (by simp)) hk2)
  obtain ⟨x2, k2, a2⟩ := argU_one (OpensU.slice Tryz.underlying26 cells2 (OpensU.of (Opens.int Tryz.underlying2))) (by rw [Tryz.underlying26]; intro _ h; cases h) (by rw [Tryz.underlying26]; intro _ _ h; cases h) (hval 2 26 v2 rfl rfl) h2 (Nat.le_trans (bulk_mem (by simp)) hk2)
  obtain ⟨fu, hfu⟩ := Go.DN.arrayRowsLaw x0 x1 x2 k0 k1 k2
  have hg := Go.DN.ConOk.law (Go.DN.c_adjointlaw2_ArrayRows_ok fu) (q := (x0, x1, x2)) (r := true) (gs := [.agg (Enc.cells x0), .agg (Enc.cells x1), .sl (List.length x2) (encs x2)]) hfu (by kernel_rfl) (by kernel_rfl) (by kernel_rfl) (by kernel_rfl)
  refine (hg.calls W [v0, v1, v2] rfl fun j g v hg hv => ?_).mono fun e W' ⟨he, hS⟩ => ?_
  · match j, hg, hv with
    | 0, hg, hv => cases hg; cases hv; exact a0
    | 1, hg, hv => cases hg; cases hv; exact a1
    | 2, hg, hv => cases hg; cases hv; exact a2 _ rfl
    | j + 3, hg, hv => simp at hg
  · subst he
    exact ⟨_, rfl, post_law rfl (by kernel_rfl) Tryz.underlying4 laid (by rw [Tryz.params6]; exact List.forall_mem_cons.2 ⟨readable28, List.forall_mem_cons.2 ⟨readable28, List.forall_mem_cons.2 ⟨readable26, fun _ h => by cases h⟩⟩⟩) hW' hS (fun h => by subst h; rfl)⟩
set_option maxRecDepth 100000 in
theorem lifted (os : Os) (started : os.Started) (H : Type) (enc : TypeId × Value → H) (F : Stop.Interp) :
  ReturnsInHanded {} Tryz.checked os 6 .any ((Rows.OpenSpec.upto Rows.arrayRowsSpec).pre6 enc Tryz.prog Tryz.f6 Rows.arrayRowsUptoRow.domain false) (((Rows.OpenSpec.upto Rows.arrayRowsSpec).at F).post enc Tryz.prog Tryz.f6 false true false false) := by
 refine returnsInHanded_of_cond (C := Tryz.checked) (s := Rows.OpenSpec.upto Rows.arrayRowsSpec) (k := Rows.uptoSmall) rfl own started (by kernel_rfl) Tryz.func6
  (OpenSpec.witness (enc := enc) (C := Tryz.checked) (s := Rows.OpenSpec.upto Rows.arrayRowsSpec) (k := Rows.uptoSmall) rfl false ⟨#[], #[.agg #[.slice none 0 0, .slice none 0 0], .agg #[.slice none 0 0, .slice none 0 0], .slice none 0 0], []⟩ 8 (by kernel_rfl) (by kernel_rfl) (by kernel_rfl)
   (x := ([.agg [.nil, .nil], .agg [.nil, .nil], .nil], [], [])) (by kernel_rfl) rfl (by kernel_rfl)) ?_
 intro W base args ds gs before hval hW _ hk _
 exact contract H enc W base args ds gs before hval hW hk
theorem proved : Rows.ArrayRowsUptoSaid :=
 OpenClaim.holds_of_cond 6 Tryz.f6 rfl rfl rfl rfl rfl rfl rfl ⟨rfl, rfl, rfl, rfl, rfl⟩ rfl rfl rfl rfl rfl (by kernel_rfl) Tryz.func6 (by kernel_rfl)
  (of_decide_eq_true (by kernel_rfl)) (by unfold Func.isWrapper; first | (rw [if_pos (by decide +kernel)]; kernel_rfl) | (rw [if_neg (by decide +kernel)]; exact ⟨rfl, rfl⟩))
  (fun os started H enc _ F => lifted os started H enc F)
end Go.Proofs.YtcbaolgciiieeaaGreat.arrayRows
