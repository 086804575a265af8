/-
  NestRuns: the row: for every input the law returns true, and each argument reads as it did (inputs of bulk at most 1048576).
-/
import Derived.Test.YtiejhkajpnjnnaaNsW
import Derived.Test.YtiejhkajpnjnnaaNpP
import Derived.Test.YtiejhkajpnjnnaaMgE
namespace Go.Proofs.Ytiejhkajpnjnnaa.nestRuns
open Go.ChangeShapes Go.WideShapes Go.ChangeAt Go.RowKit
open Go.AM Go.Proofs.Ytiejhkajpnjnnaa.Up
open Go.Proofs.Ytiejhkajpnjnnaa.Rows (uptoBulk uptoBulkAll uptoSmall)
set_option maxRecDepth 20000
theorem own : ownKnob Try.prog.godebug = none := by kernel_rfl
theorem laid : laidOutB Try.prog = true := by kernel_rfl
theorem cells3 : Try.prog.cellsOf 3 = 1 := by kernel_rfl
theorem opens40 : OpensU Try.prog 40 Go.DN.SRow Go.DN.okSRow := fun enc W base sp held fuel cs x h hu => by
 obtain ⟨xs, n, _, rfl, hl, hlen, hf⟩ := DataW.trod_struct Try.underlying40 h
 have hub : uptoBulkAll (xs.map (·.1)) ≤ 1048576 := by have := hu; simp only [uptoBulk] at this; omega
 obtain ⟨a0, o0, r0⟩ := OpensU.field hlen hf 0 rfl (OpensU.slice Try.underlying22 cells3 (OpensU.of (Opens.int Try.underlying3))) hub
 obtain ⟨a1, o1, r1⟩ := OpensU.field hlen hf 1 rfl (OpensU.of (Opens.int Try.underlying3)) hub
 exact ⟨⟨a0, a1⟩, ⟨o0, o1⟩, (r0.append rfl r1).all (hl.trans (show Try.prog.cellsOf 40 = 2 by kernel_rfl))⟩
theorem cells40 : Try.prog.cellsOf 40 = 2 := by kernel_rfl
theorem opens38 : OpensU Try.prog 38 Go.DN.SPoints Go.DN.okSPoints := fun enc W base sp held fuel cs x h hu => by
 obtain ⟨xs, n, _, rfl, hl, hlen, hf⟩ := DataW.trod_struct Try.underlying38 h
 have hub : uptoBulkAll (xs.map (·.1)) ≤ 1048576 := by have := hu; simp only [uptoBulk] at this; omega
 obtain ⟨a0, o0, r0⟩ := OpensU.field hlen hf 0 rfl (OpensU.slice Try.underlying22 cells3 (OpensU.of (Opens.int Try.underlying3))) hub
 obtain ⟨a1, o1, r1⟩ := OpensU.field hlen hf 1 rfl (OpensU.slice Try.underlying36 cells40 opens40) hub
 exact ⟨⟨a0, a1⟩, ⟨o0, o1⟩, (r0.append rfl r1).all (hl.trans (show Try.prog.cellsOf 38 = 2 by kernel_rfl))⟩
theorem opens42 : OpensU Try.prog 42 Go.DN.SAccess Go.DN.okSAccess := fun enc W base sp held fuel cs x h hu => by
 obtain ⟨xs, n, _, rfl, hl, hlen, hf⟩ := DataW.trod_struct Try.underlying42 h
 have hub : uptoBulkAll (xs.map (·.1)) ≤ 1048576 := by have := hu; simp only [uptoBulk] at this; omega
 obtain ⟨a0, o0, r0⟩ := OpensU.field hlen hf 0 rfl (OpensU.of (Opens.int Try.underlying3)) hub
 obtain ⟨a1, o1, r1⟩ := OpensU.field hlen hf 1 rfl opens40 hub
 exact ⟨⟨a0, a1⟩, ⟨o0, o1⟩, (r0.append rfl r1).all (hl.trans (show Try.prog.cellsOf 42 = 3 by kernel_rfl))⟩
theorem cells42 : Try.prog.cellsOf 42 = 3 := by kernel_rfl
theorem opens45 : OpensU Try.prog 45 Go.DN.SStmt Go.DN.okSStmt := fun enc W base sp held fuel cs x h hu => by
 obtain ⟨xs, n, _, rfl, hl, hlen, hf⟩ := DataW.trod_struct Try.underlying45 h
 have hub : uptoBulkAll (xs.map (·.1)) ≤ 1048576 := by have := hu; simp only [uptoBulk] at this; omega
 obtain ⟨a0, o0, r0⟩ := OpensU.field hlen hf 0 rfl opens38 hub
 obtain ⟨a1, o1, r1⟩ := OpensU.field hlen hf 1 rfl (OpensU.of (Opens.int Try.underlying3)) hub
 obtain ⟨a2, o2, r2⟩ := OpensU.field hlen hf 2 rfl (OpensU.of (Opens.int Try.underlying2)) hub
 obtain ⟨a3, o3, r3⟩ := OpensU.field hlen hf 3 rfl opens42 hub
 obtain ⟨a4, o4, r4⟩ := OpensU.field hlen hf 4 rfl (OpensU.slice Try.underlying43 cells42 opens42) hub
 exact ⟨⟨a0, a1, a2, a3, a4⟩, ⟨o0, o1, o2, o3, o4⟩, (r0.append rfl (r1.append rfl (r2.append rfl (r3.append rfl r4)))).all (hl.trans (show Try.prog.cellsOf 45 = 8 by kernel_rfl))⟩
theorem cells45 : Try.prog.cellsOf 45 = 8 := by kernel_rfl
theorem opens25 : OpensU Try.prog 25 Go.DN.SNest Go.DN.okSNest := fun enc W base sp held fuel cs x h hu => by
 obtain ⟨xs, n, _, rfl, hl, hlen, hf⟩ := DataW.trod_struct Try.underlying25 h
 have hub : uptoBulkAll (xs.map (·.1)) ≤ 1048576 := by have := hu; simp only [uptoBulk] at this; omega
 obtain ⟨a0, o0, r0⟩ := OpensU.field hlen hf 0 rfl (OpensU.slice Try.underlying22 cells3 (OpensU.of (Opens.int Try.underlying3))) hub
 obtain ⟨a1, o1, r1⟩ := OpensU.field hlen hf 1 rfl (OpensU.slice Try.underlying23 cells45 opens45) hub
 exact ⟨⟨a0, a1⟩, ⟨o0, o1⟩, (r0.append rfl r1).all (hl.trans (show Try.prog.cellsOf 25 = 2 by kernel_rfl))⟩
theorem cells2 : Try.prog.cellsOf 2 = 1 := by kernel_rfl
theorem cells57 : Try.prog.cellsOf 57 = 1 := by kernel_rfl
theorem readable25 : Try.prog.readableRec 25 = true ∧ 25 < Try.prog.types.size := ⟨by kernel_rfl, of_decide_eq_true (by kernel_rfl)⟩
theorem readable26 : Try.prog.readableRec 26 = true ∧ 26 < Try.prog.types.size := ⟨by kernel_rfl, of_decide_eq_true (by kernel_rfl)⟩
theorem contract (H : Type) (enc : TypeId × Value → H) (W : World) (base : Nat) (args : Array Value) (ds gs : List (DataW H)) (before : List MemPlace)
    (hval : ∀ (j : Nat) t v, Try.f3.params[j]? = some t → args[j]? = some v → Value.okWide Try.prog W .any base t v)
    (hW : DataW.Whole enc Try.prog Try.f3.params.toList Rows.nestRunsSpec.vars false W args.toList ds gs before) (hk : Rows.uptoSmall H (ds ++ gs) = true) :
    Calls Try.prog 3 args W fun e W' => ∃ v, e = .returned v ∧ Rows.nestRunsSpec.post enc Try.prog Try.f3 false true false false W args v W' := by
  have hW' := hW
  obtain ⟨p, q, hA0, hV, rfl, hfz, hnd⟩ := hW
  have hA : DataW.TrodAll enc Try.prog W 0 (fun _ => true) true Try.f3.params.toList args.toList ds p := hA0
  rw [Try.params3] at hA hval
  obtain ⟨v0, vs0, d0, ds0, p0, q0, hargs, rfl, rfl, h0, r0⟩ := trodAll_cons hA
  obtain ⟨v1, vs1, d1, ds1, p1, q1, rfl, rfl, rfl, h1, r1⟩ := trodAll_cons r0
  obtain ⟨rfl, rfl, rfl⟩ := trodAll_nil r1
  obtain rfl : args = #[v0, v1] := by cases args; simp_all
  have hk2 := of_decide_eq_true hk
  obtain ⟨x0, k0, a0⟩ := argU_agg opens25 Try.underlying25 (hval 0 25 v0 rfl rfl) h0 (Nat.le_trans (bulk_mem (by simp)) hk2)
  obtain ⟨x1, k1, a1⟩ := argU_one (OpensU.slice Try.underlying26 cells57 (OpensU.slice Try.underlying57 cells2 (OpensU.of (Opens.int Try.underlying2)))) (by rw [Try.underlying26]; intro _ h; cases h) (by rw [Try.underlying26]; intro _ _ h; cases h) (hval 1 26 v1 rfl rfl) h1 (Nat.le_trans (bulk_mem (by simp)) hk2)
  obtain ⟨fu, hfu⟩ := Go.DN.nestRunsLaw x0 x1 k0 k1
  have hg := Go.DN.ConOk.law (Go.DN.c_adjointlaw10_NestRuns_ok fu) (q := (x0, x1)) (r := true) (gs := [.agg (Enc.cells x0), .sl (List.length x1) (encs x1)]) hfu (by kernel_rfl) (by kernel_rfl) (by kernel_rfl) (by kernel_rfl)
  refine (hg.calls W [v0, v1] rfl fun j g v hg hv => ?_).mono fun e W' ⟨he, hS⟩ => ?_
  · match j, hg, hv with
    | 0, hg, hv => cases hg; cases hv; exact a0
    | 1, hg, hv => cases hg; cases hv; exact a1 _ rfl
    | j + 2, hg, hv => simp at hg
  · subst he
    exact ⟨_, rfl, post_law rfl (by kernel_rfl) Try.underlying4 laid (by rw [Try.params3]; exact List.forall_mem_cons.2 ⟨readable25, List.forall_mem_cons.2 ⟨readable26, fun _ h => by cases h⟩⟩) hW' hS (fun h => by subst h; rfl)⟩
set_option maxRecDepth 100000 in
theorem lifted (os : Os) (started : os.Started) (H : Type) (enc : TypeId × Value → H) (F : Stop.Interp) :
  ReturnsInHanded {} Try.checked os 3 .any ((Rows.OpenSpec.upto Rows.nestRunsSpec).pre6 enc Try.prog Try.f3 Rows.nestRunsUptoRow.domain false) (((Rows.OpenSpec.upto Rows.nestRunsSpec).at F).post enc Try.prog Try.f3 false true false false) := by
 refine returnsInHanded_of_cond (C := Try.checked) (s := Rows.OpenSpec.upto Rows.nestRunsSpec) (k := Rows.uptoSmall) rfl own started (by kernel_rfl) Try.func3
  (OpenSpec.witness (enc := enc) (C := Try.checked) (s := Rows.OpenSpec.upto Rows.nestRunsSpec) (k := Rows.uptoSmall) rfl false ⟨#[], #[.agg #[.slice none 0 0, .slice none 0 0], .slice none 0 0], []⟩ 8 (by kernel_rfl) (by kernel_rfl) (by kernel_rfl)
   (x := ([.agg [.nil, .nil], .nil], [], [])) (by kernel_rfl) rfl (by kernel_rfl)) ?_
 intro W base args ds gs before hval hW _ hk _
 exact contract H enc W base args ds gs before hval hW hk
theorem proved : Rows.NestRunsUptoSaid :=
 OpenClaim.holds_of_cond 3 Try.f3 rfl rfl rfl rfl rfl rfl rfl ⟨rfl, rfl, rfl, rfl, rfl⟩ rfl rfl rfl rfl rfl (by kernel_rfl) Try.func3 (by kernel_rfl)
  (of_decide_eq_true (by kernel_rfl)) (by unfold Func.isWrapper; first | (rw [if_pos (by decide +kernel)]; kernel_rfl) | (rw [if_neg (by decide +kernel)]; exact ⟨rfl, rfl⟩))
  (fun os started H enc _ F => lifted os started H enc F)
end Go.Proofs.Ytiejhkajpnjnnaa.nestRuns
