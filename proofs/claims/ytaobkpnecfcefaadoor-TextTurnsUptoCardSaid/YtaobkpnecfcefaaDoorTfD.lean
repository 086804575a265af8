/-
  Text: what Read recovers.
-/
import Derived.Test.YtaobkpnecfcefaaDoorTfA
set_option maxRecDepth 20000
set_option linter.unusedVariables false
set_option linter.unusedSectionVars false
set_option linter.unusedSimpArgs false
namespace Go.DN
open Go.AM Go.Proofs
theorem TA {X : Nat → Prop} {μ : Mu} {w : World} {v0 : Value} {a0 b0 : Int} {m : Md} (hX : ∀ b, X b → b < w.heap.size) (hst : bP (dw X (gP a0 b0) μ w) μ (gP a0 b0) w)
  (hv : aM ((dw X (gP a0 b0) μ w).O (gP a0 b0) μ) w.heap.size w μ (.loc 1000 0) v0) :
  CallsDIn (FF none) 0 Tryd.prog 40 #[v0] (pK 92 m) w fun e u' w' => ∃ v st' μ', e = .returned v ∧ (settle u' = .returning ∧ st' = (match m with | none => gP a0 b0 | some x => gP x.1 x.2)) ∧ bP (dw X (gP a0 b0) μ w) μ' st' w' := by
 refine callsDIn_of_wpSIn Tryd.func40 rfl trivial fun c0 cs hu => ?_
 have args : ∀ u : Value, ∀ (j : Nat) (g : G) (v : Value), ([.val u, .loc 1000 0] : List G)[j]? = some g → [u, v0][j]? = some v → aM ((dw X (gP a0 b0) μ w).O (gP a0 b0) μ) w.heap.size w μ g v := fun u j g v hg hv' => by
  match j with
  | 0 => cases hg; cases hv'; exact .aC (.val _)
  | 1 => cases hg; cases hv'; exact hv
  | j + 2 => cases hg
 have put : ∀ u : Value, Act.put { tmps := #[v0] ++ Array.replicate (Tryd.f40.ntmps - #[v0].size) undef, defers := [] } (some 1) u = ⟨#[v0, u, undef], []⟩ := fun u => by
  rw [Tryd.ntmps40]; rfl
 cases m with
 | none =>
  refine lI rfl rfl rfl (by simp [Tryd.ntmps40, Region.wanted]) (fun f _ => trivial) (by simp [go_sem]) ⟨.nilIface, c0 :: cs, .inl ⟨by simp [recoverD, hu, pK], rfl, rfl⟩, ?_⟩
  have hc := j0 (ro := none) (n := 0) |>.2 (wz a0 b0 X μ w [.nilIface, v0] hX hst rfl (args _))
  change wpOpsIn _ _ _ _ _ _ (Act.put { tmps := #[v0] ++ Array.replicate (Tryd.f40.ntmps - #[v0].size) undef, defers := [] } (some 1) _) w
  rw [put]
  simp [wpOpsIn, Oper.wpIn, go_sem, Region.wanted, Tryd.call30]
  refine ⟨trivial, (fun h => by cases h), ?_⟩
  dsimp only
  simp [Act.eval]
  refine CallsIn.mono hc ?_
  rintro e w1 (⟨v, r, st', μ', rfl, ⟨rfl, rfl⟩, h3, h4⟩ | ⟨_, _, _, _, h, _⟩)
  · exact ⟨rfl, c0.mode, rfl, .tuple #[], by simp [results, Tryd.results40, go_sem], ⟨_, rfl⟩, _, ⟨by rw [hu]; rfl, rfl⟩, _, h3⟩
  · cases h
 | some x =>
  refine lI rfl rfl rfl (by simp [Tryd.ntmps40, Region.wanted]) (fun f _ => trivial) (by simp [go_sem]) ⟨.iface 92 (.agg #[.int .i64 x.1, .int .i64 x.2]), { c0 with mode := .panicking [{ v := .iface 92 (.agg #[.int .i64 x.1, .int .i64 x.2]), recovered := true }] } :: cs, .inr (by simp [recoverD, hu, pK, yZ]), ?_⟩
  have hc := j0 (ro := none) (n := 0) |>.2 (wy x.1 x.2 a0 b0 X μ w [.iface 92 (.agg #[.int .i64 x.1, .int .i64 x.2]), v0] hX hst rfl (args _))
  change wpOpsIn _ _ _ _ _ _ (Act.put { tmps := #[v0] ++ Array.replicate (Tryd.f40.ntmps - #[v0].size) undef, defers := [] } (some 1) _) w
  rw [put]
  simp [wpOpsIn, Oper.wpIn, go_sem, Region.wanted, Tryd.call30]
  refine ⟨trivial, (fun h => by cases h), ?_⟩
  dsimp only
  simp [Act.eval]
  refine CallsIn.mono hc ?_
  rintro e w1 (⟨v, r, st', μ', rfl, ⟨rfl, rfl⟩, h3, h4⟩ | ⟨_, _, _, _, h, _⟩)
  · exact ⟨rfl, _, rfl, .tuple #[], by simp [results, Tryd.results40, go_sem], ⟨_, rfl⟩, _, ⟨rfl, rfl⟩, _, h3⟩
  · cases h
section
variable {S:dx}
abbrev DR (S:dx):kO S:=⟨40,[.loc 1000 0],[.box 29 false [.ab false (.int .i64),.ab false (.int .i64)]],false,[(1000,.box 29 false [.ab true (.int .i64),.ab true (.int .i64)])],true,fun m q=>some (match m with | none=>q | some x=>x)⟩
theorem Ga:ja Tryd.prog 92 (DR S):=⟨Tryd.call40,fun m q r h=>by
 cases h
 intro X μ w vs hX hst hl ha
 match vs,hl with
 | [u],_=>
  have h0:=ha 0 _ u rfl rfl
  refine CallsDIn.mono (TA (m:=m) (a0:=q.1) (b0:=q.2) hX hst h0) ?_
  rintro e u' w' ⟨v,st',μ',e1,⟨e2,e3⟩,e4⟩
  refine⟨v,st',μ',e1,⟨e2,?_⟩,e4⟩
  rw[e3]
  cases m <;> rfl⟩
end
end Go.DN
