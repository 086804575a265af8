/-
  Text: what Read recovers.
-/
import Derived.Test.YtmhbeopldeccmaaDoorTfA
set_option maxRecDepth 20000
set_option linter.unusedVariables false
set_option linter.unusedSectionVars false
set_option linter.unusedSimpArgs false
namespace Go.DN
open Go.AM Go.Proofs
theorem P5 {X : Nat → Prop} {μ : Mu} {w : World} {v0 : Value} {a0 b0 : Int} {m : Md} (hX : ∀ b, X b → b < w.heap.size) (hst : cd (eg X (pr a0 b0) μ w) μ (pr a0 b0) w)
  (hv : aN ((eg X (pr a0 b0) μ w).O (pr a0 b0) μ) w.heap.size w μ (.loc 1000 0) v0) :
  CallsDIn (FF none) 0 Tryd.prog 37 #[v0] (qR 94 m) w fun e u' w' => ∃ v st' μ', e = .returned v ∧ (settle u' = .returning ∧ st' = (match m with | none => pr a0 b0 | some x => pr x.1 x.2)) ∧ cd (eg X (pr a0 b0) μ w) μ' st' w' := by
 refine callsDIn_of_wpSIn Tryd.func37 rfl trivial fun c0 cs hu => ?_
 have args : ∀ u : Value, ∀ (j : Nat) (g : G) (v : Value), ([.val u, .loc 1000 0] : List G)[j]? = some g → [u, v0][j]? = some v → aN ((eg X (pr a0 b0) μ w).O (pr a0 b0) μ) w.heap.size w μ g v := fun u j g v hg hv' => by
  match j with
  | 0 => cases hg; cases hv'; exact .aD (.val _)
  | 1 => cases hg; cases hv'; exact hv
  | j + 2 => cases hg
 have put : ∀ u : Value, Act.put { tmps := #[v0] ++ Array.replicate (Tryd.f37.ntmps - #[v0].size) undef, defers := [] } (some 1) u = ⟨#[v0, u, undef], []⟩ := fun u => by
  rw [Tryd.ntmps37]; rfl
 cases m with
 | none =>
  refine oZ rfl rfl rfl (by simp [Tryd.ntmps37, Region.wanted]) (fun f _ => trivial) (by simp [go_sem]) ⟨.nilIface, c0 :: cs, .inl ⟨by simp [recoverD, hu, qR], rfl, rfl⟩, ?_⟩
  have hc := mw (ro := none) (n := 0) |>.2 (Hc a0 b0 X μ w [.nilIface, v0] hX hst rfl (args _))
  change wpOpsIn _ _ _ _ _ _ (Act.put { tmps := #[v0] ++ Array.replicate (Tryd.f37.ntmps - #[v0].size) undef, defers := [] } (some 1) _) w
  rw [put]
  simp [wpOpsIn, Oper.wpIn, go_sem, Region.wanted, Tryd.call38]
  refine ⟨trivial, (fun h => by cases h), ?_⟩
  dsimp only
  simp [Act.eval]
  refine CallsIn.mono hc ?_
  rintro e w1 (⟨v, r, st', μ', rfl, ⟨rfl, rfl⟩, h3, h4⟩ | ⟨_, _, _, _, h, _⟩)
  · exact ⟨rfl, c0.mode, rfl, .tuple #[], by simp [results, Tryd.results37, go_sem], ⟨_, rfl⟩, _, ⟨by rw [hu]; rfl, rfl⟩, _, h3⟩
  · cases h
 | some x =>
  refine oZ rfl rfl rfl (by simp [Tryd.ntmps37, Region.wanted]) (fun f _ => trivial) (by simp [go_sem]) ⟨.iface 94 (.agg #[.int .i64 x.1, .int .i64 x.2]), { c0 with mode := .panicking [{ v := .iface 94 (.agg #[.int .i64 x.1, .int .i64 x.2]), recovered := true }] } :: cs, .inr (by simp [recoverD, hu, qR, PT]), ?_⟩
  have hc := mw (ro := none) (n := 0) |>.2 (Hb x.1 x.2 a0 b0 X μ w [.iface 94 (.agg #[.int .i64 x.1, .int .i64 x.2]), v0] hX hst rfl (args _))
  change wpOpsIn _ _ _ _ _ _ (Act.put { tmps := #[v0] ++ Array.replicate (Tryd.f37.ntmps - #[v0].size) undef, defers := [] } (some 1) _) w
  rw [put]
  simp [wpOpsIn, Oper.wpIn, go_sem, Region.wanted, Tryd.call38]
  refine ⟨trivial, (fun h => by cases h), ?_⟩
  dsimp only
  simp [Act.eval]
  refine CallsIn.mono hc ?_
  rintro e w1 (⟨v, r, st', μ', rfl, ⟨rfl, rfl⟩, h3, h4⟩ | ⟨_, _, _, _, h, _⟩)
  · exact ⟨rfl, _, rfl, .tuple #[], by simp [results, Tryd.results37, go_sem], ⟨_, rfl⟩, _, ⟨rfl, rfl⟩, _, h3⟩
  · cases h
section
variable {S:dr}
abbrev BN (S:dr):l6 S:=⟨37,[.loc 1000 0],[.box 77 false [.ae false (.int .i64),.ae false (.int .i64)]],false,[(1000,.box 77 false [.ae true (.int .i64),.ae true (.int .i64)])],true,fun m q=>some (match m with | none=>q | some x=>x)⟩
theorem D9:oa Tryd.prog 94 (BN S):=⟨Tryd.call37,fun m q r h=>by
 cases h
 intro X μ w vs hX hst hl ha
 match vs,hl with
 | [u],_=>
  have h0:=ha 0 _ u rfl rfl
  refine CallsDIn.mono (P5 (m:=m) (a0:=q.1) (b0:=q.2) hX hst h0) ?_
  rintro e u' w' ⟨v,st',μ',e1,⟨e2,e3⟩,e4⟩
  refine⟨v,st',μ',e1,⟨e2,?_⟩,e4⟩
  rw[e3]
  cases m <;> rfl⟩
end
end Go.DN
