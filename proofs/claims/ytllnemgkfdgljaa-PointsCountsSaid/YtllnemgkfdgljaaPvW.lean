/-
  Each function returns what its partial function of plain data says, where that says something (printed by wip/tools/gen.py).
-/
import Derived.Test.YtllnemgkfdgljaaPvF
import Derived.Test.YtllnemgkfdgljaaProg
set_option linter.unusedSectionVars false
set_option linter.unusedSimpArgs false
namespace Go.Proofs.Ytllnemgkfdgljaa
open Go.AM
set_option maxHeartbeats 4000000
set_option maxRecDepth 20000
set_option linter.unusedVariables false

theorem mixed : Try.prog.follows .mixedOrders = true := by kernel_rfl
theorem info3 : (Try.prog.info? 3).map (fun i => (i.zero, i.size, i.bytes)) = some (some (.int .i64 0), 1, 8) := by kernel_rfl
theorem info22 : (Try.prog.info? 22).map (fun i => (i.zero, i.size, i.bytes)) = some (some (.slice none 0 0), 1, 24) := by kernel_rfl

theorem points_Row_1_ok (fu : Nat) (n0 : Int) (r : Bool) (H : F.points_Row_1 fu n0 = some r) : GM Try.prog 40 [.val (.int .i64 n0)] [] (fun g st => g = .val (.bool r) ∧ st = []) := by
  unfold F.points_Row_1 at H
  refine GM.of (N := 9) Try.func40 rfl rfl rfl (fun cx hro => ?_)
  change GW _ _ _ _ _ _
  refine GW.seq ?_
  refine GW.region ?_
  refine GL.py (PY.assign rfl) rfl rfl ?_
  refine GL.nil ?_
  change GW _ _ _ _ _ _
  refine GW.seq ?_
  obtain ⟨e2, he2, H⟩ := bind_some H
  obtain ⟨i1, rfl⟩ : ∃ z, z = e2 := ⟨_, rfl⟩
  refine GW.mono (Q := QB .normal (fun (q : Bool) => (⟨[(2, .val (.bool q))], [], []⟩ : St)) i1) ?_ ?_
  · have H := he2
    refine GW.region ?_
    refine GL.py (PY.move rfl) rfl rfl ?_
    refine GL.py (PY.bin rfl rfl rfl) rfl rfl ?_
    refine GL.py (PY.move rfl) rfl rfl ?_
    refine (Bool.eq_false_or_eq_true (decide (n0 < (-1048576)))).elim (fun hg1 => ?_) (fun hg1 => ?_)
    · have H := condT hg1 H
      refine GL.lit 5 rfl hg1 ?_
      refine GL.nou rfl rfl ?_
      refine GL.nou rfl rfl ?_
      refine GL.py (PY.pickT rfl rfl) rfl rfl ?_
      refine GL.py (PY.assign rfl) rfl rfl ?_
      refine GL.nil ?_
      cases H
      exact And.intro rfl ⟨⟨rfl, trivial⟩, trivial, rfl⟩
    · have H := condF hg1 H
      refine GL.lit 5 rfl hg1 ?_
      refine GL.py (PY.move rfl) rfl rfl ?_
      refine GL.py (PY.bin rfl rfl rfl) rfl rfl ?_
      refine GL.py (PY.pickF rfl rfl) rfl rfl ?_
      refine GL.py (PY.assign rfl) rfl rfl ?_
      refine GL.nil ?_
      cases H
      exact And.intro rfl ⟨⟨rfl, trivial⟩, trivial, rfl⟩
  · rintro _ s2 ⟨rfl, hs⟩
    change GW _ _ _ _ _ _
    refine GW.weak _ hs ?_
    refine GW.weak ⟨[(2, .val (.bool i1))], [], []⟩ ⟨⟨rfl, trivial⟩, trivial, rfl⟩ ?_
    change GW _ _ _ _ _ _
    refine GW.ret ?_
    have H := Option.some.inj H
    subst H
    exact RetQ.mk (.inl rfl) [.val (.bool i1)] _ [] ⟨Res.tmp rfl, trivial⟩ trivial rfl ⟨rfl, rfl⟩

theorem slices_IndexFunc_ok (fu : Nat) (s0 : (List Int)) (r : Int) (H : F.slices_IndexFunc fu s0 = some r) : GM Try.prog 47 [.sl (List.length s0) (encs s0), .clo 40 []] [] (fun g st => g = .val (.int .i64 r) ∧ st = []) := by
  unfold F.slices_IndexFunc at H
  refine GM.of (N := 19) Try.func47 rfl rfl rfl (fun cx hro => ?_)
  change GW _ _ _ _ _ _
  refine GW.seq ?_
  refine GW.region ?_
  refine GL.py (PY.assign rfl) rfl rfl ?_
  refine GL.nil ?_
  change GW _ _ _ _ _ _
  refine GW.seq ?_
  refine GW.seq ?_
  refine GW.region ?_
  refine GL.py (PY.move rfl) rfl rfl ?_
  refine GL.py (PY.len rfl rfl Try.underlying22) rfl rfl ?_
  refine GL.py (PY.move rfl) rfl rfl ?_
  refine GL.nil ?_
  change GW _ _ _ _ _ _
  refine GW.block ?_
  obtain ⟨e3, he3, Hb, Hr⟩ := bindE_some H
  refine GW.weak ((fun (q : Int) => (⟨[(0, .sl (List.length s0) (encs s0)), (1, .clo 40 []), (7, .val (.int .i64 (List.length s0 : Int))), (8, .val (.int .i64 q))], [], []⟩ : St)) 0) ⟨⟨rfl, rfl, rfl, rfl, trivial⟩, trivial, rfl⟩ ?_
  refine GW.loopF (fun (q : Int) => (⟨[(0, .sl (List.length s0) (encs s0)), (1, .clo 40 []), (7, .val (.int .i64 (List.length s0 : Int))), (8, .val (.int .i64 q))], [], []⟩ : St)) (QJ (.exit 0) (fun (q : Unit) => (⟨[], [], []⟩ : St)) (fun r2 _ s2 => RetQ Try.prog Try.f47 (fun g st => g = .val (.int .i64 r2) ∧ st = []) .ret s2)) he3 (fun x o hb => ?_) (fun ex s2 _ hx => ?_)
  · obtain ⟨i1, rfl⟩ : ∃ z, z = x := ⟨_, rfl⟩
    have H := hb
    unfold F.slices_IndexFunc_l1 at H
    try dsimp only at H
    refine GW.weak ⟨[(0, .sl (List.length s0) (encs s0)), (1, .clo 40 []), (7, .val (.int .i64 (List.length s0 : Int))), (8, .val (.int .i64 i1))], [], []⟩ ⟨⟨rfl, rfl, rfl, rfl, trivial⟩, trivial, rfl⟩ ?_
    refine GW.seq ?_
    refine GW.region ?_
    refine GL.py (PY.bin rfl rfl rfl) rfl rfl ?_
    refine GL.nil ?_
    change GW _ _ _ _ _ _
    refine GW.seq ?_
    refine GW.cond rfl (fun hc1 => ?_) (fun hc1 => ?_)
    · have H := condT hc1 H
      refine GW.skip ?_
      change GW _ _ _ _ _ _
      refine GW.seq ?_
      refine GW.block ?_
      refine GW.seq ?_
      refine GW.region ?_
      refine GL.py (PY.move rfl) rfl rfl ?_
      refine GL.py (PY.assign rfl) rfl rfl ?_
      refine GL.nil ?_
      change GW _ _ _ _ _ _
      refine GW.seq ?_
      obtain ⟨x2, hx2, H⟩ := bind_some H
      obtain ⟨r3, hr3, H⟩ := bind_some H
      refine GW.region ?_
      refine GL.py (PY.move rfl) rfl rfl ?_
      refine GL.py (PY.move rfl) rfl rfl ?_
      refine GL.py (PY.move rfl) rfl rfl ?_
      refine GL.py (PY.index rfl rfl rfl (idx_spec hx2).1 (idx_spec hx2).2.1 Try.underlying22 Try.sizeOf3) rfl rfl ?_
      refine GL.y (YT.elt (α := Int) rfl hx2 rfl Try.isAgg3) rfl rfl ?_
      refine GL.e (W := []) (EF.callV 4 Try.call40 rfl rfl (mapO_cons rfl rfl) (points_Row_1_ok fu x2 r3 hr3) (by rintro _ _ ⟨rfl, rfl⟩; rfl)) rfl rfl ?_
      rintro _ ⟨_, _, ⟨rfl, rfl⟩, rfl⟩
      refine GL.nil ?_
      change GW _ _ _ _ _ _
      refine GW.cond rfl (fun hc2 => ?_) (fun hc2 => ?_)
      · have H := condT hc2 H
        refine GW.seq ?_
        refine GW.region ?_
        refine GL.py (PY.move rfl) rfl rfl ?_
        refine GL.py (PY.assign rfl) rfl rfl ?_
        refine GL.nil ?_
        change GW _ _ _ _ _ _
        refine GW.ret ?_
        cases H
        exact And.intro ret_ne (And.intro rfl (RetQ.mk (.inl rfl) [.val (.int .i64 i1)] _ [] ⟨Res.tmp rfl, trivial⟩ trivial rfl ⟨rfl, rfl⟩))
      · have H := condF hc2 H
        refine GW.skip ?_
        change GW _ _ _ _ _ _
        refine GW.region ?_
        refine GL.py (PY.bin rfl rfl rfl) rfl rfl ?_
        refine GL.py (PY.move rfl) rfl rfl ?_
        refine GL.nil ?_
        cases H
        exact And.intro rfl ⟨⟨rfl, rfl, rfl, rfl, trivial⟩, trivial, rfl⟩
    · have H := condF hc1 H
      refine GW.exit ?_
      cases H
      exact And.intro exit_ne (And.intro rfl ⟨trivial, trivial, rfl⟩)
  · cases e3 with
    | ret r2 =>
      obtain ⟨rfl, hx⟩ := hx
      have H := Hr r2 rfl
      subst H
      exact hx
    | brk b2 =>
      obtain ⟨rfl, hs⟩ := hx
      have H := Hb b2 rfl
      change GW _ _ _ _ _ _
      refine GW.weak _ hs ?_
      refine GW.weak ⟨[], [], []⟩ ⟨trivial, trivial, rfl⟩ ?_
      change GW _ _ _ _ _ _
      refine GW.seq ?_
      refine GW.region ?_
      refine GL.py (PY.assign rfl) rfl rfl ?_
      refine GL.nil ?_
      change GW _ _ _ _ _ _
      refine GW.ret ?_
      have H := Option.some.inj H
      subst H
      exact RetQ.mk (.inl rfl) [.val (.int .i64 (-1))] _ [] ⟨Res.tmp rfl, trivial⟩ trivial rfl ⟨rfl, rfl⟩

theorem slices_ContainsFunc_ok (fu : Nat) (s0 : (List Int)) (r : Bool) (H : F.slices_ContainsFunc fu s0 = some r) : GM Try.prog 41 [.sl (List.length s0) (encs s0), .clo 40 []] [] (fun g st => g = .val (.bool r) ∧ st = []) := by
  unfold F.slices_ContainsFunc at H
  refine GM.of (N := 9) Try.func41 rfl rfl rfl (fun cx hro => ?_)
  change GW _ _ _ _ _ _
  refine GW.seq ?_
  refine GW.region ?_
  refine GL.py (PY.assign rfl) rfl rfl ?_
  refine GL.nil ?_
  change GW _ _ _ _ _ _
  refine GW.seq ?_
  obtain ⟨r1, hr1, H⟩ := bind_some H
  refine GW.region ?_
  refine GL.py (PY.move rfl) rfl rfl ?_
  refine GL.py (PY.move rfl) rfl rfl ?_
  refine GL.e (W := []) (EF.call 4 Try.call47 rfl (mapO_cons rfl (mapO_cons rfl rfl)) (slices_IndexFunc_ok fu s0 r1 hr1) (by rintro _ _ ⟨rfl, rfl⟩; rfl)) rfl rfl ?_
  rintro _ ⟨_, _, ⟨rfl, rfl⟩, rfl⟩
  refine GL.py (PY.bin rfl rfl rfl) rfl rfl ?_
  refine GL.py (PY.assign rfl) rfl rfl ?_
  refine GL.nil ?_
  change GW _ _ _ _ _ _
  refine GW.ret ?_
  have H := Option.some.inj H
  subst H
  exact RetQ.mk (.inl rfl) [.val (.bool (decide (r1 ≥ 0)))] _ [] ⟨Res.tmp rfl, trivial⟩ trivial rfl ⟨rfl, rfl⟩

theorem points_Row_ok (fu : Nat) (r0 : SRow) (vars0 : Int) (r : Int) (H : F.points_Row fu r0 vars0 = some r) : GM Try.prog 33 [.agg [.sl (List.length r0.Coef) (encs r0.Coef), .val (.int .i64 r0.Const)], .val (.int .i64 vars0)] [] (fun g st => g = .val (.int .i64 r) ∧ st = []) := by
  unfold F.points_Row at H
  refine GM.of (N := 21) Try.func33 rfl rfl rfl (fun cx hro => ?_)
  change GW _ _ _ _ _ _
  refine GW.seq ?_
  refine GW.region ?_
  refine GL.e1 (W := []) (EF.box 0 rfl rfl rfl) rfl rfl ?_
  refine GL.py (PY.assign rfl) rfl rfl ?_
  refine GL.nil ?_
  change GW _ _ _ _ _ _
  refine GW.seq ?_
  refine GW.seq ?_
  refine GW.region ?_
  refine GL.py (PY.field rfl rfl Try.underlying52 rfl Try.sizeOf22 (by decide)) rfl rfl ?_
  refine GL.y (YL.loadN rfl rfl rfl Try.isAgg22 rfl rfl) rfl rfl ?_
  refine GL.py (PY.len rfl rfl Try.underlying22) rfl rfl ?_
  refine GL.py (PY.move rfl) rfl rfl ?_
  refine GL.py (PY.bin rfl rfl rfl) rfl rfl ?_
  refine GL.nil ?_
  change GW _ _ _ _ _ _
  refine GW.cond rfl (fun hc1 => ?_) (fun hc1 => ?_)
  · have H := condT hc1 H
    refine GW.seq ?_
    refine GW.region ?_
    refine GL.py (PY.assign rfl) rfl rfl ?_
    refine GL.nil ?_
    change GW _ _ _ _ _ _
    refine GW.ret ?_
    have H := Option.some.inj H
    subst H
    exact RetQ.mk (.inl rfl) [.val (.int .i64 6)] _ [] ⟨Res.tmp rfl, trivial⟩ trivial rfl ⟨rfl, rfl⟩
  · have H := condF hc1 H
    refine GW.skip ?_
    change GW _ _ _ _ _ _
    refine GW.seq ?_
    refine GW.region ?_
    refine GL.py (PY.assign rfl) rfl rfl ?_
    refine GL.nil ?_
    change GW _ _ _ _ _ _
    refine GW.seq ?_
    refine GW.seq ?_
    obtain ⟨r1, hr1, H⟩ := bind_some H
    obtain ⟨e4, he4, H⟩ := bind_some H
    obtain ⟨i3, rfl⟩ : ∃ z, z = e4 := ⟨_, rfl⟩
    refine GW.mono (Q := QB .normal (fun (q : Bool) => (⟨[(20, .val (.bool q))], [], []⟩ : St)) i3) ?_ ?_
    · have H := he4
      refine GW.region ?_
      refine GL.py (PY.move rfl) rfl rfl ?_
      refine GL.py (PY.field rfl rfl Try.underlying52 rfl Try.sizeOf3 (by decide)) rfl rfl ?_
      refine GL.y (YL.loadN rfl rfl rfl Try.isAgg3 rfl rfl) rfl rfl ?_
      refine GL.e (W := []) (EF.callV 4 Try.call40 rfl rfl (mapO_cons rfl rfl) (points_Row_1_ok fu r0.Const r1 hr1) (by rintro _ _ ⟨rfl, rfl⟩; rfl)) rfl rfl ?_
      rintro _ ⟨_, _, ⟨rfl, rfl⟩, rfl⟩
      refine GL.py (PY.move rfl) rfl rfl ?_
      refine (Bool.eq_false_or_eq_true r1).elim (fun hg2 => ?_) (fun hg2 => ?_)
      · have H := condT hg2 H
        refine GL.lit 15 rfl hg2 ?_
        refine GL.nou rfl rfl ?_
        refine GL.nou rfl rfl ?_
        refine GL.nou rfl rfl ?_
        refine GL.nou rfl rfl ?_
        refine GL.py (PY.pickT rfl rfl) rfl rfl ?_
        refine GL.nil ?_
        cases H
        exact And.intro rfl ⟨⟨rfl, trivial⟩, trivial, rfl⟩
      · have H := condF hg2 H
        obtain ⟨r2, hr2, H⟩ := bind_some H
        refine GL.lit 15 rfl hg2 ?_
        refine GL.py (PY.field rfl rfl Try.underlying52 rfl Try.sizeOf22 (by decide)) rfl rfl ?_
        refine GL.y (YL.loadN rfl rfl rfl Try.isAgg22 rfl rfl) rfl rfl ?_
        refine GL.py (PY.move rfl) rfl rfl ?_
        refine GL.e (W := []) (EF.call 4 Try.call41 rfl (mapO_cons rfl (mapO_cons rfl rfl)) (slices_ContainsFunc_ok fu r0.Coef r2 hr2) (by rintro _ _ ⟨rfl, rfl⟩; rfl)) rfl rfl ?_
        rintro _ ⟨_, _, ⟨rfl, rfl⟩, rfl⟩
        refine GL.py (PY.pickF rfl rfl) rfl rfl ?_
        refine GL.nil ?_
        cases H
        exact And.intro rfl ⟨⟨rfl, trivial⟩, trivial, rfl⟩
    · rintro _ s2 ⟨rfl, hs⟩
      change GW _ _ _ _ _ _
      refine GW.weak _ hs ?_
      refine GW.weak ⟨[(20, .val (.bool i3))], [], []⟩ ⟨⟨rfl, trivial⟩, trivial, rfl⟩ ?_
      change GW _ _ _ _ _ _
      refine GW.cond rfl (fun hc3 => ?_) (fun hc3 => ?_)
      · have H := condT hc3 H
        refine GW.seq ?_
        refine GW.region ?_
        refine GL.py (PY.assign rfl) rfl rfl ?_
        refine GL.nil ?_
        change GW _ _ _ _ _ _
        refine GW.ret ?_
        have H := Option.some.inj H
        subst H
        exact RetQ.mk (.inl rfl) [.val (.int .i64 4)] _ [] ⟨Res.tmp rfl, trivial⟩ trivial rfl ⟨rfl, rfl⟩
      · have H := condF hc3 H
        refine GW.skip ?_
        change GW _ _ _ _ _ _
        refine GW.seq ?_
        refine GW.region ?_
        refine GL.py (PY.assign rfl) rfl rfl ?_
        refine GL.nil ?_
        change GW _ _ _ _ _ _
        refine GW.ret ?_
        have H := Option.some.inj H
        subst H
        exact RetQ.mk (.inl rfl) [.val (.int .i64 0)] _ [] ⟨Res.tmp rfl, trivial⟩ trivial rfl ⟨rfl, rfl⟩

theorem points_Wrong_ok (fu : Nat) (p0 : SPoints) (r : Int) (H : F.points_Wrong fu p0 = some r) : GM Try.prog 17 [.agg [.sl (List.length p0.Box) (encs p0.Box), .sl (List.length p0.Rows) (encs p0.Rows)]] [] (fun g st => g = .val (.int .i64 r) ∧ st = []) := by
  unfold F.points_Wrong at H
  refine GM.of (N := 62) Try.func17 rfl rfl rfl (fun cx hro => ?_)
  change GW _ _ _ _ _ _
  refine GW.seq ?_
  refine GW.region ?_
  refine GL.e1 (W := []) (EF.box 0 rfl rfl rfl) rfl rfl ?_
  refine GL.py (PY.assign rfl) rfl rfl ?_
  refine GL.nil ?_
  change GW _ _ _ _ _ _
  refine GW.seq ?_
  refine GW.seq ?_
  refine GW.region ?_
  refine GL.py (PY.field rfl rfl Try.underlying25 rfl Try.sizeOf22 (by decide)) rfl rfl ?_
  refine GL.y (YL.loadN rfl rfl rfl Try.isAgg22 rfl rfl) rfl rfl ?_
  refine GL.py (PY.len rfl rfl Try.underlying22) rfl rfl ?_
  refine GL.py (PY.bin rfl rfl rfl) rfl rfl ?_
  refine GL.nil ?_
  change GW _ _ _ _ _ _
  refine GW.cond rfl (fun hc1 => ?_) (fun hc1 => ?_)
  · have H := condT hc1 H
    refine GW.seq ?_
    refine GW.region ?_
    refine GL.py (PY.assign rfl) rfl rfl ?_
    refine GL.nil ?_
    change GW _ _ _ _ _ _
    refine GW.ret ?_
    have H := Option.some.inj H
    subst H
    exact RetQ.mk (.inl rfl) [.val (.int .i64 3)] _ [] ⟨Res.tmp rfl, trivial⟩ trivial rfl ⟨rfl, rfl⟩
  · have H := condF hc1 H
    refine GW.skip ?_
    change GW _ _ _ _ _ _
    refine GW.seq ?_
    refine GW.region ?_
    refine GL.py (PY.assign rfl) rfl rfl ?_
    refine GL.nil ?_
    change GW _ _ _ _ _ _
    refine GW.seq ?_
    refine GW.seq ?_
    refine GW.region ?_
    refine GL.py (PY.field rfl rfl Try.underlying25 rfl Try.sizeOf22 (by decide)) rfl rfl ?_
    refine GL.y (YL.loadN rfl rfl rfl Try.isAgg22 rfl rfl) rfl rfl ?_
    refine GL.py (PY.len rfl rfl Try.underlying22) rfl rfl ?_
    refine GL.py (PY.move rfl) rfl rfl ?_
    refine GL.nil ?_
    change GW _ _ _ _ _ _
    refine GW.block ?_
    obtain ⟨e6, he6, Hb, Hr⟩ := bindE_some H
    refine GW.weak ((fun (q : Int) => (⟨[(1, .loc 0 0), (3, .val (.int .i64 1)), (16, .sl (List.length p0.Box) (encs p0.Box)), (17, .val (.int .i64 (List.length p0.Box : Int))), (18, .val (.int .i64 q))], [(0, ⟨25, false, true, false, 0, [.sl (List.length p0.Box) (encs p0.Box), .sl (List.length p0.Rows) (encs p0.Rows)], none⟩)], []⟩ : St)) 0) ⟨⟨rfl, rfl, rfl, rfl, rfl, trivial⟩, ⟨rfl, trivial⟩, rfl⟩ ?_
    refine GW.loopF (fun (q : Int) => (⟨[(1, .loc 0 0), (3, .val (.int .i64 1)), (16, .sl (List.length p0.Box) (encs p0.Box)), (17, .val (.int .i64 (List.length p0.Box : Int))), (18, .val (.int .i64 q))], [(0, ⟨25, false, true, false, 0, [.sl (List.length p0.Box) (encs p0.Box), .sl (List.length p0.Rows) (encs p0.Rows)], none⟩)], []⟩ : St)) (QJ (.exit 0) (fun (q : Unit) => (⟨[(1, .loc 0 0), (3, .val (.int .i64 1))], [(0, ⟨25, false, true, false, 0, [.sl (List.length p0.Box) (encs p0.Box), .sl (List.length p0.Rows) (encs p0.Rows)], none⟩)], []⟩ : St)) (fun r2 _ s2 => RetQ Try.prog Try.f17 (fun g st => g = .val (.int .i64 r2) ∧ st = []) .ret s2)) he6 (fun x o hb => ?_) (fun ex s2 _ hx => ?_)
    · obtain ⟨i1, rfl⟩ : ∃ z, z = x := ⟨_, rfl⟩
      have H := hb
      unfold F.points_Wrong_l1 at H
      try dsimp only at H
      refine GW.weak ⟨[(1, .loc 0 0), (3, .val (.int .i64 1)), (16, .sl (List.length p0.Box) (encs p0.Box)), (17, .val (.int .i64 (List.length p0.Box : Int))), (18, .val (.int .i64 i1))], [(0, ⟨25, false, true, false, 0, [.sl (List.length p0.Box) (encs p0.Box), .sl (List.length p0.Rows) (encs p0.Rows)], none⟩)], []⟩ ⟨⟨rfl, rfl, rfl, rfl, rfl, trivial⟩, ⟨rfl, trivial⟩, rfl⟩ ?_
      refine GW.seq ?_
      refine GW.region ?_
      refine GL.py (PY.bin rfl rfl rfl) rfl rfl ?_
      refine GL.nil ?_
      change GW _ _ _ _ _ _
      refine GW.seq ?_
      refine GW.cond rfl (fun hc2 => ?_) (fun hc2 => ?_)
      · have H := condT hc2 H
        refine GW.skip ?_
        change GW _ _ _ _ _ _
        refine GW.seq ?_
        refine GW.block ?_
        refine GW.seq ?_
        obtain ⟨x2, hx2, H⟩ := bind_some H
        refine GW.region ?_
        refine GL.py (PY.index rfl rfl rfl (idx_spec hx2).1 (idx_spec hx2).2.1 Try.underlying22 Try.sizeOf3) rfl rfl ?_
        refine GL.y (YT.elt (α := Int) rfl hx2 rfl Try.isAgg3) rfl rfl ?_
        refine GL.py (PY.assign rfl) rfl rfl ?_
        refine GL.nil ?_
        change GW _ _ _ _ _ _
        refine GW.seq ?_
        obtain ⟨e5, he5, H⟩ := bind_some H
        obtain ⟨i3, rfl⟩ : ∃ z, z = e5 := ⟨_, rfl⟩
        refine GW.mono (Q := QB .normal (fun (q : Bool) => (⟨[(1, .loc 0 0), (3, .val (.int .i64 1)), (16, .sl (List.length p0.Box) (encs p0.Box)), (17, .val (.int .i64 (List.length p0.Box : Int))), (18, .val (.int .i64 i1)), (27, .val (.bool q))], [(0, ⟨25, false, true, false, 0, [.sl (List.length p0.Box) (encs p0.Box), .sl (List.length p0.Rows) (encs p0.Rows)], none⟩)], []⟩ : St)) i3) ?_ ?_
        · have H := he5
          refine GW.region ?_
          refine GL.py (PY.move rfl) rfl rfl ?_
          refine GL.py (PY.bin rfl rfl rfl) rfl rfl ?_
          refine GL.py (PY.move rfl) rfl rfl ?_
          refine (Bool.eq_false_or_eq_true (decide (x2 < 0))).elim (fun hg3 => ?_) (fun hg3 => ?_)
          · have H := condT hg3 H
            refine GL.lit 24 rfl hg3 ?_
            refine GL.nou rfl rfl ?_
            refine GL.nou rfl rfl ?_
            refine GL.py (PY.pickT rfl rfl) rfl rfl ?_
            refine GL.nil ?_
            cases H
            exact And.intro rfl ⟨⟨rfl, rfl, rfl, rfl, rfl, rfl, trivial⟩, ⟨rfl, trivial⟩, rfl⟩
          · have H := condF hg3 H
            refine GL.lit 24 rfl hg3 ?_
            refine GL.py (PY.move rfl) rfl rfl ?_
            refine GL.py (PY.bin rfl rfl rfl) rfl rfl ?_
            refine GL.py (PY.pickF rfl rfl) rfl rfl ?_
            refine GL.nil ?_
            cases H
            exact And.intro rfl ⟨⟨rfl, rfl, rfl, rfl, rfl, rfl, trivial⟩, ⟨rfl, trivial⟩, rfl⟩
        · rintro _ s2 ⟨rfl, hs⟩
          change GW _ _ _ _ _ _
          refine GW.weak _ hs ?_
          refine GW.weak ⟨[(1, .loc 0 0), (3, .val (.int .i64 1)), (16, .sl (List.length p0.Box) (encs p0.Box)), (17, .val (.int .i64 (List.length p0.Box : Int))), (18, .val (.int .i64 i1)), (27, .val (.bool i3))], [(0, ⟨25, false, true, false, 0, [.sl (List.length p0.Box) (encs p0.Box), .sl (List.length p0.Rows) (encs p0.Rows)], none⟩)], []⟩ ⟨⟨rfl, rfl, rfl, rfl, rfl, rfl, trivial⟩, ⟨rfl, trivial⟩, rfl⟩ ?_
          change GW _ _ _ _ _ _
          refine GW.cond rfl (fun hc4 => ?_) (fun hc4 => ?_)
          · have H := condT hc4 H
            refine GW.seq ?_
            refine GW.region ?_
            refine GL.py (PY.assign rfl) rfl rfl ?_
            refine GL.nil ?_
            change GW _ _ _ _ _ _
            refine GW.ret ?_
            cases H
            exact And.intro ret_ne (And.intro rfl (RetQ.mk (.inl rfl) [.val (.int .i64 4)] _ [] ⟨Res.tmp rfl, trivial⟩ trivial rfl ⟨rfl, rfl⟩))
          · have H := condF hc4 H
            refine GW.skip ?_
            change GW _ _ _ _ _ _
            refine GW.region ?_
            refine GL.py (PY.bin rfl rfl rfl) rfl rfl ?_
            refine GL.py (PY.move rfl) rfl rfl ?_
            refine GL.nil ?_
            cases H
            exact And.intro rfl ⟨⟨rfl, rfl, rfl, rfl, rfl, trivial⟩, ⟨rfl, trivial⟩, rfl⟩
      · have H := condF hc2 H
        refine GW.exit ?_
        cases H
        exact And.intro exit_ne (And.intro rfl ⟨⟨rfl, rfl, trivial⟩, ⟨rfl, trivial⟩, rfl⟩)
    · cases e6 with
      | ret r2 =>
        obtain ⟨rfl, hx⟩ := hx
        have H := Hr r2 rfl
        subst H
        exact hx
      | brk b2 =>
        obtain ⟨rfl, hs⟩ := hx
        have H := Hb b2 rfl
        change GW _ _ _ _ _ _
        refine GW.weak _ hs ?_
        refine GW.weak ⟨[(1, .loc 0 0), (3, .val (.int .i64 1))], [(0, ⟨25, false, true, false, 0, [.sl (List.length p0.Box) (encs p0.Box), .sl (List.length p0.Rows) (encs p0.Rows)], none⟩)], []⟩ ⟨⟨rfl, rfl, trivial⟩, ⟨rfl, trivial⟩, rfl⟩ ?_
        change GW _ _ _ _ _ _
        refine GW.seq ?_
        refine GW.seq ?_
        refine GW.region ?_
        refine GL.py (PY.field rfl rfl Try.underlying25 rfl Try.sizeOf22 (by decide)) rfl rfl ?_
        refine GL.y (YL.loadN rfl rfl rfl Try.isAgg22 rfl rfl) rfl rfl ?_
        refine GL.py (PY.len rfl rfl Try.underlying22) rfl rfl ?_
        refine GL.py (PY.move rfl) rfl rfl ?_
        refine GL.nil ?_
        change GW _ _ _ _ _ _
        refine GW.block ?_
        obtain ⟨e8, he8, H⟩ := bind_some H
        refine GW.weak ((fun (q : Int × Int) => (⟨[(1, .loc 0 0), (3, .val (.int .i64 q.1)), (30, .sl (List.length p0.Box) (encs p0.Box)), (31, .val (.int .i64 (List.length p0.Box : Int))), (32, .val (.int .i64 q.2))], [(0, ⟨25, false, true, false, 0, [.sl (List.length p0.Box) (encs p0.Box), .sl (List.length p0.Rows) (encs p0.Rows)], none⟩)], []⟩ : St)) (1, 0)) ⟨⟨rfl, rfl, rfl, rfl, rfl, trivial⟩, ⟨rfl, trivial⟩, rfl⟩ ?_
        refine GW.loopF (fun (q : Int × Int) => (⟨[(1, .loc 0 0), (3, .val (.int .i64 q.1)), (30, .sl (List.length p0.Box) (encs p0.Box)), (31, .val (.int .i64 (List.length p0.Box : Int))), (32, .val (.int .i64 q.2))], [(0, ⟨25, false, true, false, 0, [.sl (List.length p0.Box) (encs p0.Box), .sl (List.length p0.Rows) (encs p0.Rows)], none⟩)], []⟩ : St)) (QB (.exit 2) (fun (q : Int) => (⟨[(1, .loc 0 0), (3, .val (.int .i64 q))], [(0, ⟨25, false, true, false, 0, [.sl (List.length p0.Box) (encs p0.Box), .sl (List.length p0.Rows) (encs p0.Rows)], none⟩)], []⟩ : St))) he8 (fun x o hb => ?_) (fun ex s2 _ hx => ?_)
        · obtain ⟨n4, i5⟩ := x
          have H := hb
          unfold F.points_Wrong_l2 at H
          try dsimp only at H
          refine GW.weak ⟨[(1, .loc 0 0), (3, .val (.int .i64 n4)), (30, .sl (List.length p0.Box) (encs p0.Box)), (31, .val (.int .i64 (List.length p0.Box : Int))), (32, .val (.int .i64 i5))], [(0, ⟨25, false, true, false, 0, [.sl (List.length p0.Box) (encs p0.Box), .sl (List.length p0.Rows) (encs p0.Rows)], none⟩)], []⟩ ⟨⟨rfl, rfl, rfl, rfl, rfl, trivial⟩, ⟨rfl, trivial⟩, rfl⟩ ?_
          refine GW.seq ?_
          refine GW.region ?_
          refine GL.py (PY.bin rfl rfl rfl) rfl rfl ?_
          refine GL.nil ?_
          change GW _ _ _ _ _ _
          refine GW.seq ?_
          refine GW.cond rfl (fun hc7 => ?_) (fun hc7 => ?_)
          · have H := condT hc7 H
            refine GW.skip ?_
            change GW _ _ _ _ _ _
            refine GW.seq ?_
            refine GW.block ?_
            refine GW.seq ?_
            obtain ⟨x7, hx7, H⟩ := bind_some H
            refine GW.region ?_
            refine GL.py (PY.index rfl rfl rfl (idx_spec hx7).1 (idx_spec hx7).2.1 Try.underlying22 Try.sizeOf3) rfl rfl ?_
            refine GL.y (YT.elt (α := Int) rfl hx7 rfl Try.isAgg3) rfl rfl ?_
            refine GL.py (PY.assign rfl) rfl rfl ?_
            refine GL.nil ?_
            change GW _ _ _ _ _ _
            refine GW.region ?_
            refine GL.py (PY.move rfl) rfl rfl ?_
            refine GL.py (PY.move rfl) rfl rfl ?_
            refine GL.py (PY.bin rfl rfl rfl) rfl rfl ?_
            refine GL.py (PY.assign rfl) rfl rfl ?_
            refine GL.nil ?_
            change GW _ _ _ _ _ _
            refine GW.region ?_
            refine GL.py (PY.bin rfl rfl rfl) rfl rfl ?_
            refine GL.py (PY.move rfl) rfl rfl ?_
            refine GL.nil ?_
            cases H
            exact And.intro rfl ⟨⟨rfl, rfl, rfl, rfl, rfl, trivial⟩, ⟨rfl, trivial⟩, rfl⟩
          · have H := condF hc7 H
            refine GW.exit ?_
            cases H
            exact And.intro exit_ne (And.intro rfl ⟨⟨rfl, rfl, trivial⟩, ⟨rfl, trivial⟩, rfl⟩)
        · obtain ⟨rfl, hs⟩ := hx
          obtain ⟨n6, rfl⟩ : ∃ z, z = e8 := ⟨_, rfl⟩
          change GW _ _ _ _ _ _
          refine GW.weak _ hs ?_
          refine GW.weak ⟨[(1, .loc 0 0), (3, .val (.int .i64 n6))], [(0, ⟨25, false, true, false, 0, [.sl (List.length p0.Box) (encs p0.Box), .sl (List.length p0.Rows) (encs p0.Rows)], none⟩)], []⟩ ⟨⟨rfl, rfl, trivial⟩, ⟨rfl, trivial⟩, rfl⟩ ?_
          change GW _ _ _ _ _ _
          refine GW.seq ?_
          refine GW.seq ?_
          refine GW.region ?_
          refine GL.py (PY.move rfl) rfl rfl ?_
          refine GL.py (PY.bin rfl rfl rfl) rfl rfl ?_
          refine GL.nil ?_
          change GW _ _ _ _ _ _
          refine GW.cond rfl (fun hc9 => ?_) (fun hc9 => ?_)
          · have H := condT hc9 H
            refine GW.seq ?_
            refine GW.region ?_
            refine GL.py (PY.assign rfl) rfl rfl ?_
            refine GL.nil ?_
            change GW _ _ _ _ _ _
            refine GW.ret ?_
            have H := Option.some.inj H
            subst H
            exact RetQ.mk (.inl rfl) [.val (.int .i64 5)] _ [] ⟨Res.tmp rfl, trivial⟩ trivial rfl ⟨rfl, rfl⟩
          · have H := condF hc9 H
            refine GW.skip ?_
            change GW _ _ _ _ _ _
            refine GW.seq ?_
            refine GW.seq ?_
            refine GW.region ?_
            refine GL.py (PY.field rfl rfl Try.underlying25 rfl Try.sizeOf23 (by decide)) rfl rfl ?_
            refine GL.y (YL.loadN rfl rfl rfl Try.isAgg23 rfl rfl) rfl rfl ?_
            refine GL.py (PY.len rfl rfl Try.underlying23) rfl rfl ?_
            refine GL.py (PY.bin rfl rfl rfl) rfl rfl ?_
            refine GL.nil ?_
            change GW _ _ _ _ _ _
            refine GW.cond rfl (fun hc10 => ?_) (fun hc10 => ?_)
            · have H := condT hc10 H
              refine GW.seq ?_
              refine GW.region ?_
              refine GL.py (PY.assign rfl) rfl rfl ?_
              refine GL.nil ?_
              change GW _ _ _ _ _ _
              refine GW.ret ?_
              have H := Option.some.inj H
              subst H
              exact RetQ.mk (.inl rfl) [.val (.int .i64 2)] _ [] ⟨Res.tmp rfl, trivial⟩ trivial rfl ⟨rfl, rfl⟩
            · have H := condF hc10 H
              refine GW.skip ?_
              change GW _ _ _ _ _ _
              refine GW.seq ?_
              refine GW.seq ?_
              refine GW.region ?_
              refine GL.py (PY.field rfl rfl Try.underlying25 rfl Try.sizeOf23 (by decide)) rfl rfl ?_
              refine GL.y (YL.loadN rfl rfl rfl Try.isAgg23 rfl rfl) rfl rfl ?_
              refine GL.py (PY.len rfl rfl Try.underlying23) rfl rfl ?_
              refine GL.py (PY.move rfl) rfl rfl ?_
              refine GL.nil ?_
              change GW _ _ _ _ _ _
              refine GW.block ?_
              obtain ⟨e13, he13, Hb, Hr⟩ := bindE_some H
              refine GW.weak ((fun (q : Int) => (⟨[(1, .loc 0 0), (47, .sl (List.length p0.Rows) (encs p0.Rows)), (48, .val (.int .i64 (List.length p0.Rows : Int))), (49, .val (.int .i64 q))], [(0, ⟨25, false, true, false, 0, [.sl (List.length p0.Box) (encs p0.Box), .sl (List.length p0.Rows) (encs p0.Rows)], none⟩)], []⟩ : St)) 0) ⟨⟨rfl, rfl, rfl, rfl, trivial⟩, ⟨rfl, trivial⟩, rfl⟩ ?_
              refine GW.loopF (fun (q : Int) => (⟨[(1, .loc 0 0), (47, .sl (List.length p0.Rows) (encs p0.Rows)), (48, .val (.int .i64 (List.length p0.Rows : Int))), (49, .val (.int .i64 q))], [(0, ⟨25, false, true, false, 0, [.sl (List.length p0.Box) (encs p0.Box), .sl (List.length p0.Rows) (encs p0.Rows)], none⟩)], []⟩ : St)) (QJ (.exit 4) (fun (q : Unit) => (⟨[], [], []⟩ : St)) (fun r2 _ s2 => RetQ Try.prog Try.f17 (fun g st => g = .val (.int .i64 r2) ∧ st = []) .ret s2)) he13 (fun x o hb => ?_) (fun ex s2 _ hx => ?_)
              · obtain ⟨i8, rfl⟩ : ∃ z, z = x := ⟨_, rfl⟩
                have H := hb
                unfold F.points_Wrong_l3 at H
                try dsimp only at H
                refine GW.weak ⟨[(1, .loc 0 0), (47, .sl (List.length p0.Rows) (encs p0.Rows)), (48, .val (.int .i64 (List.length p0.Rows : Int))), (49, .val (.int .i64 i8))], [(0, ⟨25, false, true, false, 0, [.sl (List.length p0.Box) (encs p0.Box), .sl (List.length p0.Rows) (encs p0.Rows)], none⟩)], []⟩ ⟨⟨rfl, rfl, rfl, rfl, trivial⟩, ⟨rfl, trivial⟩, rfl⟩ ?_
                refine GW.seq ?_
                refine GW.region ?_
                refine GL.py (PY.bin rfl rfl rfl) rfl rfl ?_
                refine GL.nil ?_
                change GW _ _ _ _ _ _
                refine GW.seq ?_
                refine GW.cond rfl (fun hc11 => ?_) (fun hc11 => ?_)
                · have H := condT hc11 H
                  refine GW.skip ?_
                  change GW _ _ _ _ _ _
                  refine GW.seq ?_
                  refine GW.block ?_
                  refine GW.seq ?_
                  obtain ⟨x9, hx9, H⟩ := bind_some H
                  refine GW.region ?_
                  refine GL.py (PY.index rfl rfl rfl (idx_spec hx9).1 (idx_spec hx9).2.1 Try.underlying23 Try.sizeOf52) rfl rfl ?_
                  refine GL.y (YT.agg (α := SRow) rfl hx9 Try.isAgg52 Try.sizeOf52) rfl rfl ?_
                  refine GL.e1 (W := []) (EF.alloc 6 Try.zeroValue52 rfl) rfl rfl ?_
                  refine GL.e0 (EF.storeN (W := [6]) (cells' := [.sl (List.length x9.Coef) (encs x9.Coef), .val (.int .i64 x9.Const)]) rfl rfl rfl rfl rfl rfl rfl rfl Try.sizeOf52 (Nat.le_of_ble_eq_true rfl) rfl rfl) rfl ?_
                  refine GL.nil ?_
                  change GW _ _ _ _ _ _
                  refine GW.seq ?_
                  obtain ⟨r10, hr10, H⟩ := bind_some H
                  refine GW.region ?_
                  refine GL.y (YL.loadAgg rfl rfl rfl Try.isAgg52 Try.sizeOf52 (Nat.le_of_ble_eq_true rfl) rfl) rfl rfl ?_
                  refine GL.py (PY.field rfl rfl Try.underlying25 rfl Try.sizeOf22 (by decide)) rfl rfl ?_
                  refine GL.y (YL.loadN rfl rfl rfl Try.isAgg22 rfl rfl) rfl rfl ?_
                  refine GL.py (PY.len rfl rfl Try.underlying22) rfl rfl ?_
                  refine GL.e (W := []) (EF.call 4 Try.call33 rfl (mapO_cons rfl (mapO_cons rfl rfl)) (points_Row_ok fu x9 (List.length p0.Box : Int) r10 hr10) (by rintro _ _ ⟨rfl, rfl⟩; rfl)) rfl rfl ?_
                  rintro _ ⟨_, _, ⟨rfl, rfl⟩, rfl⟩
                  refine GL.py (PY.assign rfl) rfl rfl ?_
                  refine GL.nil ?_
                  change GW _ _ _ _ _ _
                  refine GW.seq ?_
                  refine GW.region ?_
                  refine GL.py (PY.move rfl) rfl rfl ?_
                  refine GL.py (PY.bin rfl rfl rfl) rfl rfl ?_
                  refine GL.nil ?_
                  change GW _ _ _ _ _ _
                  refine GW.cond rfl (fun hc12 => ?_) (fun hc12 => ?_)
                  · have H := condT hc12 H
                    refine GW.seq ?_
                    refine GW.region ?_
                    refine GL.py (PY.move rfl) rfl rfl ?_
                    refine GL.py (PY.assign rfl) rfl rfl ?_
                    refine GL.nil ?_
                    change GW _ _ _ _ _ _
                    refine GW.ret ?_
                    cases H
                    exact And.intro ret_ne (And.intro rfl (RetQ.mk (.inl rfl) [.val (.int .i64 r10)] _ [] ⟨Res.tmp rfl, trivial⟩ trivial rfl ⟨rfl, rfl⟩))
                  · have H := condF hc12 H
                    refine GW.skip ?_
                    change GW _ _ _ _ _ _
                    refine GW.region ?_
                    refine GL.py (PY.bin rfl rfl rfl) rfl rfl ?_
                    refine GL.py (PY.move rfl) rfl rfl ?_
                    refine GL.nil ?_
                    cases H
                    exact And.intro rfl ⟨⟨rfl, rfl, rfl, rfl, trivial⟩, ⟨rfl, trivial⟩, rfl⟩
                · have H := condF hc11 H
                  refine GW.exit ?_
                  cases H
                  exact And.intro exit_ne (And.intro rfl ⟨trivial, trivial, rfl⟩)
              · cases e13 with
                | ret r2 =>
                  obtain ⟨rfl, hx⟩ := hx
                  have H := Hr r2 rfl
                  subst H
                  exact hx
                | brk b2 =>
                  obtain ⟨rfl, hs⟩ := hx
                  have H := Hb b2 rfl
                  change GW _ _ _ _ _ _
                  refine GW.weak _ hs ?_
                  refine GW.weak ⟨[], [], []⟩ ⟨trivial, trivial, rfl⟩ ?_
                  change GW _ _ _ _ _ _
                  refine GW.seq ?_
                  refine GW.region ?_
                  refine GL.py (PY.assign rfl) rfl rfl ?_
                  refine GL.nil ?_
                  change GW _ _ _ _ _ _
                  refine GW.ret ?_
                  have H := Option.some.inj H
                  subst H
                  exact RetQ.mk (.inl rfl) [.val (.int .i64 0)] _ [] ⟨Res.tmp rfl, trivial⟩ trivial rfl ⟨rfl, rfl⟩

theorem points_All_ok (fu : Nat) (p0 : SPoints) (r : SPoints) (H : F.points_All fu p0 = some r) : GM Try.prog 31 [.agg [.sl (List.length p0.Box) (encs p0.Box), .sl (List.length p0.Rows) (encs p0.Rows)]] [] (fun g st => g = .clo 38 [.ptr [.sl (List.length r.Box) (encs r.Box), .sl (List.length r.Rows) (encs r.Rows)]] ∧ st = []) := by
  unfold F.points_All at H
  refine GM.strip ?_
  refine GM.of (N := 4) Try.func31 rfl rfl rfl (fun cx hro => ?_)
  change GW _ _ _ _ _ _
  refine GW.seq ?_
  refine GW.region ?_
  refine GL.e1 (W := []) (EF.box 0 rfl rfl rfl) rfl rfl ?_
  refine GL.py (PY.assign rfl) rfl rfl ?_
  refine GL.nil ?_
  change GW _ _ _ _ _ _
  refine GW.seq ?_
  refine GW.region ?_
  refine GL.py (PY.makeFunc (gs := [.loc 0 0]) rfl) rfl rfl ?_
  refine GL.py (PY.assign rfl) rfl rfl ?_
  refine GL.nil ?_
  change GW _ _ _ _ _ _
  refine GW.ret ?_
  have H := Option.some.inj H
  subst H
  exact RetQ.mk (.inl rfl) [.clo 38 [.loc 0 0]] _ [] ⟨Res.tmp rfl, trivial⟩ trivial rfl ⟨rfl, rfl⟩

noncomputable def points_Nth_y1_lp (fn : FuncId) (j : Option Code) : Lp := ⟨fn, 23, [3, 4, 5], #[17], cAsg (cBlk (cSeqR (cSeqL (cSeqR (cSeqR (cSeqR (cOf Try.f21))))))), cBody (cBlk (cSeqR (cSeqL (cSeqR (cSeqR (cSeqR (cOf Try.f21))))))), j⟩
theorem points_Nth_y1_ok (fn : FuncId) (fu : Nat) (a0 : (List Int)) (c0 : Int) (c00 : (List Int)) (c000 : Int) (r : (Int × (List Int) × Int × Jp)) (H : F.points_Nth_y1 fu a0 c0 c00 c000 = some r) : GY Try.prog (points_Nth_y1_lp fn none) [.loc 1000 0, .loc 1001 0, .loc 1002 0] [.sl (List.length a0) (encs a0)] [(1000, ⟨3, false, false, false, 0, [.val (.int .i64 c0)], none⟩), (1001, ⟨22, false, false, false, 0, [.sl (List.length c00) (encs c00)], none⟩), (1002, ⟨27, false, false, false, 0, [.val (.int .i64 c000)], none⟩)] (fun j st => j = (jmpc 0 r.2.2.2) ∧ st = [(1000, ⟨3, false, false, false, 0, [.val (.int .i64 r.1)], none⟩), (1001, ⟨22, false, false, false, 0, [.sl (List.length r.2.1) (encs r.2.1)], none⟩), (1002, ⟨27, false, false, false, 0, [.val (.int .i64 r.2.2.1)], none⟩)]) := by
  unfold F.points_Nth_y1 at H
  refine GY.of rfl rfl (fun cx => ?_)
  change GW _ 23 _ _ _ _
  refine GW.weak ⟨[(3, .loc 1000 0), (4, .loc 1001 0), (5, .loc 1002 0), (17, .sl (List.length a0) (encs a0))], [(1000, ⟨3, false, false, false, 0, [.val (.int .i64 c0)], none⟩), (1001, ⟨22, false, false, false, 0, [.sl (List.length c00) (encs c00)], none⟩), (1002, ⟨27, false, false, false, 0, [.val (.int .i64 c000)], none⟩)], []⟩ ⟨⟨rfl, rfl, rfl, rfl, trivial⟩, ⟨rfl, rfl, rfl, trivial⟩, rfl⟩ ?_
  refine GW.region ?_
  refine GL.py (PY.assign rfl) rfl rfl ?_
  refine GL.nil ?_
  refine ⟨rfl, fun cx2 => ?_⟩
  change GW _ 23 _ _ _ _
  change GW _ _ _ _ _ _
  refine GW.block ?_
  refine GW.seq ?_
  refine GW.seq ?_
  refine GW.region ?_
  refine GL.y (YL.loadN rfl rfl rfl Try.isAgg3 rfl rfl) rfl rfl ?_
  refine GL.py (PY.bin rfl rfl rfl) rfl rfl ?_
  refine GL.nil ?_
  change GW _ _ _ _ _ _
  refine GW.cond rfl (fun hc1 => ?_) (fun hc1 => ?_)
  · have H := condT hc1 H
    refine GW.seq ?_
    refine GW.region ?_
    refine GL.py (PY.move rfl) rfl rfl ?_
    refine GL.e0 (EF.storeN (W := [1001]) (cells' := [.sl (List.length a0) (encs a0)]) rfl rfl rfl rfl rfl rfl rfl rfl Try.sizeOf22 (Nat.le_of_ble_eq_true rfl) rfl rfl) rfl ?_
    refine GL.e0 (EF.storeN (W := [1002]) (cells' := [.val (.int .i64 0)]) rfl rfl rfl rfl rfl rfl rfl rfl Try.sizeOf27 (Nat.le_of_ble_eq_true rfl) rfl rfl) rfl ?_
    refine GL.nil ?_
    change GW _ _ _ _ _ _
    refine GW.ret ?_
    have H := Option.some.inj H
    subst H
    exact ⟨rfl, [(1000, ⟨3, false, false, false, 0, [.val (.int .i64 c0)], none⟩), (1001, ⟨22, false, false, false, 0, [.sl (List.length a0) (encs a0)], none⟩), (1002, ⟨27, false, false, false, 0, [.val (.int .i64 0)], none⟩)], ⟨rfl, rfl, rfl, trivial⟩, rfl, rfl⟩
  · have H := condF hc1 H
    refine GW.skip ?_
    change GW _ _ _ _ _ _
    refine GW.region ?_
    refine GL.y (YL.loadN rfl rfl rfl Try.isAgg3 rfl rfl) rfl rfl ?_
    refine GL.py (PY.bin rfl rfl rfl) rfl rfl ?_
    refine GL.e0 (EF.storeN (W := [1000]) (cells' := [.val (.int .i64 (IntKind.i64.wrap (c0 - 1)))]) rfl rfl rfl rfl rfl rfl rfl rfl Try.sizeOf3 (Nat.le_of_ble_eq_true rfl) rfl rfl) rfl ?_
    refine GL.nil ?_
    have H := Option.some.inj H
    subst H
    exact ⟨rfl, [(1000, ⟨3, false, false, false, 0, [.val (.int .i64 (IntKind.i64.wrap (c0 - 1)))], none⟩), (1001, ⟨22, false, false, false, 0, [.sl (List.length c00) (encs c00)], none⟩), (1002, ⟨27, false, false, false, 0, [.val (.int .i64 c000)], none⟩)], ⟨rfl, rfl, rfl, trivial⟩, rfl, rfl⟩

theorem points_hopeless_ok (fu : Nat) (p0 : SPoints) (x0 : (List Int)) (k0 : Int) (r : Bool) (H : F.points_hopeless fu p0 x0 k0 = some r) : GM Try.prog 46 [.agg [.sl (List.length p0.Box) (encs p0.Box), .sl (List.length p0.Rows) (encs p0.Rows)], .sl (List.length x0) (encs x0), .val (.int .i64 k0)] [] (fun g st => g = .val (.bool r) ∧ st = []) := by
  unfold F.points_hopeless at H
  refine GM.of (N := 58) Try.func46 rfl rfl rfl (fun cx hro => ?_)
  change GW _ _ _ _ _ _
  refine GW.seq ?_
  refine GW.region ?_
  refine GL.e1 (W := []) (EF.box 0 rfl rfl rfl) rfl rfl ?_
  refine GL.py (PY.assign rfl) rfl rfl ?_
  refine GL.nil ?_
  change GW _ _ _ _ _ _
  refine GW.seq ?_
  refine GW.seq ?_
  refine GW.region ?_
  refine GL.py (PY.field rfl rfl Try.underlying25 rfl Try.sizeOf23 (by decide)) rfl rfl ?_
  refine GL.y (YL.loadN rfl rfl rfl Try.isAgg23 rfl rfl) rfl rfl ?_
  refine GL.py (PY.len rfl rfl Try.underlying23) rfl rfl ?_
  refine GL.py (PY.move rfl) rfl rfl ?_
  refine GL.nil ?_
  change GW _ _ _ _ _ _
  refine GW.block ?_
  obtain ⟨e7, he7, Hb, Hr⟩ := bindE_some H
  refine GW.weak ((fun (q : Int) => (⟨[(1, .sl (List.length x0) (encs x0)), (2, .val (.int .i64 k0)), (3, .loc 0 0), (13, .sl (List.length p0.Rows) (encs p0.Rows)), (14, .val (.int .i64 (List.length p0.Rows : Int))), (15, .val (.int .i64 q))], [(0, ⟨25, false, true, false, 0, [.sl (List.length p0.Box) (encs p0.Box), .sl (List.length p0.Rows) (encs p0.Rows)], none⟩)], []⟩ : St)) 0) ⟨⟨rfl, rfl, rfl, rfl, rfl, rfl, trivial⟩, ⟨rfl, trivial⟩, rfl⟩ ?_
  refine GW.loopF (fun (q : Int) => (⟨[(1, .sl (List.length x0) (encs x0)), (2, .val (.int .i64 k0)), (3, .loc 0 0), (13, .sl (List.length p0.Rows) (encs p0.Rows)), (14, .val (.int .i64 (List.length p0.Rows : Int))), (15, .val (.int .i64 q))], [(0, ⟨25, false, true, false, 0, [.sl (List.length p0.Box) (encs p0.Box), .sl (List.length p0.Rows) (encs p0.Rows)], none⟩)], []⟩ : St)) (QJ (.exit 0) (fun (q : Unit) => (⟨[], [], []⟩ : St)) (fun r2 _ s2 => RetQ Try.prog Try.f46 (fun g st => g = .val (.bool r2) ∧ st = []) .ret s2)) he7 (fun x o hb => ?_) (fun ex s2 _ hx => ?_)
  · obtain ⟨i1, rfl⟩ : ∃ z, z = x := ⟨_, rfl⟩
    have H := hb
    unfold F.points_hopeless_l1 at H
    try dsimp only at H
    refine GW.weak ⟨[(1, .sl (List.length x0) (encs x0)), (2, .val (.int .i64 k0)), (3, .loc 0 0), (13, .sl (List.length p0.Rows) (encs p0.Rows)), (14, .val (.int .i64 (List.length p0.Rows : Int))), (15, .val (.int .i64 i1))], [(0, ⟨25, false, true, false, 0, [.sl (List.length p0.Box) (encs p0.Box), .sl (List.length p0.Rows) (encs p0.Rows)], none⟩)], []⟩ ⟨⟨rfl, rfl, rfl, rfl, rfl, rfl, trivial⟩, ⟨rfl, trivial⟩, rfl⟩ ?_
    refine GW.seq ?_
    refine GW.region ?_
    refine GL.py (PY.bin rfl rfl rfl) rfl rfl ?_
    refine GL.nil ?_
    change GW _ _ _ _ _ _
    refine GW.seq ?_
    refine GW.cond rfl (fun hc1 => ?_) (fun hc1 => ?_)
    · have H := condT hc1 H
      refine GW.skip ?_
      change GW _ _ _ _ _ _
      refine GW.seq ?_
      refine GW.block ?_
      refine GW.seq ?_
      obtain ⟨x2, hx2, H⟩ := bind_some H
      refine GW.region ?_
      refine GL.py (PY.index rfl rfl rfl (idx_spec hx2).1 (idx_spec hx2).2.1 Try.underlying23 Try.sizeOf52) rfl rfl ?_
      refine GL.y (YT.agg (α := SRow) rfl hx2 Try.isAgg52 Try.sizeOf52) rfl rfl ?_
      refine GL.e1 (W := []) (EF.alloc 6 Try.zeroValue52 rfl) rfl rfl ?_
      refine GL.e0 (EF.storeN (W := [6]) (cells' := [.sl (List.length x2.Coef) (encs x2.Coef), .val (.int .i64 x2.Const)]) rfl rfl rfl rfl rfl rfl rfl rfl Try.sizeOf52 (Nat.le_of_ble_eq_true rfl) rfl rfl) rfl ?_
      refine GL.nil ?_
      change GW _ _ _ _ _ _
      refine GW.seq ?_
      refine GW.region ?_
      refine GL.py (PY.field rfl rfl Try.underlying52 rfl Try.sizeOf3 (by decide)) rfl rfl ?_
      refine GL.y (YL.loadN rfl rfl rfl Try.isAgg3 rfl rfl) rfl rfl ?_
      refine GL.py (PY.assign rfl) rfl rfl ?_
      refine GL.nil ?_
      change GW _ _ _ _ _ _
      refine GW.seq ?_
      refine GW.seq ?_
      refine GW.region ?_
      refine GL.py (PY.field rfl rfl Try.underlying52 rfl Try.sizeOf22 (by decide)) rfl rfl ?_
      refine GL.y (YL.loadN rfl rfl rfl Try.isAgg22 rfl rfl) rfl rfl ?_
      refine GL.py (PY.len rfl rfl Try.underlying22) rfl rfl ?_
      refine GL.py (PY.move rfl) rfl rfl ?_
      refine GL.nil ?_
      change GW _ _ _ _ _ _
      refine GW.block ?_
      obtain ⟨e5, he5, H⟩ := bind_some H
      refine GW.weak ((fun (q : Int × Int) => (⟨[(1, .sl (List.length x0) (encs x0)), (2, .val (.int .i64 k0)), (3, .loc 0 0), (9, .val (.int .i64 q.1)), (13, .sl (List.length p0.Rows) (encs p0.Rows)), (14, .val (.int .i64 (List.length p0.Rows : Int))), (15, .val (.int .i64 i1)), (22, .sl (List.length x2.Coef) (encs x2.Coef)), (23, .val (.int .i64 (List.length x2.Coef : Int))), (24, .val (.int .i64 q.2))], [(0, ⟨25, false, true, false, 0, [.sl (List.length p0.Box) (encs p0.Box), .sl (List.length p0.Rows) (encs p0.Rows)], none⟩)], []⟩ : St)) (x2.Const, 0)) ⟨⟨rfl, rfl, rfl, rfl, rfl, rfl, rfl, rfl, rfl, rfl, trivial⟩, ⟨rfl, trivial⟩, rfl⟩ ?_
      refine GW.loopF (fun (q : Int × Int) => (⟨[(1, .sl (List.length x0) (encs x0)), (2, .val (.int .i64 k0)), (3, .loc 0 0), (9, .val (.int .i64 q.1)), (13, .sl (List.length p0.Rows) (encs p0.Rows)), (14, .val (.int .i64 (List.length p0.Rows : Int))), (15, .val (.int .i64 i1)), (22, .sl (List.length x2.Coef) (encs x2.Coef)), (23, .val (.int .i64 (List.length x2.Coef : Int))), (24, .val (.int .i64 q.2))], [(0, ⟨25, false, true, false, 0, [.sl (List.length p0.Box) (encs p0.Box), .sl (List.length p0.Rows) (encs p0.Rows)], none⟩)], []⟩ : St)) (QB (.exit 2) (fun (q : Int) => (⟨[(1, .sl (List.length x0) (encs x0)), (2, .val (.int .i64 k0)), (3, .loc 0 0), (9, .val (.int .i64 q)), (13, .sl (List.length p0.Rows) (encs p0.Rows)), (14, .val (.int .i64 (List.length p0.Rows : Int))), (15, .val (.int .i64 i1))], [(0, ⟨25, false, true, false, 0, [.sl (List.length p0.Box) (encs p0.Box), .sl (List.length p0.Rows) (encs p0.Rows)], none⟩)], []⟩ : St))) he5 (fun x o hb => ?_) (fun ex s2 _ hx => ?_)
      · obtain ⟨n3, i4⟩ := x
        have H := hb
        unfold F.points_hopeless_l2 at H
        try dsimp only at H
        refine GW.weak ⟨[(1, .sl (List.length x0) (encs x0)), (2, .val (.int .i64 k0)), (3, .loc 0 0), (9, .val (.int .i64 n3)), (13, .sl (List.length p0.Rows) (encs p0.Rows)), (14, .val (.int .i64 (List.length p0.Rows : Int))), (15, .val (.int .i64 i1)), (22, .sl (List.length x2.Coef) (encs x2.Coef)), (23, .val (.int .i64 (List.length x2.Coef : Int))), (24, .val (.int .i64 i4))], [(0, ⟨25, false, true, false, 0, [.sl (List.length p0.Box) (encs p0.Box), .sl (List.length p0.Rows) (encs p0.Rows)], none⟩)], []⟩ ⟨⟨rfl, rfl, rfl, rfl, rfl, rfl, rfl, rfl, rfl, rfl, trivial⟩, ⟨rfl, trivial⟩, rfl⟩ ?_
        refine GW.seq ?_
        refine GW.region ?_
        refine GL.py (PY.bin rfl rfl rfl) rfl rfl ?_
        refine GL.nil ?_
        change GW _ _ _ _ _ _
        refine GW.seq ?_
        refine GW.cond rfl (fun hc2 => ?_) (fun hc2 => ?_)
        · have H := condT hc2 H
          refine GW.skip ?_
          change GW _ _ _ _ _ _
          refine GW.seq ?_
          refine GW.block ?_
          refine GW.seq ?_
          obtain ⟨x6, hx6, H⟩ := bind_some H
          refine GW.region ?_
          refine GL.py (PY.move rfl) rfl rfl ?_
          refine GL.py (PY.index rfl rfl rfl (idx_spec hx6).1 (idx_spec hx6).2.1 Try.underlying22 Try.sizeOf3) rfl rfl ?_
          refine GL.y (YT.elt (α := Int) rfl hx6 rfl Try.isAgg3) rfl rfl ?_
          refine GL.py (PY.assign rfl) rfl rfl ?_
          refine GL.py (PY.assign rfl) rfl rfl ?_
          refine GL.nil ?_
          change GW _ _ _ _ _ _
          refine GW.block ?_
          refine GW.seq ?_
          refine GW.region ?_
          refine GL.py (PY.move rfl) rfl rfl ?_
          refine GL.py (PY.move rfl) rfl rfl ?_
          refine GL.py (PY.bin rfl rfl rfl) rfl rfl ?_
          refine GL.py (PY.assign rfl) rfl rfl ?_
          refine GL.nil ?_
          change GW _ _ _ _ _ _
          refine GW.cond rfl (fun hc3 => ?_) (fun hc3 => ?_)
          · have H := condT hc3 H
            obtain ⟨x7, hx7, H⟩ := bind_some H
            refine GW.region ?_
            refine GL.py (PY.move rfl) rfl rfl ?_
            refine GL.py (PY.move rfl) rfl rfl ?_
            refine GL.py (PY.move rfl) rfl rfl ?_
            refine GL.py (PY.move rfl) rfl rfl ?_
            refine GL.py (PY.index rfl rfl rfl (idx_spec hx7).1 (idx_spec hx7).2.1 Try.underlying22 Try.sizeOf3) rfl rfl ?_
            refine GL.y (YT.elt (α := Int) rfl hx7 rfl Try.isAgg3) rfl rfl ?_
            refine GL.py (PY.bin rfl rfl rfl) rfl rfl ?_
            refine GL.py (PY.bin rfl rfl rfl) rfl rfl ?_
            refine GL.py (PY.assign rfl) rfl rfl ?_
            refine GL.nil ?_
            change GW _ _ _ _ _ _
            refine GW.region ?_
            refine GL.py (PY.bin rfl rfl rfl) rfl rfl ?_
            refine GL.py (PY.move rfl) rfl rfl ?_
            refine GL.nil ?_
            cases H
            exact And.intro rfl ⟨⟨rfl, rfl, rfl, rfl, rfl, rfl, rfl, rfl, rfl, rfl, trivial⟩, ⟨rfl, trivial⟩, rfl⟩
          · have H := condF hc3 H
            refine GW.seq ?_
            refine GW.region ?_
            refine GL.py (PY.move rfl) rfl rfl ?_
            refine GL.py (PY.bin rfl rfl rfl) rfl rfl ?_
            refine GL.py (PY.assign rfl) rfl rfl ?_
            refine GL.nil ?_
            change GW _ _ _ _ _ _
            refine GW.cond rfl (fun hc4 => ?_) (fun hc4 => ?_)
            · have H := condT hc4 H
              obtain ⟨x8, hx8, H⟩ := bind_some H
              refine GW.region ?_
              refine GL.py (PY.move rfl) rfl rfl ?_
              refine GL.py (PY.move rfl) rfl rfl ?_
              refine GL.py (PY.field rfl rfl Try.underlying25 rfl Try.sizeOf22 (by decide)) rfl rfl ?_
              refine GL.y (YL.loadN rfl rfl rfl Try.isAgg22 rfl rfl) rfl rfl ?_
              refine GL.py (PY.move rfl) rfl rfl ?_
              refine GL.py (PY.index rfl rfl rfl (idx_spec hx8).1 (idx_spec hx8).2.1 Try.underlying22 Try.sizeOf3) rfl rfl ?_
              refine GL.y (YT.elt (α := Int) rfl hx8 rfl Try.isAgg3) rfl rfl ?_
              refine GL.py (PY.bin rfl rfl rfl) rfl rfl ?_
              refine GL.py (PY.bin rfl rfl rfl) rfl rfl ?_
              refine GL.py (PY.bin rfl rfl rfl) rfl rfl ?_
              refine GL.py (PY.assign rfl) rfl rfl ?_
              refine GL.nil ?_
              change GW _ _ _ _ _ _
              refine GW.region ?_
              refine GL.py (PY.bin rfl rfl rfl) rfl rfl ?_
              refine GL.py (PY.move rfl) rfl rfl ?_
              refine GL.nil ?_
              cases H
              exact And.intro rfl ⟨⟨rfl, rfl, rfl, rfl, rfl, rfl, rfl, rfl, rfl, rfl, trivial⟩, ⟨rfl, trivial⟩, rfl⟩
            · have H := condF hc4 H
              refine GW.skip ?_
              change GW _ _ _ _ _ _
              refine GW.region ?_
              refine GL.py (PY.bin rfl rfl rfl) rfl rfl ?_
              refine GL.py (PY.move rfl) rfl rfl ?_
              refine GL.nil ?_
              cases H
              exact And.intro rfl ⟨⟨rfl, rfl, rfl, rfl, rfl, rfl, rfl, rfl, rfl, rfl, trivial⟩, ⟨rfl, trivial⟩, rfl⟩
        · have H := condF hc2 H
          refine GW.exit ?_
          cases H
          exact And.intro exit_ne (And.intro rfl ⟨⟨rfl, rfl, rfl, rfl, rfl, rfl, rfl, trivial⟩, ⟨rfl, trivial⟩, rfl⟩)
      · obtain ⟨rfl, hs⟩ := hx
        obtain ⟨n5, rfl⟩ : ∃ z, z = e5 := ⟨_, rfl⟩
        change GW _ _ _ _ _ _
        refine GW.weak _ hs ?_
        refine GW.weak ⟨[(1, .sl (List.length x0) (encs x0)), (2, .val (.int .i64 k0)), (3, .loc 0 0), (9, .val (.int .i64 n5)), (13, .sl (List.length p0.Rows) (encs p0.Rows)), (14, .val (.int .i64 (List.length p0.Rows : Int))), (15, .val (.int .i64 i1))], [(0, ⟨25, false, true, false, 0, [.sl (List.length p0.Box) (encs p0.Box), .sl (List.length p0.Rows) (encs p0.Rows)], none⟩)], []⟩ ⟨⟨rfl, rfl, rfl, rfl, rfl, rfl, rfl, trivial⟩, ⟨rfl, trivial⟩, rfl⟩ ?_
        change GW _ _ _ _ _ _
        refine GW.seq ?_
        refine GW.region ?_
        refine GL.py (PY.move rfl) rfl rfl ?_
        refine GL.py (PY.bin rfl rfl rfl) rfl rfl ?_
        refine GL.nil ?_
        change GW _ _ _ _ _ _
        refine GW.cond rfl (fun hc6 => ?_) (fun hc6 => ?_)
        · have H := condT hc6 H
          refine GW.seq ?_
          refine GW.region ?_
          refine GL.py (PY.assign rfl) rfl rfl ?_
          refine GL.nil ?_
          change GW _ _ _ _ _ _
          refine GW.ret ?_
          cases H
          exact And.intro ret_ne (And.intro rfl (RetQ.mk (.inl rfl) [.val (.bool true)] _ [] ⟨Res.tmp rfl, trivial⟩ trivial rfl ⟨rfl, rfl⟩))
        · have H := condF hc6 H
          refine GW.skip ?_
          change GW _ _ _ _ _ _
          refine GW.region ?_
          refine GL.py (PY.bin rfl rfl rfl) rfl rfl ?_
          refine GL.py (PY.move rfl) rfl rfl ?_
          refine GL.nil ?_
          cases H
          exact And.intro rfl ⟨⟨rfl, rfl, rfl, rfl, rfl, rfl, trivial⟩, ⟨rfl, trivial⟩, rfl⟩
    · have H := condF hc1 H
      refine GW.exit ?_
      cases H
      exact And.intro exit_ne (And.intro rfl ⟨trivial, trivial, rfl⟩)
  · cases e7 with
    | ret r2 =>
      obtain ⟨rfl, hx⟩ := hx
      have H := Hr r2 rfl
      subst H
      exact hx
    | brk b2 =>
      obtain ⟨rfl, hs⟩ := hx
      have H := Hb b2 rfl
      change GW _ _ _ _ _ _
      refine GW.weak _ hs ?_
      refine GW.weak ⟨[], [], []⟩ ⟨trivial, trivial, rfl⟩ ?_
      change GW _ _ _ _ _ _
      refine GW.seq ?_
      refine GW.region ?_
      refine GL.py (PY.assign rfl) rfl rfl ?_
      refine GL.nil ?_
      change GW _ _ _ _ _ _
      refine GW.ret ?_
      have H := Option.some.inj H
      subst H
      exact RetQ.mk (.inl rfl) [.val (.bool false)] _ [] ⟨Res.tmp rfl, trivial⟩ trivial rfl ⟨rfl, rfl⟩

theorem slices_Clone_ok (fu : Nat) (s0 : (List Int)) (r : (List Int)) (H : F.slices_Clone fu s0 = some r) : GM Try.prog 26 [.sl (List.length s0) (encs s0)] [] (fun g st => g = .osl 600 (Enc.sz Int) 0 (List.length r) ∧ st = [(600, ⟨3, true, true, true, Enc.sz Int, encs r, none⟩)]) := by
  unfold F.slices_Clone at H
  refine GM.of (N := 8) Try.func26 rfl rfl rfl (fun cx hro => ?_)
  change GW _ _ _ _ _ _
  refine GW.seq ?_
  refine GW.region ?_
  refine GL.py (PY.assign rfl) rfl rfl ?_
  refine GL.nil ?_
  change GW _ _ _ _ _ _
  refine GW.seq ?_
  refine GW.seq ?_
  refine GW.region ?_
  refine GL.py (PY.move rfl) rfl rfl ?_
  refine GL.eqnil rfl rfl Try.underlying22 rfl rfl (fun b hb => ?_)
  obtain ⟨hT, hF⟩ := nilF_spec H
  cases b
  · have H := hF
    refine GL.nil ?_
    change GW _ _ _ _ _ _
    refine GW.cond rfl (fun h => by cases h) (fun _ => ?_)
    refine GW.skip ?_
    change GW _ _ _ _ _ _
    refine GW.seq ?_
    obtain ⟨_, ha2, H⟩ := bind_some H
    replace ha2 := chk_spec ha2
    refine GW.region ?_
    refine GL.e1 (W := []) (EF.buildSlice0 0 Try.underlying22 info3 rfl) rfl rfl ?_
    refine GL.py (PY.move rfl) rfl rfl ?_
    refine GL.e1 (ET.append (α := Int) (m := s0) (W := [0]) rfl rfl rfl rfl rfl rfl rfl rfl rfl Try.underlying22 info3 rfl ha2.1 ha2.2 rfl) rfl rfl ?_
    refine GL.refresh (α := Int) (l := ([] : (List Int)) ++ s0) 0 rfl rfl rfl ?_
    refine GL.py (PY.assign rfl) rfl rfl ?_
    refine GL.nil ?_
    change GW _ _ _ _ _ _
    refine GW.move 0 600 rfl rfl ?_
    refine GW.ret ?_
    have H := Option.some.inj H
    subst H
    exact RetQ.mk (.inl rfl) [.osl 600 (Enc.sz Int) 0 (List.length (([] : (List Int)) ++ s0))] _ [(600, ⟨3, true, true, true, Enc.sz Int, encs (([] : (List Int)) ++ s0), none⟩)] ⟨Res.tmp rfl, trivial⟩ ⟨rfl, trivial⟩ rfl ⟨rfl, rfl⟩
  · have H := hT (hb rfl)
    refine GL.nil ?_
    change GW _ _ _ _ _ _
    refine GW.cond rfl (fun _ => ?_) (fun h => by cases h)
    refine GW.seq ?_
    refine GW.region ?_
    refine GL.py (PY.assign rfl) rfl rfl ?_
    refine GL.nil ?_
    change GW _ _ _ _ _ _
    refine GW.adopt 2 600 3 (Enc.sz Int) rfl rfl ?_
    refine GW.ret ?_
    have H := Option.some.inj H
    subst H
    exact RetQ.mk (.inl rfl) [.osl 600 (Enc.sz Int) 0 (List.length ([] : (List Int)))] _ [(600, ⟨3, true, true, true, Enc.sz Int, encs ([] : (List Int)), none⟩)] ⟨Res.tmp rfl, trivial⟩ ⟨rfl, trivial⟩ rfl ⟨rfl, rfl⟩

theorem points_walk_ok (fn : FuncId) (fu : Nat) : ∀ (p0 : SPoints) (k0 : Int) (l0 : (List Int)) (c0 : Int) (c00 : (List Int)) (c000 : Int) (r : (Bool × (List Int) × Jp × Int × (List Int) × Int)) (H : F.points_walk fu p0 k0 l0 c0 c00 c000 = some r), GM Try.prog 39 [.agg [.sl (List.length p0.Box) (encs p0.Box), .sl (List.length p0.Rows) (encs p0.Rows)], .osl 1000 (Enc.sz Int) 0 (List.length l0), .val (.int .i64 k0), .yld 1001] [(1000, ⟨3, true, false, false, Enc.sz Int, encs l0, none⟩), (1001, (loopB [.loc 1002 0, .loc 1003 0, .loc 1004 0] (points_Nth_y1_lp fn (jmpc 0 Jp.go)))), (1002, ⟨3, false, false, false, 0, [.val (.int .i64 c0)], none⟩), (1003, ⟨22, false, false, false, 0, [.sl (List.length c00) (encs c00)], none⟩), (1004, ⟨27, false, false, false, 0, [.val (.int .i64 c000)], none⟩)] (fun g st => g = .val (.bool r.1) ∧ st = [(1000, ⟨3, true, false, true, Enc.sz Int, encs r.2.1, none⟩), (1001, (loopB [.loc 1002 0, .loc 1003 0, .loc 1004 0] (points_Nth_y1_lp fn (jmpc 0 r.2.2.1)))), (1002, ⟨3, false, false, false, 0, [.val (.int .i64 r.2.2.2.1)], none⟩), (1003, ⟨22, false, false, false, 0, [.sl (List.length r.2.2.2.2.1) (encs r.2.2.2.2.1)], none⟩), (1004, ⟨27, false, false, false, 0, [.val (.int .i64 r.2.2.2.2.2)], none⟩)]) := by
  induction fu with
  | zero => intro p0 k0 l0 c0 c00 c000 r H; cases H
  | succ fu ih =>
    intro p0 k0 l0 c0 c00 c000 r H
    replace H : F.points_walk_body fu (F.points_walk fu) p0 k0 l0 c0 c00 c000 = some r := H
    unfold F.points_walk_body at H
    refine GM.of (N := 48) Try.func39 rfl rfl rfl (fun cx hro => ?_)
    change GW _ _ _ _ _ _
    refine GW.refresh (α := Int) (l := l0) 1000 rfl rfl rfl ?_
    refine GW.seq ?_
    refine GW.region ?_
    refine GL.e1 (W := []) (EF.box 0 rfl rfl rfl) rfl rfl ?_
    refine GL.py (PY.assign rfl) rfl rfl ?_
    refine GL.nil ?_
    change GW _ _ _ _ _ _
    refine GW.seq ?_
    refine GW.seq ?_
    obtain ⟨r1, hr1, H⟩ := bind_some H
    refine GW.region ?_
    refine GL.y (YL.loadAgg rfl rfl rfl Try.isAgg25 Try.sizeOf25 (Nat.le_of_ble_eq_true rfl) rfl) rfl rfl ?_
    refine GL.py (PY.move rfl) rfl rfl ?_
    refine GL.py (PY.move rfl) rfl rfl ?_
    refine GL.e (W := []) (EF.call 4 Try.call46 rfl (mapO_cons rfl (mapO_cons (view_vec (α := Int) (l := l0) rfl rfl rfl) (mapO_cons rfl rfl))) (points_hopeless_ok fu p0 l0 k0 r1 hr1) (by rintro _ _ ⟨rfl, rfl⟩; rfl)) rfl rfl ?_
    rintro _ ⟨_, _, ⟨rfl, rfl⟩, rfl⟩
    refine GL.nil ?_
    change GW _ _ _ _ _ _
    refine GW.cond rfl (fun hc1 => ?_) (fun hc1 => ?_)
    · have H := condT hc1 H
      refine GW.seq ?_
      refine GW.region ?_
      refine GL.py (PY.assign rfl) rfl rfl ?_
      refine GL.nil ?_
      change GW _ _ _ _ _ _
      refine GW.ret ?_
      have H := Option.some.inj H
      subst H
      exact RetQ.mk (.inl rfl) [.val (.bool true)] _ [(1000, ⟨3, true, false, true, Enc.sz Int, encs l0, none⟩), (1001, (loopB [.loc 1002 0, .loc 1003 0, .loc 1004 0] (points_Nth_y1_lp fn (jmpc 0 Jp.go)))), (1002, ⟨3, false, false, false, 0, [.val (.int .i64 c0)], none⟩), (1003, ⟨22, false, false, false, 0, [.sl (List.length c00) (encs c00)], none⟩), (1004, ⟨27, false, false, false, 0, [.val (.int .i64 c000)], none⟩)] ⟨Res.tmp rfl, trivial⟩ ⟨rfl, rfl, rfl, rfl, rfl, trivial⟩ rfl ⟨rfl, rfl⟩
    · have H := condF hc1 H
      refine GW.skip ?_
      change GW _ _ _ _ _ _
      refine GW.seq ?_
      refine GW.seq ?_
      refine GW.region ?_
      refine GL.py (PY.move rfl) rfl rfl ?_
      refine GL.py (PY.field rfl rfl Try.underlying25 rfl Try.sizeOf22 (by decide)) rfl rfl ?_
      refine GL.y (YL.loadN rfl rfl rfl Try.isAgg22 rfl rfl) rfl rfl ?_
      refine GL.py (PY.len rfl rfl Try.underlying22) rfl rfl ?_
      refine GL.py (PY.bin rfl rfl rfl) rfl rfl ?_
      refine GL.nil ?_
      change GW _ _ _ _ _ _
      refine GW.cond rfl (fun hc2 => ?_) (fun hc2 => ?_)
      · have H := condT hc2 H
        refine GW.seq ?_
        obtain ⟨r3, hr3, H⟩ := bind_some H
        obtain ⟨r8, hr8, H⟩ := bind_some H
        obtain ⟨o4, o5, o6, o7⟩ := r8
        refine GW.region ?_
        refine GL.py (PY.move rfl) rfl rfl ?_
        refine GL.py (PY.move rfl) rfl rfl ?_
        refine GL.e1 (EF.lend (s1 := ⟨[(8, .val (.bool false)), (18, .yld 1001), (20, .osl 203 (Enc.sz Int) 0 (List.length r3))], [(203, ⟨3, true, true, true, Enc.sz Int, encs r3, none⟩), (1000, ⟨3, true, false, true, Enc.sz Int, encs l0, none⟩), (1001, (loopB [.loc 1002 0, .loc 1003 0, .loc 1004 0] (points_Nth_y1_lp fn (jmpc 0 Jp.go)))), (1002, ⟨3, false, false, false, 0, [.val (.int .i64 c0)], none⟩), (1003, ⟨22, false, false, false, 0, [.sl (List.length c00) (encs c00)], none⟩), (1004, ⟨27, false, false, false, 0, [.val (.int .i64 c000)], none⟩)], []⟩) (W := []) [] true [203] Try.call26 rfl (lend_cons (view_vec (α := Int) (l := l0) rfl rfl rfl) rfl) rfl rfl (slices_Clone_ok fu l0 r3 hr3) (by rintro _ _ ⟨rfl, rfl⟩; exact ⟨_, _, rfl, rfl, ⟨⟨rfl, rfl, rfl, trivial⟩, ⟨rfl, rfl, rfl, rfl, rfl, rfl, trivial⟩, rfl⟩⟩) rfl) rfl rfl ?_
        refine GL.freeze ⟨[(8, .val (.bool false)), (18, .yld 1001), (20, .fr (.sl (List.length r3) (encs r3)))], [(1000, ⟨3, true, false, true, Enc.sz Int, encs l0, none⟩), (1001, (loopB [.loc 1002 0, .loc 1003 0, .loc 1004 0] (points_Nth_y1_lp fn (jmpc 0 Jp.go)))), (1002, ⟨3, false, false, false, 0, [.val (.int .i64 c0)], none⟩), (1003, ⟨22, false, false, false, 0, [.sl (List.length c00) (encs c00)], none⟩), (1004, ⟨27, false, false, false, 0, [.val (.int .i64 c000)], none⟩)], []⟩ ⟨⟨_, rfl, rfl, rfl, rfl, rfl, rfl, rfl, .inl ⟨rfl, rfl⟩⟩, ⟨_, rfl, rfl, rfl, rfl, rfl, rfl, rfl, .inr ⟨rfl, ⟨.inr rfl, .inr rfl, .inr rfl, trivial⟩⟩⟩, ⟨_, rfl, rfl, rfl, rfl, rfl, rfl, rfl, .inr ⟨rfl, ⟨.inr rfl, trivial⟩⟩⟩, ⟨_, rfl, rfl, rfl, rfl, rfl, rfl, rfl, .inr ⟨rfl, ⟨.inr rfl, trivial⟩⟩⟩, ⟨_, rfl, rfl, rfl, rfl, rfl, rfl, rfl, .inr ⟨rfl, ⟨.inr rfl, trivial⟩⟩⟩, trivial⟩ ⟨⟨_, rfl, .inr rfl⟩, ⟨_, rfl, .inr rfl⟩, ⟨_, rfl, .inl (fz_vec (α := Int) (l := r3) rfl rfl rfl rfl rfl rfl)⟩, trivial⟩ ?_
        refine GL.yld [1002, 1003, 1004] [1002, 1003, 1004] rfl rfl rfl rfl rfl rfl rfl rfl rfl rfl rfl rfl rfl (points_Nth_y1_ok fn fu r3 c0 c00 c000 (o4, o5, o6, o7) hr8) rfl rfl ?_
        rintro _ _ ⟨rfl, rfl⟩
        refine ⟨_, rfl, _, rfl, rfl, _, (jmpc_go _), ?_⟩
        refine GL.weak ⟨[(8, .val (.bool false)), (21, .val (.bool (Jp.isGo o7)))], [(1000, ⟨3, true, false, true, Enc.sz Int, encs l0, none⟩), (1001, (loopB [.loc 1002 0, .loc 1003 0, .loc 1004 0] (points_Nth_y1_lp fn (jmpc 0 o7)))), (1002, ⟨3, false, false, false, 0, [.val (.int .i64 o4)], none⟩), (1003, ⟨22, false, false, false, 0, [.sl (List.length o5) (encs o5)], none⟩), (1004, ⟨27, false, false, false, 0, [.val (.int .i64 o6)], none⟩)], []⟩ ⟨⟨rfl, rfl, trivial⟩, ⟨rfl, rfl, rfl, rfl, rfl, trivial⟩, rfl⟩ ?_
        refine GL.py (PY.assign rfl) rfl rfl ?_
        refine GL.nil ?_
        change GW _ _ _ _ _ _
        refine GW.ret ?_
        have H := Option.some.inj H
        subst H
        exact RetQ.mk (.inl rfl) [.val (.bool (Jp.isGo o7))] _ [(1000, ⟨3, true, false, true, Enc.sz Int, encs l0, none⟩), (1001, (loopB [.loc 1002 0, .loc 1003 0, .loc 1004 0] (points_Nth_y1_lp fn (jmpc 0 o7)))), (1002, ⟨3, false, false, false, 0, [.val (.int .i64 o4)], none⟩), (1003, ⟨22, false, false, false, 0, [.sl (List.length o5) (encs o5)], none⟩), (1004, ⟨27, false, false, false, 0, [.val (.int .i64 o6)], none⟩)] ⟨Res.tmp rfl, trivial⟩ ⟨rfl, rfl, rfl, rfl, rfl, trivial⟩ rfl ⟨rfl, rfl⟩
      · have H := condF hc2 H
        refine GW.skip ?_
        change GW _ _ _ _ _ _
        refine GW.seq ?_
        refine GW.seq ?_
        obtain ⟨x9, hx9, H⟩ := bind_some H
        refine GW.region ?_
        refine GL.py (PY.move rfl) rfl rfl ?_
        refine GL.py (PY.move rfl) rfl rfl ?_
        refine GL.py (PY.index rfl rfl rfl (idx_spec hx9).1 (idx_spec hx9).2.1 Try.underlying22 Try.sizeOf3) rfl rfl ?_
        refine GL.e0 (ET.set (α := Int) (x := 0) (W := [1000]) rfl rfl rfl rfl rfl rfl rfl rfl rfl (idx_spec hx9).1 (idx_spec hx9).2.1 Try.sizeOf3 rfl) rfl ?_
        refine GL.resl 1 rfl (show List.length l0 = List.length (List.set l0 (Int.toNat k0) 0) from List.length_set.symm) ?_
        refine GL.resl 22 rfl (show List.length l0 = List.length (List.set l0 (Int.toNat k0) 0) from List.length_set.symm) ?_
        refine GL.nil ?_
        change GW _ _ _ _ _ _
        refine GW.block ?_
        obtain ⟨e9, he9, Hb, Hr⟩ := bindE_some H
        refine GW.weak ((fun (q : (List Int) × Jp × Int × (List Int) × Int) => (⟨[(1, .osl 1000 (Enc.sz Int) 0 (List.length q.1)), (2, .val (.int .i64 k0)), (3, .yld 1001), (4, .loc 0 0)], [(0, ⟨25, false, true, false, 0, [.sl (List.length p0.Box) (encs p0.Box), .sl (List.length p0.Rows) (encs p0.Rows)], none⟩), (1000, ⟨3, true, false, true, Enc.sz Int, encs q.1, none⟩), (1001, (loopB [.loc 1002 0, .loc 1003 0, .loc 1004 0] (points_Nth_y1_lp fn (jmpc 0 q.2.1)))), (1002, ⟨3, false, false, false, 0, [.val (.int .i64 q.2.2.1)], none⟩), (1003, ⟨22, false, false, false, 0, [.sl (List.length q.2.2.2.1) (encs q.2.2.2.1)], none⟩), (1004, ⟨27, false, false, false, 0, [.val (.int .i64 q.2.2.2.2)], none⟩)], []⟩ : St)) (List.set l0 (Int.toNat k0) 0, Jp.go, c0, c00, c000)) ⟨⟨rfl, rfl, rfl, rfl, trivial⟩, ⟨rfl, rfl, rfl, rfl, rfl, rfl, trivial⟩, rfl⟩ ?_
        refine GW.loopF (fun (q : (List Int) × Jp × Int × (List Int) × Int) => (⟨[(1, .osl 1000 (Enc.sz Int) 0 (List.length q.1)), (2, .val (.int .i64 k0)), (3, .yld 1001), (4, .loc 0 0)], [(0, ⟨25, false, true, false, 0, [.sl (List.length p0.Box) (encs p0.Box), .sl (List.length p0.Rows) (encs p0.Rows)], none⟩), (1000, ⟨3, true, false, true, Enc.sz Int, encs q.1, none⟩), (1001, (loopB [.loc 1002 0, .loc 1003 0, .loc 1004 0] (points_Nth_y1_lp fn (jmpc 0 q.2.1)))), (1002, ⟨3, false, false, false, 0, [.val (.int .i64 q.2.2.1)], none⟩), (1003, ⟨22, false, false, false, 0, [.sl (List.length q.2.2.2.1) (encs q.2.2.2.1)], none⟩), (1004, ⟨27, false, false, false, 0, [.val (.int .i64 q.2.2.2.2)], none⟩)], []⟩ : St)) (QJ (.exit 0) (fun (q : (List Int) × Jp × Int × (List Int) × Int) => (⟨[], [(1000, ⟨3, true, false, true, Enc.sz Int, encs q.1, none⟩), (1001, (loopB [.loc 1002 0, .loc 1003 0, .loc 1004 0] (points_Nth_y1_lp fn (jmpc 0 q.2.1)))), (1002, ⟨3, false, false, false, 0, [.val (.int .i64 q.2.2.1)], none⟩), (1003, ⟨22, false, false, false, 0, [.sl (List.length q.2.2.2.1) (encs q.2.2.2.1)], none⟩), (1004, ⟨27, false, false, false, 0, [.val (.int .i64 q.2.2.2.2)], none⟩)], []⟩ : St)) (fun r2 _ s2 => RetQ Try.prog Try.f39 (fun g st => g = .val (.bool r2.1) ∧ st = [(1000, ⟨3, true, false, true, Enc.sz Int, encs r2.2.1, none⟩), (1001, (loopB [.loc 1002 0, .loc 1003 0, .loc 1004 0] (points_Nth_y1_lp fn (jmpc 0 r2.2.2.1)))), (1002, ⟨3, false, false, false, 0, [.val (.int .i64 r2.2.2.2.1)], none⟩), (1003, ⟨22, false, false, false, 0, [.sl (List.length r2.2.2.2.2.1) (encs r2.2.2.2.2.1)], none⟩), (1004, ⟨27, false, false, false, 0, [.val (.int .i64 r2.2.2.2.2.2)], none⟩)]) .ret s2)) he9 (fun x o hb => ?_) (fun ex s2 _ hx => ?_)
        · obtain ⟨x10, j11, c12, c13, c14⟩ := x
          have H := hb
          unfold F.points_walk_l1 at H
          try dsimp only at H
          refine GW.weak ⟨[(1, .osl 1000 (Enc.sz Int) 0 (List.length x10)), (2, .val (.int .i64 k0)), (3, .yld 1001), (4, .loc 0 0)], [(0, ⟨25, false, true, false, 0, [.sl (List.length p0.Box) (encs p0.Box), .sl (List.length p0.Rows) (encs p0.Rows)], none⟩), (1000, ⟨3, true, false, true, Enc.sz Int, encs x10, none⟩), (1001, (loopB [.loc 1002 0, .loc 1003 0, .loc 1004 0] (points_Nth_y1_lp fn (jmpc 0 j11)))), (1002, ⟨3, false, false, false, 0, [.val (.int .i64 c12)], none⟩), (1003, ⟨22, false, false, false, 0, [.sl (List.length c13) (encs c13)], none⟩), (1004, ⟨27, false, false, false, 0, [.val (.int .i64 c14)], none⟩)], []⟩ ⟨⟨rfl, rfl, rfl, rfl, trivial⟩, ⟨rfl, rfl, rfl, rfl, rfl, rfl, trivial⟩, rfl⟩ ?_
          refine GW.seq ?_
          refine GW.seq ?_
          obtain ⟨x20, hx20, H⟩ := bind_some H
          obtain ⟨x21, hx21, H⟩ := bind_some H
          refine GW.draws [] mixed ?_
          change GH1 _ _ _ _ _ _ 10 _ _
          refine GH1.take 0 rfl (by decide +kernel) (by decide +kernel) (by decide +kernel) rfl rfl (by decide) ((PY.move rfl).yield _) ?_
          refine GH1.take 1 rfl (by decide +kernel) (by decide +kernel) (by decide +kernel) rfl rfl (by decide) ((PY.move rfl).yield _) ?_
          refine GH1.take 2 rfl (by decide +kernel) (by decide +kernel) (by decide +kernel) rfl rfl (by decide) ((PY.index rfl rfl rfl (idx_spec hx20).1 (idx_spec hx20).2.1 Try.underlying22 Try.sizeOf3).yield _) ?_
          refine GH1.take 3 rfl (by decide +kernel) (by decide +kernel) (by decide +kernel) rfl rfl (by decide) (YT.own (α := Int) rfl rfl rfl hx20 rfl Try.isAgg3 rfl rfl) ?_
          refine GH1.take 4 rfl (by decide +kernel) (by decide +kernel) (by decide +kernel) rfl rfl (by decide) ((PY.field rfl rfl Try.underlying25 rfl Try.sizeOf22 (by decide)).yield _) ?_
          refine GH1.take 5 rfl (by decide +kernel) (by decide +kernel) (by decide +kernel) rfl rfl (by decide) (YL.loadN rfl rfl rfl Try.isAgg22 rfl rfl) ?_
          refine GH1.take 6 rfl (by decide +kernel) (by decide +kernel) (by decide +kernel) rfl rfl (by decide) ((PY.move rfl).yield _) ?_
          refine GH1.take 7 rfl (by decide +kernel) (by decide +kernel) (by decide +kernel) rfl rfl (by decide) ((PY.index rfl rfl rfl (idx_spec hx21).1 (idx_spec hx21).2.1 Try.underlying22 Try.sizeOf3).yield _) ?_
          refine GH1.take 8 rfl (by decide +kernel) (by decide +kernel) (by decide +kernel) rfl rfl (by decide) (YT.elt (α := Int) rfl hx21 rfl Try.isAgg3) ?_
          refine GH1.take 9 rfl (by decide +kernel) (by decide +kernel) (by decide +kernel) rfl rfl (by decide) ((PY.bin rfl rfl rfl).yield _) ?_
          refine GH1.done (by decide +kernel) ?_
          change GW _ _ _ _ _ _
          refine GW.cond rfl (fun hc3 => ?_) (fun hc3 => ?_)
          · have H := condT hc3 H
            refine GW.skip ?_
            change GW _ _ _ _ _ _
            refine GW.seq ?_
            refine GW.block ?_
            refine GW.seq ?_
            obtain ⟨_, hj4, H⟩ := bind_some H
            replace hj4 := chk_spec hj4
            obtain ⟨r28, hr28, H⟩ := bind_some H
            obtain ⟨o22, o23, o24, o25, o26, o27⟩ := r28
            obtain ⟨_, hl5, H⟩ := bind_some H
            replace hl5 := chk_spec hl5
            refine GW.region ?_
            refine GL.y (YL.loadAgg rfl rfl rfl Try.isAgg25 Try.sizeOf25 (Nat.le_of_ble_eq_true rfl) rfl) rfl rfl ?_
            refine GL.py (PY.move rfl) rfl rfl ?_
            refine GL.py (PY.move rfl) rfl rfl ?_
            refine GL.py (PY.bin rfl rfl rfl) rfl rfl ?_
            refine GL.py (PY.move rfl) rfl rfl ?_
            refine GL.pend 1001 rfl rfl (jmpc_none hj4) ?_
            refine GL.e1 (EF.lend (s1 := ⟨[(1, .osl 1000 (Enc.sz Int) 0 (List.length x10)), (2, .val (.int .i64 k0)), (3, .yld 1001), (4, .loc 0 0), (46, .val (.bool o22))], [(0, ⟨25, false, true, false, 0, [.sl (List.length p0.Box) (encs p0.Box), .sl (List.length p0.Rows) (encs p0.Rows)], none⟩), (1000, ⟨3, true, false, true, Enc.sz Int, encs o23, none⟩), (1001, (loopB [.loc 1002 0, .loc 1003 0, .loc 1004 0] (points_Nth_y1_lp fn (jmpc 0 o24)))), (1002, ⟨3, false, false, false, 0, [.val (.int .i64 o25)], none⟩), (1003, ⟨22, false, false, false, 0, [.sl (List.length o26) (encs o26)], none⟩), (1004, ⟨27, false, false, false, 0, [.val (.int .i64 o27)], none⟩)], []⟩) (W := [1000, 1001, 1002, 1003, 1004]) [1000, 1001, 1002, 1003, 1004] false [1000, 1001, 1002, 1003, 1004] Try.call39 rfl rfl rfl rfl (ih p0 (IntKind.i64.wrap (k0 + 1)) x10 c12 c13 c14 (o22, o23, o24, o25, o26, o27) hr28) (by rintro _ _ ⟨rfl, rfl⟩; exact ⟨_, _, rfl, rfl, ⟨⟨rfl, rfl, rfl, rfl, rfl, trivial⟩, ⟨rfl, rfl, rfl, rfl, rfl, rfl, trivial⟩, rfl⟩⟩) rfl) rfl rfl ?_
            refine GL.resl 1 rfl hl5 ?_
            refine GL.py (PY.un rfl rfl) rfl rfl ?_
            refine GL.nil ?_
            change GW _ _ _ _ _ _
            refine GW.cond rfl (fun hc8 => ?_) (fun hc8 => ?_)
            · have H := condT hc8 H
              refine GW.seq ?_
              refine GW.region ?_
              refine GL.py (PY.assign rfl) rfl rfl ?_
              refine GL.nil ?_
              change GW _ _ _ _ _ _
              refine GW.ret ?_
              cases H
              exact And.intro ret_ne (And.intro rfl (RetQ.mk (.inl rfl) [.val (.bool false)] _ [(1000, ⟨3, true, false, true, Enc.sz Int, encs o23, none⟩), (1001, (loopB [.loc 1002 0, .loc 1003 0, .loc 1004 0] (points_Nth_y1_lp fn (jmpc 0 o24)))), (1002, ⟨3, false, false, false, 0, [.val (.int .i64 o25)], none⟩), (1003, ⟨22, false, false, false, 0, [.sl (List.length o26) (encs o26)], none⟩), (1004, ⟨27, false, false, false, 0, [.val (.int .i64 o27)], none⟩)] ⟨Res.tmp rfl, trivial⟩ ⟨rfl, rfl, rfl, rfl, rfl, trivial⟩ rfl ⟨rfl, rfl⟩))
            · have H := condF hc8 H
              refine GW.skip ?_
              change GW _ _ _ _ _ _
              obtain ⟨x29, hx29, H⟩ := bind_some H
              refine GW.region ?_
              refine GL.py (PY.move rfl) rfl rfl ?_
              refine GL.py (PY.move rfl) rfl rfl ?_
              refine GL.py (PY.index rfl rfl rfl (idx_spec hx29).1 (idx_spec hx29).2.1 Try.underlying22 Try.sizeOf3) rfl rfl ?_
              refine GL.y (YT.own (α := Int) rfl rfl rfl hx29 rfl Try.isAgg3 rfl rfl) rfl rfl ?_
              refine GL.py (PY.bin rfl rfl rfl) rfl rfl ?_
              refine GL.py (PY.index rfl rfl rfl (idx_spec hx29).1 (idx_spec hx29).2.1 Try.underlying22 Try.sizeOf3) rfl rfl ?_
              refine GL.e0 (ET.set (α := Int) (x := IntKind.i64.wrap (x29 + 1)) (W := [1000]) rfl rfl rfl rfl rfl rfl rfl rfl rfl (idx_spec hx29).1 (idx_spec hx29).2.1 Try.sizeOf3 rfl) rfl ?_
              refine GL.resl 1 rfl (show List.length o23 = List.length (List.set o23 (Int.toNat k0) (IntKind.i64.wrap (x29 + 1))) from List.length_set.symm) ?_
              refine GL.resl 35 rfl (show List.length o23 = List.length (List.set o23 (Int.toNat k0) (IntKind.i64.wrap (x29 + 1))) from List.length_set.symm) ?_
              refine GL.nil ?_
              cases H
              exact And.intro rfl ⟨⟨rfl, rfl, rfl, rfl, trivial⟩, ⟨rfl, rfl, rfl, rfl, rfl, rfl, trivial⟩, rfl⟩
          · have H := condF hc3 H
            refine GW.exit ?_
            cases H
            exact And.intro exit_ne (And.intro rfl ⟨trivial, ⟨rfl, rfl, rfl, rfl, rfl, trivial⟩, rfl⟩)
        · cases e9 with
          | ret r2 =>
            obtain ⟨rfl, hx⟩ := hx
            have H := Hr r2 rfl
            subst H
            exact hx
          | brk b2 =>
            obtain ⟨rfl, hs⟩ := hx
            have H := Hb b2 rfl
            obtain ⟨l15, j16, c17, c18, c19⟩ := b2
            change GW _ _ _ _ _ _
            refine GW.weak _ hs ?_
            refine GW.weak ⟨[], [(1000, ⟨3, true, false, true, Enc.sz Int, encs l15, none⟩), (1001, (loopB [.loc 1002 0, .loc 1003 0, .loc 1004 0] (points_Nth_y1_lp fn (jmpc 0 j16)))), (1002, ⟨3, false, false, false, 0, [.val (.int .i64 c17)], none⟩), (1003, ⟨22, false, false, false, 0, [.sl (List.length c18) (encs c18)], none⟩), (1004, ⟨27, false, false, false, 0, [.val (.int .i64 c19)], none⟩)], []⟩ ⟨trivial, ⟨rfl, rfl, rfl, rfl, rfl, trivial⟩, rfl⟩ ?_
            change GW _ _ _ _ _ _
            refine GW.seq ?_
            refine GW.region ?_
            refine GL.py (PY.assign rfl) rfl rfl ?_
            refine GL.nil ?_
            change GW _ _ _ _ _ _
            refine GW.ret ?_
            have H := Option.some.inj H
            subst H
            exact RetQ.mk (.inl rfl) [.val (.bool true)] _ [(1000, ⟨3, true, false, true, Enc.sz Int, encs l15, none⟩), (1001, (loopB [.loc 1002 0, .loc 1003 0, .loc 1004 0] (points_Nth_y1_lp fn (jmpc 0 j16)))), (1002, ⟨3, false, false, false, 0, [.val (.int .i64 c17)], none⟩), (1003, ⟨22, false, false, false, 0, [.sl (List.length c18) (encs c18)], none⟩), (1004, ⟨27, false, false, false, 0, [.val (.int .i64 c19)], none⟩)] ⟨Res.tmp rfl, trivial⟩ ⟨rfl, rfl, rfl, rfl, rfl, trivial⟩ rfl ⟨rfl, rfl⟩

theorem points_All_1_ok (fn : FuncId) (fu : Nat) (a0 : SPoints) (c0 : Int) (c00 : (List Int)) (c000 : Int) (r : (Jp × Int × (List Int) × Int)) (H : F.points_All_1 fu a0 c0 c00 c000 = some r) : GM Try.prog 38 [.yld 1000, .ptr [.sl (List.length a0.Box) (encs a0.Box), .sl (List.length a0.Rows) (encs a0.Rows)]] [(1000, (loopB [.loc 1001 0, .loc 1002 0, .loc 1003 0] (points_Nth_y1_lp fn (jmpc 0 Jp.go)))), (1001, ⟨3, false, false, false, 0, [.val (.int .i64 c0)], none⟩), (1002, ⟨22, false, false, false, 0, [.sl (List.length c00) (encs c00)], none⟩), (1003, ⟨27, false, false, false, 0, [.val (.int .i64 c000)], none⟩)] (fun g st => g = .tup [] ∧ st = [(1000, (loopB [.loc 1001 0, .loc 1002 0, .loc 1003 0] (points_Nth_y1_lp fn (jmpc 0 r.1)))), (1001, ⟨3, false, false, false, 0, [.val (.int .i64 r.2.1)], none⟩), (1002, ⟨22, false, false, false, 0, [.sl (List.length r.2.2.1) (encs r.2.2.1)], none⟩), (1003, ⟨27, false, false, false, 0, [.val (.int .i64 r.2.2.2)], none⟩)]) := by
  unfold F.points_All_1 at H
  refine GM.of (N := 13) Try.func38 rfl rfl rfl (fun cx hro => ?_)
  change GW _ _ _ _ _ _
  refine GW.seq ?_
  obtain ⟨r1, hr1, H⟩ := bind_some H
  refine GW.region ?_
  refine GL.y (YL.ptrAgg rfl (Nat.le_of_ble_eq_true rfl) Try.isAgg25 Try.sizeOf25) rfl rfl ?_
  refine GL.e (W := []) (EF.call 4 Try.call17 rfl (mapO_cons rfl rfl) (points_Wrong_ok fu a0 r1 hr1) (by rintro _ _ ⟨rfl, rfl⟩; rfl)) rfl rfl ?_
  rintro _ ⟨_, _, ⟨rfl, rfl⟩, rfl⟩
  refine GL.py (PY.bin rfl rfl rfl) rfl rfl ?_
  refine GL.nil ?_
  change GW _ _ _ _ _ _
  refine GW.cond rfl (fun hc1 => ?_) (fun hc1 => ?_)
  · have H := condT hc1 H
    obtain ⟨_, hm2, H⟩ := bind_some H
    replace hm2 := chk_spec hm2
    obtain ⟨r9, hr9, H⟩ := bind_some H
    obtain ⟨o3, o4, o5, o6, o7, o8⟩ := r9
    obtain ⟨_, hl3, H⟩ := bind_some H
    replace hl3 := chk_spec hl3
    refine GW.draws [4, 1000, 1001, 1002, 1003] mixed ?_
    change GH1 _ _ _ _ _ _ 7 _ _
    refine GH1.take 0 rfl (by decide +kernel) (by decide +kernel) (by decide +kernel) rfl rfl (by decide) (YL.ptrAgg rfl (Nat.le_of_ble_eq_true rfl) Try.isAgg25 Try.sizeOf25) ?_
    refine GH1.take 1 rfl (by decide +kernel) (by decide +kernel) (by decide +kernel) rfl rfl (by decide) ((PY.field rfl rfl Try.underlying25 rfl Try.sizeOf22 (by decide)).yield _) ?_
    refine GH1.take 2 rfl (by decide +kernel) (by decide +kernel) (by decide +kernel) rfl rfl (by decide) (YL.ptr rfl rfl Try.isAgg22) ?_
    refine GH1.take 3 rfl (by decide +kernel) (by decide +kernel) (by decide +kernel) rfl rfl (by decide) ((PY.len rfl rfl Try.underlying22).yield _) ?_
    refine GH1.take 5 rfl (by decide +kernel) (by decide +kernel) (by decide +kernel) rfl rfl (by decide) ((PY.move rfl).yield _) ?_
    refine GH1.later ?_
    refine GH2.one 4 (by decide +kernel) rfl rfl (fun d e => by cases e; decide) (ET.make (α := Int) (x := (0 : Int)) 4 rfl rfl Try.underlying22 info3 rfl rfl hm2.1 hm2.2.1 hm2.2.2 rfl) ?_
    rintro _ rfl
    refine GH2.one 6 (by decide +kernel) rfl rfl (fun d e => by cases e; decide) (EF.lend (s1 := ⟨[(0, .yld 1000), (1, .ptr [.sl (List.length a0.Box) (encs a0.Box), .sl (List.length a0.Rows) (encs a0.Rows)]), (3, .agg [.sl (List.length a0.Box) (encs a0.Box), .sl (List.length a0.Rows) (encs a0.Rows)]), (4, .val (.int .i64 r1)), (5, .val (.bool (r1 == 0))), (6, .agg [.sl (List.length a0.Box) (encs a0.Box), .sl (List.length a0.Rows) (encs a0.Rows)]), (7, .ptr [.sl (List.length a0.Box) (encs a0.Box), .sl (List.length a0.Rows) (encs a0.Rows)]), (8, .sl (List.length a0.Box) (encs a0.Box)), (9, .val (.int .i64 (List.length a0.Box : Int))), (10, .osl 4 (Enc.sz Int) 0 (List.length (List.replicate (Int.toNat (List.length a0.Box : Int)) (0 : Int)))), (11, .yld 1000), (12, .val (.bool o3))], [(4, ⟨3, true, true, true, Enc.sz Int, encs o4, none⟩), (1000, (loopB [.loc 1001 0, .loc 1002 0, .loc 1003 0] (points_Nth_y1_lp fn (jmpc 0 o5)))), (1001, ⟨3, false, false, false, 0, [.val (.int .i64 o6)], none⟩), (1002, ⟨22, false, false, false, 0, [.sl (List.length o7) (encs o7)], none⟩), (1003, ⟨27, false, false, false, 0, [.val (.int .i64 o8)], none⟩)], []⟩) [4, 1000, 1001, 1002, 1003] false [4, 1000, 1001, 1002, 1003] Try.call39 rfl rfl rfl rfl (points_walk_ok fn fu a0 0 (List.replicate (Int.toNat (List.length a0.Box : Int)) (0 : Int)) c0 c00 c000 (o3, o4, o5, o6, o7, o8) hr9) (by rintro _ _ ⟨rfl, rfl⟩; exact ⟨_, _, rfl, rfl, ⟨⟨rfl, rfl, rfl, rfl, rfl, rfl, rfl, rfl, rfl, rfl, rfl, rfl, trivial⟩, ⟨rfl, rfl, rfl, rfl, rfl, trivial⟩, rfl⟩⟩) rfl) ?_
    rintro _ rfl
    refine GH2.resl 10 rfl hl3 ?_
    refine GH2.done (by decide +kernel) ?_
    have H := Option.some.inj H
    subst H
    exact RetQ.mk (.inr rfl) [] _ [(1000, (loopB [.loc 1001 0, .loc 1002 0, .loc 1003 0] (points_Nth_y1_lp fn (jmpc 0 o5)))), (1001, ⟨3, false, false, false, 0, [.val (.int .i64 o6)], none⟩), (1002, ⟨22, false, false, false, 0, [.sl (List.length o7) (encs o7)], none⟩), (1003, ⟨27, false, false, false, 0, [.val (.int .i64 o8)], none⟩)] trivial ⟨rfl, rfl, rfl, rfl, trivial⟩ rfl ⟨rfl, rfl⟩
  · have H := condF hc1 H
    refine GW.skip ?_
    have H := Option.some.inj H
    subst H
    exact RetQ.mk (.inr rfl) [] _ [(1000, (loopB [.loc 1001 0, .loc 1002 0, .loc 1003 0] (points_Nth_y1_lp fn (jmpc 0 Jp.go)))), (1001, ⟨3, false, false, false, 0, [.val (.int .i64 c0)], none⟩), (1002, ⟨22, false, false, false, 0, [.sl (List.length c00) (encs c00)], none⟩), (1003, ⟨27, false, false, false, 0, [.val (.int .i64 c000)], none⟩)] trivial ⟨rfl, rfl, rfl, rfl, trivial⟩ rfl ⟨rfl, rfl⟩

theorem points_Nth_ok (fu : Nat) (p0 : SPoints) (n0 : Int) (r : ((List Int) × Int)) (H : F.points_Nth fu p0 n0 = some r) : GM Try.prog 21 [.agg [.sl (List.length p0.Box) (encs p0.Box), .sl (List.length p0.Rows) (encs p0.Rows)], .val (.int .i64 n0)] [] (fun g st => g = .tup [.sl (List.length r.1) (encs r.1), .val (.int .i64 r.2)] ∧ st = []) := by
  unfold F.points_Nth at H
  refine GM.strip ?_
  refine GM.of (N := 23) Try.func21 rfl rfl rfl (fun cx hro => ?_)
  change GW _ _ _ _ _ _
  refine GW.seq ?_
  refine GW.region ?_
  refine GL.e1 (W := []) (EF.box 0 rfl rfl rfl) rfl rfl ?_
  refine GL.e1 (W := []) (EF.box 1 rfl rfl rfl) rfl rfl ?_
  refine GL.e1 (W := []) (EF.alloc 2 Try.zeroValue22 rfl) rfl rfl ?_
  refine GL.e1 (W := []) (EF.alloc 3 Try.zeroValue27 rfl) rfl rfl ?_
  refine GL.nil ?_
  change GW _ _ _ _ _ _
  refine GW.seq ?_
  refine GW.seq ?_
  obtain ⟨r1, hr1, H⟩ := bind_some H
  refine GW.region ?_
  refine GL.y (YL.loadAgg rfl rfl rfl Try.isAgg25 Try.sizeOf25 (Nat.le_of_ble_eq_true rfl) rfl) rfl rfl ?_
  refine GL.e (W := []) (EF.call 4 Try.call17 rfl (mapO_cons rfl rfl) (points_Wrong_ok fu p0 r1 hr1) (by rintro _ _ ⟨rfl, rfl⟩; rfl)) rfl rfl ?_
  rintro _ ⟨_, _, ⟨rfl, rfl⟩, rfl⟩
  refine GL.py (PY.assign rfl) rfl rfl ?_
  refine GL.nil ?_
  change GW _ _ _ _ _ _
  refine GW.seq ?_
  refine GW.region ?_
  refine GL.py (PY.move rfl) rfl rfl ?_
  refine GL.py (PY.bin rfl rfl rfl) rfl rfl ?_
  refine GL.nil ?_
  change GW _ _ _ _ _ _
  refine GW.cond rfl (fun hc1 => ?_) (fun hc1 => ?_)
  · have H := condT hc1 H
    refine GW.seq ?_
    refine GW.region ?_
    refine GL.py (PY.move rfl) rfl rfl ?_
    refine GL.e0 (EF.storeN (W := [2]) (cells' := [.val (.slice none 0 0)]) rfl rfl rfl rfl rfl rfl rfl rfl Try.sizeOf22 (Nat.le_of_ble_eq_true rfl) rfl rfl) rfl ?_
    refine GL.e0 (EF.storeN (W := [3]) (cells' := [.val (.int .i64 r1)]) rfl rfl rfl rfl rfl rfl rfl rfl Try.sizeOf27 (Nat.le_of_ble_eq_true rfl) rfl rfl) rfl ?_
    refine GL.nil ?_
    change GW _ _ _ _ _ _
    refine GW.ret ?_
    have H := Option.some.inj H
    subst H
    exact RetQ.mk (.inl rfl) [.val (.slice none 0 0), .val (.int .i64 r1)] _ [] ⟨Res.cell rfl rfl rfl Try.isAgg22 rfl, Res.cell rfl rfl rfl Try.isAgg27 rfl, trivial⟩ trivial rfl ⟨rfl, rfl⟩
  · have H := condF hc1 H
    refine GW.skip ?_
    change GW _ _ _ _ _ _
    refine GW.seq ?_
    refine GW.seq ?_
    refine GW.region ?_
    refine GL.y (YL.loadN rfl rfl rfl Try.isAgg3 rfl rfl) rfl rfl ?_
    refine GL.py (PY.bin rfl rfl rfl) rfl rfl ?_
    refine GL.nil ?_
    change GW _ _ _ _ _ _
    refine GW.cond rfl (fun hc2 => ?_) (fun hc2 => ?_)
    · have H := condT hc2 H
      refine GW.seq ?_
      refine GW.region ?_
      refine GL.e0 (EF.storeN (W := [2]) (cells' := [.val (.slice none 0 0)]) rfl rfl rfl rfl rfl rfl rfl rfl Try.sizeOf22 (Nat.le_of_ble_eq_true rfl) rfl rfl) rfl ?_
      refine GL.e0 (EF.storeN (W := [3]) (cells' := [.val (.int .i64 9)]) rfl rfl rfl rfl rfl rfl rfl rfl Try.sizeOf27 (Nat.le_of_ble_eq_true rfl) rfl rfl) rfl ?_
      refine GL.nil ?_
      change GW _ _ _ _ _ _
      refine GW.ret ?_
      have H := Option.some.inj H
      subst H
      exact RetQ.mk (.inl rfl) [.val (.slice none 0 0), .val (.int .i64 9)] _ [] ⟨Res.cell rfl rfl rfl Try.isAgg22 rfl, Res.cell rfl rfl rfl Try.isAgg27 rfl, trivial⟩ trivial rfl ⟨rfl, rfl⟩
    · have H := condF hc2 H
      refine GW.skip ?_
      change GW _ _ _ _ _ _
      refine GW.seq ?_
      refine GW.seq ?_
      obtain ⟨r3, hr3, H⟩ := bind_some H
      refine GW.region ?_
      refine GL.y (YL.loadAgg rfl rfl rfl Try.isAgg25 Try.sizeOf25 (Nat.le_of_ble_eq_true rfl) rfl) rfl rfl ?_
      refine GL.e (W := []) (EF.callA Try.call31 rfl (mapO_cons rfl rfl) (points_All_ok fu p0 r3 hr3) (by rintro _ _ ⟨rfl, rfl⟩; exact ⟨rfl, rfl⟩)) rfl rfl ?_
      rintro _ ⟨_, _, ⟨rfl, rfl⟩, rfl⟩
      refine GL.nil ?_
      change GW _ _ _ _ _ _
      refine GW.block ?_
      obtain ⟨r9, hr9, H⟩ := bind_some H
      obtain ⟨o5, o6, o7, o8⟩ := r9
      refine GW.rangeFunc hro points_Nth_y1_lp 4 [3, 4, 5] [4, 1, 2, 3] false [4, 1, 2, 3] (fun _ _ => rfl) rfl Try.call38 rfl rfl (fun _ => rfl) rfl (by simp) (fun fn => points_All_1_ok fn fu r3 n0 ([] : (List Int)) 0 (o5, o6, o7, o8) hr9) (fun _ => rfl) ?_
      rintro fn _ _ ⟨rfl, rfl⟩
      refine (Bool.eq_false_or_eq_true (Jp.isRt o5)).elim (fun hj3 => ?_) (fun hj3 => ?_)
      · have H := condT hj3 H
        refine ⟨_, ⟨[(4, .loc 2 0), (5, .loc 3 0)], [(2, ⟨22, false, true, false, 0, [.sl (List.length o7) (encs o7)], none⟩), (3, ⟨27, false, true, false, 0, [.val (.int .i64 o8)], none⟩)], []⟩, _, _, rfl, rfl, rfl, rfl, ⟨⟨rfl, rfl, trivial⟩, ⟨rfl, rfl, trivial⟩, rfl⟩, rfl, LoopR.rt hj3 ?_⟩
        have H := Option.some.inj H
        subst H
        exact RetQ.mk (.inl rfl) [.sl (List.length o7) (encs o7), .val (.int .i64 o8)] _ [] ⟨Res.cell rfl rfl rfl Try.isAgg22 rfl, Res.cell rfl rfl rfl Try.isAgg27 rfl, trivial⟩ trivial rfl ⟨rfl, rfl⟩
      · have H := condF hj3 H
        refine ⟨_, ⟨[(4, .loc 2 0), (5, .loc 3 0)], [(2, ⟨22, false, true, false, 0, [.sl (List.length o7) (encs o7)], none⟩), (3, ⟨27, false, true, false, 0, [.val (.int .i64 o8)], none⟩)], []⟩, _, _, rfl, rfl, rfl, rfl, ⟨⟨rfl, rfl, trivial⟩, ⟨rfl, rfl, trivial⟩, rfl⟩, rfl, LoopR.on hj3 ?_⟩
        change GW _ _ _ _ _ _
        refine GW.seq ?_
        refine GW.region ?_
        refine GL.e0 (EF.storeN (W := [2]) (cells' := [.val (.slice none 0 0)]) rfl rfl rfl rfl rfl rfl rfl rfl Try.sizeOf22 (Nat.le_of_ble_eq_true rfl) rfl rfl) rfl ?_
        refine GL.e0 (EF.storeN (W := [3]) (cells' := [.val (.int .i64 9)]) rfl rfl rfl rfl rfl rfl rfl rfl Try.sizeOf27 (Nat.le_of_ble_eq_true rfl) rfl rfl) rfl ?_
        refine GL.nil ?_
        change GW _ _ _ _ _ _
        refine GW.ret ?_
        have H := Option.some.inj H
        subst H
        exact RetQ.mk (.inl rfl) [.val (.slice none 0 0), .val (.int .i64 9)] _ [] ⟨Res.cell rfl rfl rfl Try.isAgg22 rfl, Res.cell rfl rfl rfl Try.isAgg27 rfl, trivial⟩ trivial rfl ⟨rfl, rfl⟩

theorem adjointref9_Row_ok (fu : Nat) (r0 : SRow) (vars0 : Int) (r : Int) (H : F.adjointref9_Row fu r0 vars0 = some r) : GM Try.prog 27 [.agg [.sl (List.length r0.Coef) (encs r0.Coef), .val (.int .i64 r0.Const)], .val (.int .i64 vars0)] [] (fun g st => g = .val (.int .i64 r) ∧ st = []) := by
  unfold F.adjointref9_Row at H
  refine GM.of (N := 30) Try.func27 rfl rfl rfl (fun cx hro => ?_)
  change GW _ _ _ _ _ _
  refine GW.seq ?_
  refine GW.region ?_
  refine GL.e1 (W := []) (EF.box 0 rfl rfl rfl) rfl rfl ?_
  refine GL.py (PY.assign rfl) rfl rfl ?_
  refine GL.nil ?_
  change GW _ _ _ _ _ _
  refine GW.seq ?_
  refine GW.seq ?_
  refine GW.region ?_
  refine GL.py (PY.field rfl rfl Try.underlying52 rfl Try.sizeOf22 (by decide)) rfl rfl ?_
  refine GL.y (YL.loadN rfl rfl rfl Try.isAgg22 rfl rfl) rfl rfl ?_
  refine GL.py (PY.len rfl rfl Try.underlying22) rfl rfl ?_
  refine GL.py (PY.move rfl) rfl rfl ?_
  refine GL.py (PY.bin rfl rfl rfl) rfl rfl ?_
  refine GL.nil ?_
  change GW _ _ _ _ _ _
  refine GW.cond rfl (fun hc1 => ?_) (fun hc1 => ?_)
  · have H := condT hc1 H
    refine GW.seq ?_
    refine GW.region ?_
    refine GL.py (PY.assign rfl) rfl rfl ?_
    refine GL.nil ?_
    change GW _ _ _ _ _ _
    refine GW.ret ?_
    have H := Option.some.inj H
    subst H
    exact RetQ.mk (.inl rfl) [.val (.int .i64 6)] _ [] ⟨Res.tmp rfl, trivial⟩ trivial rfl ⟨rfl, rfl⟩
  · have H := condF hc1 H
    refine GW.skip ?_
    change GW _ _ _ _ _ _
    refine GW.seq ?_
    refine GW.seq ?_
    obtain ⟨_, ha2, H⟩ := bind_some H
    replace ha2 := chk_spec ha2
    refine GW.region ?_
    refine GL.py (PY.field rfl rfl Try.underlying52 rfl Try.sizeOf3 (by decide)) rfl rfl ?_
    refine GL.y (YL.loadN rfl rfl rfl Try.isAgg3 rfl rfl) rfl rfl ?_
    refine GL.e1 (W := []) (EF.buildSlice 3 rfl rfl Try.underlying22 info3 (by decide) (by decide) rfl rfl) rfl rfl ?_
    refine GL.purify (cs := encs (α := Int) [r0.Const]) (f := true) 3 rfl rfl rfl ?_
    refine GL.py (PY.field rfl rfl Try.underlying52 rfl Try.sizeOf22 (by decide)) rfl rfl ?_
    refine GL.y (YL.loadN rfl rfl rfl Try.isAgg22 rfl rfl) rfl rfl ?_
    refine GL.e1 (ET.append (α := Int) (m := r0.Coef) (W := [3]) rfl rfl rfl rfl rfl rfl rfl rfl rfl Try.underlying22 info3 rfl ha2.1 ha2.2 rfl) rfl rfl ?_
    refine GL.refresh (α := Int) (l := [r0.Const] ++ r0.Coef) 3 rfl rfl rfl ?_
    refine GL.py (PY.len rfl rfl Try.underlying22) rfl rfl ?_
    refine GL.py (PY.move rfl) rfl rfl ?_
    refine GL.nil ?_
    change GW _ _ _ _ _ _
    refine GW.block ?_
    obtain ⟨e8, he8, Hb, Hr⟩ := bindE_some H
    refine GW.weak ((fun (q : Int) => (⟨[(17, .osl 3 (Enc.sz Int) 0 (List.length ([r0.Const] ++ r0.Coef))), (18, .val (.int .i64 (List.length ([r0.Const] ++ r0.Coef) : Int))), (19, .val (.int .i64 q))], [(3, ⟨3, true, true, true, Enc.sz Int, encs ([r0.Const] ++ r0.Coef), none⟩)], []⟩ : St)) 0) ⟨⟨rfl, rfl, rfl, trivial⟩, ⟨rfl, trivial⟩, rfl⟩ ?_
    refine GW.loopF (fun (q : Int) => (⟨[(17, .osl 3 (Enc.sz Int) 0 (List.length ([r0.Const] ++ r0.Coef))), (18, .val (.int .i64 (List.length ([r0.Const] ++ r0.Coef) : Int))), (19, .val (.int .i64 q))], [(3, ⟨3, true, true, true, Enc.sz Int, encs ([r0.Const] ++ r0.Coef), none⟩)], []⟩ : St)) (QJ (.exit 0) (fun (q : Unit) => (⟨[], [], []⟩ : St)) (fun r2 _ s2 => RetQ Try.prog Try.f27 (fun g st => g = .val (.int .i64 r2) ∧ st = []) .ret s2)) he8 (fun x o hb => ?_) (fun ex s2 _ hx => ?_)
    · obtain ⟨i1, rfl⟩ : ∃ z, z = x := ⟨_, rfl⟩
      have H := hb
      unfold F.adjointref9_Row_l1 at H
      try dsimp only at H
      refine GW.weak ⟨[(17, .osl 3 (Enc.sz Int) 0 (List.length ([r0.Const] ++ r0.Coef))), (18, .val (.int .i64 (List.length ([r0.Const] ++ r0.Coef) : Int))), (19, .val (.int .i64 i1))], [(3, ⟨3, true, true, true, Enc.sz Int, encs ([r0.Const] ++ r0.Coef), none⟩)], []⟩ ⟨⟨rfl, rfl, rfl, trivial⟩, ⟨rfl, trivial⟩, rfl⟩ ?_
      refine GW.seq ?_
      refine GW.region ?_
      refine GL.py (PY.bin rfl rfl rfl) rfl rfl ?_
      refine GL.nil ?_
      change GW _ _ _ _ _ _
      refine GW.seq ?_
      refine GW.cond rfl (fun hc4 => ?_) (fun hc4 => ?_)
      · have H := condT hc4 H
        refine GW.skip ?_
        change GW _ _ _ _ _ _
        refine GW.seq ?_
        refine GW.block ?_
        refine GW.seq ?_
        obtain ⟨x2, hx2, H⟩ := bind_some H
        refine GW.region ?_
        refine GL.py (PY.index rfl rfl rfl (idx_spec hx2).1 (idx_spec hx2).2.1 Try.underlying22 Try.sizeOf3) rfl rfl ?_
        refine GL.y (YT.own (α := Int) rfl rfl rfl hx2 rfl Try.isAgg3 rfl rfl) rfl rfl ?_
        refine GL.py (PY.assign rfl) rfl rfl ?_
        refine GL.nil ?_
        change GW _ _ _ _ _ _
        refine GW.seq ?_
        obtain ⟨e7, he7, H⟩ := bind_some H
        obtain ⟨i3, rfl⟩ : ∃ z, z = e7 := ⟨_, rfl⟩
        refine GW.mono (Q := QB .normal (fun (q : Bool) => (⟨[(17, .osl 3 (Enc.sz Int) 0 (List.length ([r0.Const] ++ r0.Coef))), (18, .val (.int .i64 (List.length ([r0.Const] ++ r0.Coef) : Int))), (19, .val (.int .i64 i1)), (28, .val (.bool q))], [(3, ⟨3, true, true, true, Enc.sz Int, encs ([r0.Const] ++ r0.Coef), none⟩)], []⟩ : St)) i3) ?_ ?_
        · have H := he7
          refine GW.region ?_
          refine GL.py (PY.move rfl) rfl rfl ?_
          refine GL.py (PY.bin rfl rfl rfl) rfl rfl ?_
          refine GL.py (PY.move rfl) rfl rfl ?_
          refine (Bool.eq_false_or_eq_true (decide (x2 > 1048576))).elim (fun hg5 => ?_) (fun hg5 => ?_)
          · have H := condT hg5 H
            refine GL.lit 25 rfl hg5 ?_
            refine GL.nou rfl rfl ?_
            refine GL.nou rfl rfl ?_
            refine GL.py (PY.pickT rfl rfl) rfl rfl ?_
            refine GL.nil ?_
            cases H
            exact And.intro rfl ⟨⟨rfl, rfl, rfl, rfl, trivial⟩, ⟨rfl, trivial⟩, rfl⟩
          · have H := condF hg5 H
            refine GL.lit 25 rfl hg5 ?_
            refine GL.py (PY.move rfl) rfl rfl ?_
            refine GL.py (PY.bin rfl rfl rfl) rfl rfl ?_
            refine GL.py (PY.pickF rfl rfl) rfl rfl ?_
            refine GL.nil ?_
            cases H
            exact And.intro rfl ⟨⟨rfl, rfl, rfl, rfl, trivial⟩, ⟨rfl, trivial⟩, rfl⟩
        · rintro _ s2 ⟨rfl, hs⟩
          change GW _ _ _ _ _ _
          refine GW.weak _ hs ?_
          refine GW.weak ⟨[(17, .osl 3 (Enc.sz Int) 0 (List.length ([r0.Const] ++ r0.Coef))), (18, .val (.int .i64 (List.length ([r0.Const] ++ r0.Coef) : Int))), (19, .val (.int .i64 i1)), (28, .val (.bool i3))], [(3, ⟨3, true, true, true, Enc.sz Int, encs ([r0.Const] ++ r0.Coef), none⟩)], []⟩ ⟨⟨rfl, rfl, rfl, rfl, trivial⟩, ⟨rfl, trivial⟩, rfl⟩ ?_
          change GW _ _ _ _ _ _
          refine GW.cond rfl (fun hc6 => ?_) (fun hc6 => ?_)
          · have H := condT hc6 H
            refine GW.seq ?_
            refine GW.region ?_
            refine GL.py (PY.assign rfl) rfl rfl ?_
            refine GL.nil ?_
            change GW _ _ _ _ _ _
            refine GW.ret ?_
            cases H
            exact And.intro ret_ne (And.intro rfl (RetQ.mk (.inl rfl) [.val (.int .i64 4)] _ [] ⟨Res.tmp rfl, trivial⟩ trivial rfl ⟨rfl, rfl⟩))
          · have H := condF hc6 H
            refine GW.skip ?_
            change GW _ _ _ _ _ _
            refine GW.region ?_
            refine GL.py (PY.bin rfl rfl rfl) rfl rfl ?_
            refine GL.py (PY.move rfl) rfl rfl ?_
            refine GL.nil ?_
            cases H
            exact And.intro rfl ⟨⟨rfl, rfl, rfl, trivial⟩, ⟨rfl, trivial⟩, rfl⟩
      · have H := condF hc4 H
        refine GW.exit ?_
        cases H
        exact And.intro exit_ne (And.intro rfl ⟨trivial, trivial, rfl⟩)
    · cases e8 with
      | ret r2 =>
        obtain ⟨rfl, hx⟩ := hx
        have H := Hr r2 rfl
        subst H
        exact hx
      | brk b2 =>
        obtain ⟨rfl, hs⟩ := hx
        have H := Hb b2 rfl
        change GW _ _ _ _ _ _
        refine GW.weak _ hs ?_
        refine GW.weak ⟨[], [], []⟩ ⟨trivial, trivial, rfl⟩ ?_
        change GW _ _ _ _ _ _
        refine GW.seq ?_
        refine GW.region ?_
        refine GL.py (PY.assign rfl) rfl rfl ?_
        refine GL.nil ?_
        change GW _ _ _ _ _ _
        refine GW.ret ?_
        have H := Option.some.inj H
        subst H
        exact RetQ.mk (.inl rfl) [.val (.int .i64 0)] _ [] ⟨Res.tmp rfl, trivial⟩ trivial rfl ⟨rfl, rfl⟩

theorem adjointref9_Wrong_ok (fu : Nat) (p0 : SPoints) (r : Int) (H : F.adjointref9_Wrong fu p0 = some r) : GM Try.prog 9 [.agg [.sl (List.length p0.Box) (encs p0.Box), .sl (List.length p0.Rows) (encs p0.Rows)]] [] (fun g st => g = .val (.int .i64 r) ∧ st = []) := by
  unfold F.adjointref9_Wrong at H
  refine GM.of (N := 52) Try.func9 rfl rfl rfl (fun cx hro => ?_)
  change GW _ _ _ _ _ _
  refine GW.seq ?_
  refine GW.region ?_
  refine GL.e1 (W := []) (EF.box 0 rfl rfl rfl) rfl rfl ?_
  refine GL.py (PY.assign rfl) rfl rfl ?_
  refine GL.nil ?_
  change GW _ _ _ _ _ _
  refine GW.seq ?_
  refine GW.seq ?_
  refine GW.region ?_
  refine GL.py (PY.field rfl rfl Try.underlying25 rfl Try.sizeOf22 (by decide)) rfl rfl ?_
  refine GL.y (YL.loadN rfl rfl rfl Try.isAgg22 rfl rfl) rfl rfl ?_
  refine GL.py (PY.len rfl rfl Try.underlying22) rfl rfl ?_
  refine GL.py (PY.bin rfl rfl rfl) rfl rfl ?_
  refine GL.nil ?_
  change GW _ _ _ _ _ _
  refine GW.cond rfl (fun hc1 => ?_) (fun hc1 => ?_)
  · have H := condT hc1 H
    refine GW.seq ?_
    refine GW.region ?_
    refine GL.py (PY.assign rfl) rfl rfl ?_
    refine GL.nil ?_
    change GW _ _ _ _ _ _
    refine GW.ret ?_
    have H := Option.some.inj H
    subst H
    exact RetQ.mk (.inl rfl) [.val (.int .i64 3)] _ [] ⟨Res.tmp rfl, trivial⟩ trivial rfl ⟨rfl, rfl⟩
  · have H := condF hc1 H
    refine GW.skip ?_
    change GW _ _ _ _ _ _
    refine GW.seq ?_
    refine GW.region ?_
    refine GL.py (PY.assign rfl) rfl rfl ?_
    refine GL.nil ?_
    change GW _ _ _ _ _ _
    refine GW.seq ?_
    refine GW.seq ?_
    refine GW.region ?_
    refine GL.py (PY.field rfl rfl Try.underlying25 rfl Try.sizeOf22 (by decide)) rfl rfl ?_
    refine GL.y (YL.loadN rfl rfl rfl Try.isAgg22 rfl rfl) rfl rfl ?_
    refine GL.py (PY.len rfl rfl Try.underlying22) rfl rfl ?_
    refine GL.py (PY.move rfl) rfl rfl ?_
    refine GL.nil ?_
    change GW _ _ _ _ _ _
    refine GW.block ?_
    obtain ⟨e6, he6, Hb, Hr⟩ := bindE_some H
    refine GW.weak ((fun (q : Int × Int) => (⟨[(1, .loc 0 0), (3, .val (.int .i64 q.1)), (14, .sl (List.length p0.Box) (encs p0.Box)), (15, .val (.int .i64 (List.length p0.Box : Int))), (16, .val (.int .i64 q.2))], [(0, ⟨25, false, true, false, 0, [.sl (List.length p0.Box) (encs p0.Box), .sl (List.length p0.Rows) (encs p0.Rows)], none⟩)], []⟩ : St)) (1, 0)) ⟨⟨rfl, rfl, rfl, rfl, rfl, trivial⟩, ⟨rfl, trivial⟩, rfl⟩ ?_
    refine GW.loopF (fun (q : Int × Int) => (⟨[(1, .loc 0 0), (3, .val (.int .i64 q.1)), (14, .sl (List.length p0.Box) (encs p0.Box)), (15, .val (.int .i64 (List.length p0.Box : Int))), (16, .val (.int .i64 q.2))], [(0, ⟨25, false, true, false, 0, [.sl (List.length p0.Box) (encs p0.Box), .sl (List.length p0.Rows) (encs p0.Rows)], none⟩)], []⟩ : St)) (QJ (.exit 0) (fun (q : Int) => (⟨[(1, .loc 0 0), (3, .val (.int .i64 q))], [(0, ⟨25, false, true, false, 0, [.sl (List.length p0.Box) (encs p0.Box), .sl (List.length p0.Rows) (encs p0.Rows)], none⟩)], []⟩ : St)) (fun r2 _ s2 => RetQ Try.prog Try.f9 (fun g st => g = .val (.int .i64 r2) ∧ st = []) .ret s2)) he6 (fun x o hb => ?_) (fun ex s2 _ hx => ?_)
    · obtain ⟨n1, i2⟩ := x
      have H := hb
      unfold F.adjointref9_Wrong_l1 at H
      try dsimp only at H
      refine GW.weak ⟨[(1, .loc 0 0), (3, .val (.int .i64 n1)), (14, .sl (List.length p0.Box) (encs p0.Box)), (15, .val (.int .i64 (List.length p0.Box : Int))), (16, .val (.int .i64 i2))], [(0, ⟨25, false, true, false, 0, [.sl (List.length p0.Box) (encs p0.Box), .sl (List.length p0.Rows) (encs p0.Rows)], none⟩)], []⟩ ⟨⟨rfl, rfl, rfl, rfl, rfl, trivial⟩, ⟨rfl, trivial⟩, rfl⟩ ?_
      refine GW.seq ?_
      refine GW.region ?_
      refine GL.py (PY.bin rfl rfl rfl) rfl rfl ?_
      refine GL.nil ?_
      change GW _ _ _ _ _ _
      refine GW.seq ?_
      refine GW.cond rfl (fun hc2 => ?_) (fun hc2 => ?_)
      · have H := condT hc2 H
        refine GW.skip ?_
        change GW _ _ _ _ _ _
        refine GW.seq ?_
        refine GW.block ?_
        refine GW.seq ?_
        obtain ⟨x4, hx4, H⟩ := bind_some H
        refine GW.region ?_
        refine GL.py (PY.index rfl rfl rfl (idx_spec hx4).1 (idx_spec hx4).2.1 Try.underlying22 Try.sizeOf3) rfl rfl ?_
        refine GL.y (YT.elt (α := Int) rfl hx4 rfl Try.isAgg3) rfl rfl ?_
        refine GL.py (PY.assign rfl) rfl rfl ?_
        refine GL.nil ?_
        change GW _ _ _ _ _ _
        refine GW.seq ?_
        refine GW.seq ?_
        obtain ⟨e5, he5, H⟩ := bind_some H
        obtain ⟨i5, rfl⟩ : ∃ z, z = e5 := ⟨_, rfl⟩
        refine GW.mono (Q := QB .normal (fun (q : Bool) => (⟨[(1, .loc 0 0), (3, .val (.int .i64 n1)), (5, .val (.int .i64 x4)), (14, .sl (List.length p0.Box) (encs p0.Box)), (15, .val (.int .i64 (List.length p0.Box : Int))), (16, .val (.int .i64 i2)), (25, .val (.bool q))], [(0, ⟨25, false, true, false, 0, [.sl (List.length p0.Box) (encs p0.Box), .sl (List.length p0.Rows) (encs p0.Rows)], none⟩)], []⟩ : St)) i5) ?_ ?_
        · have H := he5
          refine GW.region ?_
          refine GL.py (PY.move rfl) rfl rfl ?_
          refine GL.py (PY.bin rfl rfl rfl) rfl rfl ?_
          refine GL.py (PY.move rfl) rfl rfl ?_
          refine (Bool.eq_false_or_eq_true (decide (x4 < 0))).elim (fun hg3 => ?_) (fun hg3 => ?_)
          · have H := condT hg3 H
            refine GL.lit 22 rfl hg3 ?_
            refine GL.nou rfl rfl ?_
            refine GL.nou rfl rfl ?_
            refine GL.py (PY.pickT rfl rfl) rfl rfl ?_
            refine GL.nil ?_
            cases H
            exact And.intro rfl ⟨⟨rfl, rfl, rfl, rfl, rfl, rfl, rfl, trivial⟩, ⟨rfl, trivial⟩, rfl⟩
          · have H := condF hg3 H
            refine GL.lit 22 rfl hg3 ?_
            refine GL.py (PY.move rfl) rfl rfl ?_
            refine GL.py (PY.bin rfl rfl rfl) rfl rfl ?_
            refine GL.py (PY.pickF rfl rfl) rfl rfl ?_
            refine GL.nil ?_
            cases H
            exact And.intro rfl ⟨⟨rfl, rfl, rfl, rfl, rfl, rfl, rfl, trivial⟩, ⟨rfl, trivial⟩, rfl⟩
        · rintro _ s2 ⟨rfl, hs⟩
          change GW _ _ _ _ _ _
          refine GW.weak _ hs ?_
          refine GW.weak ⟨[(1, .loc 0 0), (3, .val (.int .i64 n1)), (5, .val (.int .i64 x4)), (14, .sl (List.length p0.Box) (encs p0.Box)), (15, .val (.int .i64 (List.length p0.Box : Int))), (16, .val (.int .i64 i2)), (25, .val (.bool i5))], [(0, ⟨25, false, true, false, 0, [.sl (List.length p0.Box) (encs p0.Box), .sl (List.length p0.Rows) (encs p0.Rows)], none⟩)], []⟩ ⟨⟨rfl, rfl, rfl, rfl, rfl, rfl, rfl, trivial⟩, ⟨rfl, trivial⟩, rfl⟩ ?_
          change GW _ _ _ _ _ _
          refine GW.cond rfl (fun hc4 => ?_) (fun hc4 => ?_)
          · have H := condT hc4 H
            refine GW.seq ?_
            refine GW.region ?_
            refine GL.py (PY.assign rfl) rfl rfl ?_
            refine GL.nil ?_
            change GW _ _ _ _ _ _
            refine GW.ret ?_
            cases H
            exact And.intro ret_ne (And.intro rfl (RetQ.mk (.inl rfl) [.val (.int .i64 4)] _ [] ⟨Res.tmp rfl, trivial⟩ trivial rfl ⟨rfl, rfl⟩))
          · have H := condF hc4 H
            refine GW.skip ?_
            change GW _ _ _ _ _ _
            refine GW.region ?_
            refine GL.py (PY.move rfl) rfl rfl ?_
            refine GL.py (PY.move rfl) rfl rfl ?_
            refine GL.py (PY.bin rfl rfl rfl) rfl rfl ?_
            refine GL.py (PY.assign rfl) rfl rfl ?_
            refine GL.nil ?_
            change GW _ _ _ _ _ _
            refine GW.region ?_
            refine GL.py (PY.bin rfl rfl rfl) rfl rfl ?_
            refine GL.py (PY.move rfl) rfl rfl ?_
            refine GL.nil ?_
            cases H
            exact And.intro rfl ⟨⟨rfl, rfl, rfl, rfl, rfl, trivial⟩, ⟨rfl, trivial⟩, rfl⟩
      · have H := condF hc2 H
        refine GW.exit ?_
        cases H
        exact And.intro exit_ne (And.intro rfl ⟨⟨rfl, rfl, trivial⟩, ⟨rfl, trivial⟩, rfl⟩)
    · cases e6 with
      | ret r2 =>
        obtain ⟨rfl, hx⟩ := hx
        have H := Hr r2 rfl
        subst H
        exact hx
      | brk b2 =>
        obtain ⟨rfl, hs⟩ := hx
        have H := Hb b2 rfl
        obtain ⟨n3, rfl⟩ : ∃ z, z = b2 := ⟨_, rfl⟩
        change GW _ _ _ _ _ _
        refine GW.weak _ hs ?_
        refine GW.weak ⟨[(1, .loc 0 0), (3, .val (.int .i64 n3))], [(0, ⟨25, false, true, false, 0, [.sl (List.length p0.Box) (encs p0.Box), .sl (List.length p0.Rows) (encs p0.Rows)], none⟩)], []⟩ ⟨⟨rfl, rfl, trivial⟩, ⟨rfl, trivial⟩, rfl⟩ ?_
        change GW _ _ _ _ _ _
        refine GW.seq ?_
        refine GW.seq ?_
        refine GW.region ?_
        refine GL.py (PY.move rfl) rfl rfl ?_
        refine GL.py (PY.bin rfl rfl rfl) rfl rfl ?_
        refine GL.nil ?_
        change GW _ _ _ _ _ _
        refine GW.cond rfl (fun hc7 => ?_) (fun hc7 => ?_)
        · have H := condT hc7 H
          refine GW.seq ?_
          refine GW.region ?_
          refine GL.py (PY.assign rfl) rfl rfl ?_
          refine GL.nil ?_
          change GW _ _ _ _ _ _
          refine GW.ret ?_
          have H := Option.some.inj H
          subst H
          exact RetQ.mk (.inl rfl) [.val (.int .i64 5)] _ [] ⟨Res.tmp rfl, trivial⟩ trivial rfl ⟨rfl, rfl⟩
        · have H := condF hc7 H
          refine GW.skip ?_
          change GW _ _ _ _ _ _
          refine GW.seq ?_
          refine GW.seq ?_
          refine GW.region ?_
          refine GL.py (PY.field rfl rfl Try.underlying25 rfl Try.sizeOf23 (by decide)) rfl rfl ?_
          refine GL.y (YL.loadN rfl rfl rfl Try.isAgg23 rfl rfl) rfl rfl ?_
          refine GL.py (PY.len rfl rfl Try.underlying23) rfl rfl ?_
          refine GL.py (PY.bin rfl rfl rfl) rfl rfl ?_
          refine GL.nil ?_
          change GW _ _ _ _ _ _
          refine GW.cond rfl (fun hc8 => ?_) (fun hc8 => ?_)
          · have H := condT hc8 H
            refine GW.seq ?_
            refine GW.region ?_
            refine GL.py (PY.assign rfl) rfl rfl ?_
            refine GL.nil ?_
            change GW _ _ _ _ _ _
            refine GW.ret ?_
            have H := Option.some.inj H
            subst H
            exact RetQ.mk (.inl rfl) [.val (.int .i64 2)] _ [] ⟨Res.tmp rfl, trivial⟩ trivial rfl ⟨rfl, rfl⟩
          · have H := condF hc8 H
            refine GW.skip ?_
            change GW _ _ _ _ _ _
            refine GW.seq ?_
            refine GW.seq ?_
            refine GW.region ?_
            refine GL.py (PY.field rfl rfl Try.underlying25 rfl Try.sizeOf23 (by decide)) rfl rfl ?_
            refine GL.y (YL.loadN rfl rfl rfl Try.isAgg23 rfl rfl) rfl rfl ?_
            refine GL.py (PY.len rfl rfl Try.underlying23) rfl rfl ?_
            refine GL.py (PY.move rfl) rfl rfl ?_
            refine GL.nil ?_
            change GW _ _ _ _ _ _
            refine GW.block ?_
            obtain ⟨e11, he11, Hb, Hr⟩ := bindE_some H
            refine GW.weak ((fun (q : Int) => (⟨[(1, .loc 0 0), (37, .sl (List.length p0.Rows) (encs p0.Rows)), (38, .val (.int .i64 (List.length p0.Rows : Int))), (39, .val (.int .i64 q))], [(0, ⟨25, false, true, false, 0, [.sl (List.length p0.Box) (encs p0.Box), .sl (List.length p0.Rows) (encs p0.Rows)], none⟩)], []⟩ : St)) 0) ⟨⟨rfl, rfl, rfl, rfl, trivial⟩, ⟨rfl, trivial⟩, rfl⟩ ?_
            refine GW.loopF (fun (q : Int) => (⟨[(1, .loc 0 0), (37, .sl (List.length p0.Rows) (encs p0.Rows)), (38, .val (.int .i64 (List.length p0.Rows : Int))), (39, .val (.int .i64 q))], [(0, ⟨25, false, true, false, 0, [.sl (List.length p0.Box) (encs p0.Box), .sl (List.length p0.Rows) (encs p0.Rows)], none⟩)], []⟩ : St)) (QJ (.exit 2) (fun (q : Unit) => (⟨[], [], []⟩ : St)) (fun r2 _ s2 => RetQ Try.prog Try.f9 (fun g st => g = .val (.int .i64 r2) ∧ st = []) .ret s2)) he11 (fun x o hb => ?_) (fun ex s2 _ hx => ?_)
            · obtain ⟨i6, rfl⟩ : ∃ z, z = x := ⟨_, rfl⟩
              have H := hb
              unfold F.adjointref9_Wrong_l2 at H
              try dsimp only at H
              refine GW.weak ⟨[(1, .loc 0 0), (37, .sl (List.length p0.Rows) (encs p0.Rows)), (38, .val (.int .i64 (List.length p0.Rows : Int))), (39, .val (.int .i64 i6))], [(0, ⟨25, false, true, false, 0, [.sl (List.length p0.Box) (encs p0.Box), .sl (List.length p0.Rows) (encs p0.Rows)], none⟩)], []⟩ ⟨⟨rfl, rfl, rfl, rfl, trivial⟩, ⟨rfl, trivial⟩, rfl⟩ ?_
              refine GW.seq ?_
              refine GW.region ?_
              refine GL.py (PY.bin rfl rfl rfl) rfl rfl ?_
              refine GL.nil ?_
              change GW _ _ _ _ _ _
              refine GW.seq ?_
              refine GW.cond rfl (fun hc9 => ?_) (fun hc9 => ?_)
              · have H := condT hc9 H
                refine GW.skip ?_
                change GW _ _ _ _ _ _
                refine GW.seq ?_
                refine GW.block ?_
                refine GW.seq ?_
                obtain ⟨x7, hx7, H⟩ := bind_some H
                refine GW.region ?_
                refine GL.py (PY.index rfl rfl rfl (idx_spec hx7).1 (idx_spec hx7).2.1 Try.underlying23 Try.sizeOf52) rfl rfl ?_
                refine GL.y (YT.agg (α := SRow) rfl hx7 Try.isAgg52 Try.sizeOf52) rfl rfl ?_
                refine GL.e1 (W := []) (EF.alloc 6 Try.zeroValue52 rfl) rfl rfl ?_
                refine GL.e0 (EF.storeN (W := [6]) (cells' := [.sl (List.length x7.Coef) (encs x7.Coef), .val (.int .i64 x7.Const)]) rfl rfl rfl rfl rfl rfl rfl rfl Try.sizeOf52 (Nat.le_of_ble_eq_true rfl) rfl rfl) rfl ?_
                refine GL.nil ?_
                change GW _ _ _ _ _ _
                refine GW.seq ?_
                obtain ⟨r8, hr8, H⟩ := bind_some H
                refine GW.region ?_
                refine GL.y (YL.loadAgg rfl rfl rfl Try.isAgg52 Try.sizeOf52 (Nat.le_of_ble_eq_true rfl) rfl) rfl rfl ?_
                refine GL.py (PY.field rfl rfl Try.underlying25 rfl Try.sizeOf22 (by decide)) rfl rfl ?_
                refine GL.y (YL.loadN rfl rfl rfl Try.isAgg22 rfl rfl) rfl rfl ?_
                refine GL.py (PY.len rfl rfl Try.underlying22) rfl rfl ?_
                refine GL.e (W := []) (EF.call 4 Try.call27 rfl (mapO_cons rfl (mapO_cons rfl rfl)) (adjointref9_Row_ok fu x7 (List.length p0.Box : Int) r8 hr8) (by rintro _ _ ⟨rfl, rfl⟩; rfl)) rfl rfl ?_
                rintro _ ⟨_, _, ⟨rfl, rfl⟩, rfl⟩
                refine GL.py (PY.assign rfl) rfl rfl ?_
                refine GL.nil ?_
                change GW _ _ _ _ _ _
                refine GW.seq ?_
                refine GW.region ?_
                refine GL.py (PY.move rfl) rfl rfl ?_
                refine GL.py (PY.bin rfl rfl rfl) rfl rfl ?_
                refine GL.nil ?_
                change GW _ _ _ _ _ _
                refine GW.cond rfl (fun hc10 => ?_) (fun hc10 => ?_)
                · have H := condT hc10 H
                  refine GW.seq ?_
                  refine GW.region ?_
                  refine GL.py (PY.move rfl) rfl rfl ?_
                  refine GL.py (PY.assign rfl) rfl rfl ?_
                  refine GL.nil ?_
                  change GW _ _ _ _ _ _
                  refine GW.ret ?_
                  cases H
                  exact And.intro ret_ne (And.intro rfl (RetQ.mk (.inl rfl) [.val (.int .i64 r8)] _ [] ⟨Res.tmp rfl, trivial⟩ trivial rfl ⟨rfl, rfl⟩))
                · have H := condF hc10 H
                  refine GW.skip ?_
                  change GW _ _ _ _ _ _
                  refine GW.region ?_
                  refine GL.py (PY.bin rfl rfl rfl) rfl rfl ?_
                  refine GL.py (PY.move rfl) rfl rfl ?_
                  refine GL.nil ?_
                  cases H
                  exact And.intro rfl ⟨⟨rfl, rfl, rfl, rfl, trivial⟩, ⟨rfl, trivial⟩, rfl⟩
              · have H := condF hc9 H
                refine GW.exit ?_
                cases H
                exact And.intro exit_ne (And.intro rfl ⟨trivial, trivial, rfl⟩)
            · cases e11 with
              | ret r2 =>
                obtain ⟨rfl, hx⟩ := hx
                have H := Hr r2 rfl
                subst H
                exact hx
              | brk b2 =>
                obtain ⟨rfl, hs⟩ := hx
                have H := Hb b2 rfl
                change GW _ _ _ _ _ _
                refine GW.weak _ hs ?_
                refine GW.weak ⟨[], [], []⟩ ⟨trivial, trivial, rfl⟩ ?_
                change GW _ _ _ _ _ _
                refine GW.seq ?_
                refine GW.region ?_
                refine GL.py (PY.assign rfl) rfl rfl ?_
                refine GL.nil ?_
                change GW _ _ _ _ _ _
                refine GW.ret ?_
                have H := Option.some.inj H
                subst H
                exact RetQ.mk (.inl rfl) [.val (.int .i64 0)] _ [] ⟨Res.tmp rfl, trivial⟩ trivial rfl ⟨rfl, rfl⟩

theorem adjointref9_Box_ok (fu : Nat) : ∀ (box0 : (List Int)) (r : (List (List Int))) (H : F.adjointref9_Box fu box0 = some r), GM Try.prog 30 [.sl (List.length box0) (encs box0)] [] (fun g st => g = .fr (.sl (List.length r) (encs r)) ∧ st = []) := by
  induction fu with
  | zero => intro box0 r H; cases H
  | succ fu ih =>
    intro box0 r H
    replace H : F.adjointref9_Box_body fu (F.adjointref9_Box fu) box0 = some r := H
    unfold F.adjointref9_Box_body at H
    refine GM.of (N := 44) Try.func30 rfl rfl rfl (fun cx hro => ?_)
    change GW _ _ _ _ _ _
    refine GW.seq ?_
    refine GW.region ?_
    refine GL.py (PY.assign rfl) rfl rfl ?_
    refine GL.nil ?_
    change GW _ _ _ _ _ _
    refine GW.seq ?_
    refine GW.seq ?_
    refine GW.region ?_
    refine GL.py (PY.move rfl) rfl rfl ?_
    refine GL.py (PY.len rfl rfl Try.underlying22) rfl rfl ?_
    refine GL.py (PY.bin rfl rfl rfl) rfl rfl ?_
    refine GL.nil ?_
    change GW _ _ _ _ _ _
    refine GW.cond rfl (fun hc1 => ?_) (fun hc1 => ?_)
    · have H := condT hc1 H
      refine GW.seq ?_
      refine GW.region ?_
      refine GL.e1 (W := []) (EF.buildSlice0 0 Try.underlying22 info3 rfl) rfl rfl ?_
      refine GL.freeze ⟨[(2, .val (.slice none 0 0)), (10, .fr (.sl (List.length ([] : (List Int))) (encs ([] : (List Int)))))], [], []⟩ trivial ⟨⟨_, rfl, .inr rfl⟩, ⟨_, rfl, .inl (fz_vec (α := Int) (l := ([] : (List Int))) rfl rfl rfl rfl rfl rfl)⟩, trivial⟩ ?_
      refine GL.e1 (W := []) (EF.buildSlice 1 rfl rfl Try.underlying35 info22 (by decide) (by decide) rfl rfl) rfl rfl ?_
      refine GL.purify (cs := encs (α := (List Int)) [([] : (List Int))]) (f := true) 1 rfl rfl rfl ?_
      refine GL.py (PY.assign rfl) rfl rfl ?_
      refine GL.nil ?_
      change GW _ _ _ _ _ _
      refine GW.ret ?_
      have H := Option.some.inj H
      subst H
      exact RetQ.mk (.inl rfl) [.osl 1 (Enc.sz (List Int)) 0 (List.length [([] : (List Int))])] _ [] ⟨Res.tmp rfl, trivial⟩ trivial (fz_vec (α := (List Int)) (l := [([] : (List Int))]) rfl rfl rfl rfl rfl rfl) ⟨rfl, rfl⟩
    · have H := condF hc1 H
      refine GW.skip ?_
      change GW _ _ _ _ _ _
      refine GW.seq ?_
      refine GW.region ?_
      refine GL.py (PY.assign rfl) rfl rfl ?_
      refine GL.nil ?_
      change GW _ _ _ _ _ _
      refine GW.seq ?_
      refine GW.seq ?_
      obtain ⟨_, hs2, H⟩ := bind_some H
      replace hs2 := chk_spec hs2
      obtain ⟨r1, hr1, H⟩ := bind_some H
      refine GW.region ?_
      refine GL.py (PY.move rfl) rfl rfl ?_
      refine GL.py (PY.move rfl) rfl rfl ?_
      refine GL.py (PY.len rfl rfl Try.underlying22) rfl rfl ?_
      refine GL.py (PY.bin rfl rfl rfl) rfl rfl ?_
      refine GL.py (PY.sliceH (α := Int) (f := false) (l := box0) rfl rfl Try.underlying22 Try.sizeOf3 hs2.1 hs2.2) rfl rfl ?_
      refine GL.e (W := []) (EF.call 4 Try.call30 rfl (mapO_cons rfl rfl) (ih (lpart box0 0 (IntKind.i64.wrap ((List.length box0 : Int) - 1))) r1 hr1) (by rintro _ _ ⟨rfl, rfl⟩; rfl)) rfl rfl ?_
      rintro _ ⟨_, _, ⟨rfl, rfl⟩, rfl⟩
      refine GL.py (PY.len rfl rfl Try.underlying35) rfl rfl ?_
      refine GL.py (PY.move rfl) rfl rfl ?_
      refine GL.nil ?_
      change GW _ _ _ _ _ _
      refine GW.block ?_
      refine GW.adopt 3 0 22 (Enc.sz (List Int)) rfl rfl ?_
      obtain ⟨e13, he13, H⟩ := bind_some H
      refine GW.weak ((fun (q : Int × (List (List Int))) => (⟨[(0, .sl (List.length box0) (encs box0)), (3, .osl 0 (Enc.sz (List Int)) 0 (List.length q.2)), (17, .fr (.sl (List.length r1) (encs r1))), (18, .val (.int .i64 (List.length r1 : Int))), (19, .val (.int .i64 q.1))], [(0, ⟨22, true, true, true, Enc.sz (List Int), encs q.2, none⟩)], []⟩ : St)) (0, ([] : (List (List Int))))) ⟨⟨rfl, rfl, rfl, rfl, rfl, trivial⟩, ⟨rfl, trivial⟩, rfl⟩ ?_
      refine GW.loopF (fun (q : Int × (List (List Int))) => (⟨[(0, .sl (List.length box0) (encs box0)), (3, .osl 0 (Enc.sz (List Int)) 0 (List.length q.2)), (17, .fr (.sl (List.length r1) (encs r1))), (18, .val (.int .i64 (List.length r1 : Int))), (19, .val (.int .i64 q.1))], [(0, ⟨22, true, true, true, Enc.sz (List Int), encs q.2, none⟩)], []⟩ : St)) (QB (.exit 0) (fun (q : (List (List Int))) => (⟨[(3, .osl 0 (Enc.sz (List Int)) 0 (List.length q))], [(0, ⟨22, true, true, true, Enc.sz (List Int), encs q, none⟩)], []⟩ : St))) he13 (fun x o hb => ?_) (fun ex s2 _ hx => ?_)
      · obtain ⟨i3, out4⟩ := x
        have H := hb
        unfold F.adjointref9_Box_l1 at H
        try dsimp only at H
        refine GW.weak ⟨[(0, .sl (List.length box0) (encs box0)), (3, .osl 0 (Enc.sz (List Int)) 0 (List.length out4)), (17, .fr (.sl (List.length r1) (encs r1))), (18, .val (.int .i64 (List.length r1 : Int))), (19, .val (.int .i64 i3))], [(0, ⟨22, true, true, true, Enc.sz (List Int), encs out4, none⟩)], []⟩ ⟨⟨rfl, rfl, rfl, rfl, rfl, trivial⟩, ⟨rfl, trivial⟩, rfl⟩ ?_
        refine GW.seq ?_
        refine GW.region ?_
        refine GL.py (PY.bin rfl rfl rfl) rfl rfl ?_
        refine GL.nil ?_
        change GW _ _ _ _ _ _
        refine GW.seq ?_
        refine GW.cond rfl (fun hc4 => ?_) (fun hc4 => ?_)
        · have H := condT hc4 H
          refine GW.skip ?_
          change GW _ _ _ _ _ _
          refine GW.seq ?_
          refine GW.block ?_
          refine GW.seq ?_
          obtain ⟨x6, hx6, H⟩ := bind_some H
          refine GW.region ?_
          refine GL.py (PY.index rfl rfl rfl (idx_spec hx6).1 (idx_spec hx6).2.1 Try.underlying35 Try.sizeOf22) rfl rfl ?_
          refine GL.y (YT.eltF (α := (List Int)) rfl hx6 rfl Try.isAgg22 rfl) rfl rfl ?_
          refine GL.py (PY.assign rfl) rfl rfl ?_
          refine GL.nil ?_
          change GW _ _ _ _ _ _
          refine GW.seq ?_
          refine GW.region ?_
          refine GL.py (PY.assign rfl) rfl rfl ?_
          refine GL.nil ?_
          change GW _ _ _ _ _ _
          refine GW.block ?_
          obtain ⟨e12, he12, H⟩ := bind_some H
          refine GW.weak ((fun (q : Int × (List (List Int))) => (⟨[(0, .sl (List.length box0) (encs box0)), (3, .osl 0 (Enc.sz (List Int)) 0 (List.length q.2)), (5, .fr (.sl (List.length x6) (encs x6))), (6, .val (.int .i64 q.1)), (17, .fr (.sl (List.length r1) (encs r1))), (18, .val (.int .i64 (List.length r1 : Int))), (19, .val (.int .i64 i3))], [(0, ⟨22, true, true, true, Enc.sz (List Int), encs q.2, none⟩)], []⟩ : St)) (0, out4)) ⟨⟨rfl, rfl, rfl, rfl, rfl, rfl, rfl, trivial⟩, ⟨rfl, trivial⟩, rfl⟩ ?_
          refine GW.loopF (fun (q : Int × (List (List Int))) => (⟨[(0, .sl (List.length box0) (encs box0)), (3, .osl 0 (Enc.sz (List Int)) 0 (List.length q.2)), (5, .fr (.sl (List.length x6) (encs x6))), (6, .val (.int .i64 q.1)), (17, .fr (.sl (List.length r1) (encs r1))), (18, .val (.int .i64 (List.length r1 : Int))), (19, .val (.int .i64 i3))], [(0, ⟨22, true, true, true, Enc.sz (List Int), encs q.2, none⟩)], []⟩ : St)) (QB (.exit 2) (fun (q : (List (List Int))) => (⟨[(0, .sl (List.length box0) (encs box0)), (3, .osl 0 (Enc.sz (List Int)) 0 (List.length q)), (17, .fr (.sl (List.length r1) (encs r1))), (18, .val (.int .i64 (List.length r1 : Int))), (19, .val (.int .i64 i3))], [(0, ⟨22, true, true, true, Enc.sz (List Int), encs q, none⟩)], []⟩ : St))) he12 (fun x o hb => ?_) (fun ex s2 _ hx => ?_)
          · obtain ⟨i7, out8⟩ := x
            have H := hb
            unfold F.adjointref9_Box_l2 at H
            try dsimp only at H
            refine GW.weak ⟨[(0, .sl (List.length box0) (encs box0)), (3, .osl 0 (Enc.sz (List Int)) 0 (List.length out8)), (5, .fr (.sl (List.length x6) (encs x6))), (6, .val (.int .i64 i7)), (17, .fr (.sl (List.length r1) (encs r1))), (18, .val (.int .i64 (List.length r1 : Int))), (19, .val (.int .i64 i3))], [(0, ⟨22, true, true, true, Enc.sz (List Int), encs out8, none⟩)], []⟩ ⟨⟨rfl, rfl, rfl, rfl, rfl, rfl, rfl, trivial⟩, ⟨rfl, trivial⟩, rfl⟩ ?_
            refine GW.seq ?_
            refine GW.seq ?_
            obtain ⟨x10, hx10, H⟩ := bind_some H
            refine GW.region ?_
            refine GL.py (PY.move rfl) rfl rfl ?_
            refine GL.py (PY.move rfl) rfl rfl ?_
            refine GL.py (PY.move rfl) rfl rfl ?_
            refine GL.py (PY.len rfl rfl Try.underlying22) rfl rfl ?_
            refine GL.py (PY.bin rfl rfl rfl) rfl rfl ?_
            refine GL.py (PY.index rfl rfl rfl (idx_spec hx10).1 (idx_spec hx10).2.1 Try.underlying22 Try.sizeOf3) rfl rfl ?_
            refine GL.y (YT.elt (α := Int) rfl hx10 rfl Try.isAgg3) rfl rfl ?_
            refine GL.py (PY.bin rfl rfl rfl) rfl rfl ?_
            refine GL.nil ?_
            change GW _ _ _ _ _ _
            refine GW.cond rfl (fun hc5 => ?_) (fun hc5 => ?_)
            · have H := condT hc5 H
              refine GW.skip ?_
              change GW _ _ _ _ _ _
              refine GW.seq ?_
              refine GW.block ?_
              obtain ⟨_, ha6, H⟩ := bind_some H
              replace ha6 := chk_spec ha6
              obtain ⟨_, ha7, H⟩ := bind_some H
              replace ha7 := chk_spec ha7
              obtain ⟨_, ha8, H⟩ := bind_some H
              replace ha8 := chk_spec ha8
              refine GW.region ?_
              refine GL.py (PY.move rfl) rfl rfl ?_
              refine GL.e1 (W := []) (EF.buildSlice0 18 Try.underlying22 info3 rfl) rfl rfl ?_
              refine GL.py (PY.move rfl) rfl rfl ?_
              refine GL.e1 (ET.append (α := Int) (m := x6) (W := [18]) rfl rfl rfl rfl rfl rfl rfl rfl rfl Try.underlying22 info3 rfl ha6.1 ha6.2 rfl) rfl rfl ?_
              refine GL.py (PY.move rfl) rfl rfl ?_
              refine GL.e1 (W := []) (EF.buildSlice 22 rfl rfl Try.underlying22 info3 (by decide) (by decide) rfl rfl) rfl rfl ?_
              refine GL.purify (cs := encs (α := Int) [i7]) (f := true) 22 rfl rfl rfl ?_
              refine GL.e1 (ET.append (α := Int) (m := [i7]) (W := [18]) rfl rfl rfl rfl rfl rfl rfl (gsrc_vec (α := Int) (l := [i7]) rfl rfl rfl) rfl Try.underlying22 info3 rfl ha7.1 ha7.2 rfl) rfl rfl ?_
              refine GL.freeze ⟨[(0, .sl (List.length box0) (encs box0)), (3, .osl 0 (Enc.sz (List Int)) 0 (List.length out8)), (5, .fr (.sl (List.length x6) (encs x6))), (6, .val (.int .i64 i7)), (17, .fr (.sl (List.length r1) (encs r1))), (18, .val (.int .i64 (List.length r1 : Int))), (19, .val (.int .i64 i3)), (33, .osl 0 (Enc.sz (List Int)) 0 (List.length out8)), (39, .fr (.sl (List.length ((([] : (List Int)) ++ x6) ++ [i7])) (encs ((([] : (List Int)) ++ x6) ++ [i7]))))], [(0, ⟨22, true, true, true, Enc.sz (List Int), encs out8, none⟩)], []⟩ ⟨⟨_, rfl, rfl, rfl, rfl, rfl, rfl, rfl, .inl ⟨rfl, rfl⟩⟩, trivial⟩ ⟨⟨_, rfl, .inr rfl⟩, ⟨_, rfl, .inr rfl⟩, ⟨_, rfl, .inr rfl⟩, ⟨_, rfl, .inr rfl⟩, ⟨_, rfl, .inr rfl⟩, ⟨_, rfl, .inr rfl⟩, ⟨_, rfl, .inr rfl⟩, ⟨_, rfl, .inr rfl⟩, ⟨_, rfl, .inl (fz_vec (α := Int) (l := (([] : (List Int)) ++ x6) ++ [i7]) rfl rfl rfl rfl rfl rfl)⟩, trivial⟩ ?_
              refine GL.e1 (W := []) (EF.buildSlice 24 rfl rfl Try.underlying35 info22 (by decide) (by decide) rfl rfl) rfl rfl ?_
              refine GL.purify (cs := encs (α := (List Int)) [(([] : (List Int)) ++ x6) ++ [i7]]) (f := true) 24 rfl rfl rfl ?_
              refine GL.e1 (ET.append (α := (List Int)) (m := [(([] : (List Int)) ++ x6) ++ [i7]]) (W := [0]) rfl rfl rfl rfl rfl rfl rfl (gsrc_vec (α := (List Int)) (l := [(([] : (List Int)) ++ x6) ++ [i7]]) rfl rfl rfl) rfl Try.underlying35 info22 rfl ha8.1 ha8.2 rfl) rfl rfl ?_
              refine GL.py (PY.assign rfl) rfl rfl ?_
              refine GL.nil ?_
              change GW _ _ _ _ _ _
              refine GW.region ?_
              refine GL.py (PY.move rfl) rfl rfl ?_
              refine GL.py (PY.bin rfl rfl rfl) rfl rfl ?_
              refine GL.py (PY.assign rfl) rfl rfl ?_
              refine GL.nil ?_
              cases H
              exact And.intro rfl ⟨⟨rfl, rfl, rfl, rfl, rfl, rfl, rfl, trivial⟩, ⟨rfl, trivial⟩, rfl⟩
            · have H := condF hc5 H
              refine GW.exit ?_
              cases H
              exact And.intro exit_ne (And.intro rfl ⟨⟨rfl, rfl, rfl, rfl, rfl, trivial⟩, ⟨rfl, trivial⟩, rfl⟩)
          · obtain ⟨rfl, hs⟩ := hx
            obtain ⟨out9, rfl⟩ : ∃ z, z = e12 := ⟨_, rfl⟩
            change GW _ _ _ _ _ _
            refine GW.weak _ hs ?_
            refine GW.weak ⟨[(0, .sl (List.length box0) (encs box0)), (3, .osl 0 (Enc.sz (List Int)) 0 (List.length out9)), (17, .fr (.sl (List.length r1) (encs r1))), (18, .val (.int .i64 (List.length r1 : Int))), (19, .val (.int .i64 i3))], [(0, ⟨22, true, true, true, Enc.sz (List Int), encs out9, none⟩)], []⟩ ⟨⟨rfl, rfl, rfl, rfl, rfl, trivial⟩, ⟨rfl, trivial⟩, rfl⟩ ?_
            change GW _ _ _ _ _ _
            refine GW.region ?_
            refine GL.py (PY.bin rfl rfl rfl) rfl rfl ?_
            refine GL.py (PY.move rfl) rfl rfl ?_
            refine GL.nil ?_
            cases H
            exact And.intro rfl ⟨⟨rfl, rfl, rfl, rfl, rfl, trivial⟩, ⟨rfl, trivial⟩, rfl⟩
        · have H := condF hc4 H
          refine GW.exit ?_
          cases H
          exact And.intro exit_ne (And.intro rfl ⟨⟨rfl, trivial⟩, ⟨rfl, trivial⟩, rfl⟩)
      · obtain ⟨rfl, hs⟩ := hx
        obtain ⟨out5, rfl⟩ : ∃ z, z = e13 := ⟨_, rfl⟩
        change GW _ _ _ _ _ _
        refine GW.weak _ hs ?_
        refine GW.weak ⟨[(3, .osl 0 (Enc.sz (List Int)) 0 (List.length out5))], [(0, ⟨22, true, true, true, Enc.sz (List Int), encs out5, none⟩)], []⟩ ⟨⟨rfl, trivial⟩, ⟨rfl, trivial⟩, rfl⟩ ?_
        change GW _ _ _ _ _ _
        refine GW.seq ?_
        refine GW.region ?_
        refine GL.py (PY.move rfl) rfl rfl ?_
        refine GL.py (PY.assign rfl) rfl rfl ?_
        refine GL.nil ?_
        change GW _ _ _ _ _ _
        refine GW.ret ?_
        have H := Option.some.inj H
        subst H
        exact RetQ.mk (.inl rfl) [.osl 0 (Enc.sz (List Int)) 0 (List.length out5)] _ [] ⟨Res.tmp rfl, trivial⟩ trivial (fz_vec (α := (List Int)) (l := out5) rfl rfl rfl rfl rfl rfl) ⟨rfl, rfl⟩

theorem adjointref9_At_ok (fu : Nat) (r0 : SRow) (x0 : (List Int)) (r : Int) (H : F.adjointref9_At fu r0 x0 = some r) : GM Try.prog 29 [.agg [.sl (List.length r0.Coef) (encs r0.Coef), .val (.int .i64 r0.Const)], .sl (List.length x0) (encs x0)] [] (fun g st => g = .val (.int .i64 r) ∧ st = []) := by
  unfold F.adjointref9_At at H
  refine GM.of (N := 29) Try.func29 rfl rfl rfl (fun cx hro => ?_)
  change GW _ _ _ _ _ _
  refine GW.seq ?_
  refine GW.region ?_
  refine GL.e1 (W := []) (EF.box 0 rfl rfl rfl) rfl rfl ?_
  refine GL.py (PY.assign rfl) rfl rfl ?_
  refine GL.nil ?_
  change GW _ _ _ _ _ _
  refine GW.seq ?_
  refine GW.region ?_
  refine GL.py (PY.field rfl rfl Try.underlying52 rfl Try.sizeOf3 (by decide)) rfl rfl ?_
  refine GL.y (YL.loadN rfl rfl rfl Try.isAgg3 rfl rfl) rfl rfl ?_
  refine GL.py (PY.assign rfl) rfl rfl ?_
  refine GL.nil ?_
  change GW _ _ _ _ _ _
  refine GW.seq ?_
  refine GW.seq ?_
  refine GW.region ?_
  refine GL.py (PY.field rfl rfl Try.underlying52 rfl Try.sizeOf22 (by decide)) rfl rfl ?_
  refine GL.y (YL.loadN rfl rfl rfl Try.isAgg22 rfl rfl) rfl rfl ?_
  refine GL.py (PY.len rfl rfl Try.underlying22) rfl rfl ?_
  refine GL.py (PY.move rfl) rfl rfl ?_
  refine GL.nil ?_
  change GW _ _ _ _ _ _
  refine GW.block ?_
  obtain ⟨e2, he2, H⟩ := bind_some H
  refine GW.weak ((fun (q : Int × Int) => (⟨[(1, .sl (List.length x0) (encs x0)), (2, .loc 0 0), (5, .val (.int .i64 q.1)), (11, .val (.int .i64 (List.length r0.Coef : Int))), (12, .val (.int .i64 q.2))], [(0, ⟨52, false, true, false, 0, [.sl (List.length r0.Coef) (encs r0.Coef), .val (.int .i64 r0.Const)], none⟩)], []⟩ : St)) (r0.Const, 0)) ⟨⟨rfl, rfl, rfl, rfl, rfl, trivial⟩, ⟨rfl, trivial⟩, rfl⟩ ?_
  refine GW.loopF (fun (q : Int × Int) => (⟨[(1, .sl (List.length x0) (encs x0)), (2, .loc 0 0), (5, .val (.int .i64 q.1)), (11, .val (.int .i64 (List.length r0.Coef : Int))), (12, .val (.int .i64 q.2))], [(0, ⟨52, false, true, false, 0, [.sl (List.length r0.Coef) (encs r0.Coef), .val (.int .i64 r0.Const)], none⟩)], []⟩ : St)) (QB (.exit 0) (fun (q : Int) => (⟨[(5, .val (.int .i64 q))], [], []⟩ : St))) he2 (fun x o hb => ?_) (fun ex s2 _ hx => ?_)
  · obtain ⟨n1, i2⟩ := x
    have H := hb
    unfold F.adjointref9_At_l1 at H
    try dsimp only at H
    refine GW.weak ⟨[(1, .sl (List.length x0) (encs x0)), (2, .loc 0 0), (5, .val (.int .i64 n1)), (11, .val (.int .i64 (List.length r0.Coef : Int))), (12, .val (.int .i64 i2))], [(0, ⟨52, false, true, false, 0, [.sl (List.length r0.Coef) (encs r0.Coef), .val (.int .i64 r0.Const)], none⟩)], []⟩ ⟨⟨rfl, rfl, rfl, rfl, rfl, trivial⟩, ⟨rfl, trivial⟩, rfl⟩ ?_
    refine GW.seq ?_
    refine GW.region ?_
    refine GL.py (PY.bin rfl rfl rfl) rfl rfl ?_
    refine GL.nil ?_
    change GW _ _ _ _ _ _
    refine GW.seq ?_
    refine GW.cond rfl (fun hc1 => ?_) (fun hc1 => ?_)
    · have H := condT hc1 H
      refine GW.skip ?_
      change GW _ _ _ _ _ _
      refine GW.seq ?_
      refine GW.block ?_
      refine GW.seq ?_
      refine GW.region ?_
      refine GL.py (PY.move rfl) rfl rfl ?_
      refine GL.py (PY.assign rfl) rfl rfl ?_
      refine GL.nil ?_
      change GW _ _ _ _ _ _
      obtain ⟨x4, hx4, H⟩ := bind_some H
      obtain ⟨x5, hx5, H⟩ := bind_some H
      refine GW.draws [] mixed ?_
      change GH1 _ _ _ _ _ _ 13 _ _
      refine GH1.take 0 rfl (by decide +kernel) (by decide +kernel) (by decide +kernel) rfl rfl (by decide) ((PY.move rfl).yield _) ?_
      refine GH1.take 1 rfl (by decide +kernel) (by decide +kernel) (by decide +kernel) rfl rfl (by decide) ((PY.field rfl rfl Try.underlying52 rfl Try.sizeOf22 (by decide)).yield _) ?_
      refine GH1.take 2 rfl (by decide +kernel) (by decide +kernel) (by decide +kernel) rfl rfl (by decide) (YL.loadN rfl rfl rfl Try.isAgg22 rfl rfl) ?_
      refine GH1.take 3 rfl (by decide +kernel) (by decide +kernel) (by decide +kernel) rfl rfl (by decide) ((PY.move rfl).yield _) ?_
      refine GH1.take 4 rfl (by decide +kernel) (by decide +kernel) (by decide +kernel) rfl rfl (by decide) ((PY.index rfl rfl rfl (idx_spec hx4).1 (idx_spec hx4).2.1 Try.underlying22 Try.sizeOf3).yield _) ?_
      refine GH1.take 5 rfl (by decide +kernel) (by decide +kernel) (by decide +kernel) rfl rfl (by decide) (YT.elt (α := Int) rfl hx4 rfl Try.isAgg3) ?_
      refine GH1.take 6 rfl (by decide +kernel) (by decide +kernel) (by decide +kernel) rfl rfl (by decide) ((PY.move rfl).yield _) ?_
      refine GH1.take 7 rfl (by decide +kernel) (by decide +kernel) (by decide +kernel) rfl rfl (by decide) ((PY.move rfl).yield _) ?_
      refine GH1.take 8 rfl (by decide +kernel) (by decide +kernel) (by decide +kernel) rfl rfl (by decide) ((PY.index rfl rfl rfl (idx_spec hx5).1 (idx_spec hx5).2.1 Try.underlying22 Try.sizeOf3).yield _) ?_
      refine GH1.take 9 rfl (by decide +kernel) (by decide +kernel) (by decide +kernel) rfl rfl (by decide) (YT.elt (α := Int) rfl hx5 rfl Try.isAgg3) ?_
      refine GH1.take 10 rfl (by decide +kernel) (by decide +kernel) (by decide +kernel) rfl rfl (by decide) ((PY.bin rfl rfl rfl).yield _) ?_
      refine GH1.take 11 rfl (by decide +kernel) (by decide +kernel) (by decide +kernel) rfl rfl (by decide) ((PY.bin rfl rfl rfl).yield _) ?_
      refine GH1.take 12 rfl (by decide +kernel) (by decide +kernel) (by decide +kernel) rfl rfl (by decide) ((PY.assign rfl).yield _) ?_
      refine GH1.done (by decide +kernel) ?_
      change GW _ _ _ _ _ _
      refine GW.region ?_
      refine GL.py (PY.bin rfl rfl rfl) rfl rfl ?_
      refine GL.py (PY.move rfl) rfl rfl ?_
      refine GL.nil ?_
      cases H
      exact And.intro rfl ⟨⟨rfl, rfl, rfl, rfl, rfl, trivial⟩, ⟨rfl, trivial⟩, rfl⟩
    · have H := condF hc1 H
      refine GW.exit ?_
      cases H
      exact And.intro exit_ne (And.intro rfl ⟨⟨rfl, trivial⟩, trivial, rfl⟩)
  · obtain ⟨rfl, hs⟩ := hx
    obtain ⟨n3, rfl⟩ : ∃ z, z = e2 := ⟨_, rfl⟩
    change GW _ _ _ _ _ _
    refine GW.weak _ hs ?_
    refine GW.weak ⟨[(5, .val (.int .i64 n3))], [], []⟩ ⟨⟨rfl, trivial⟩, trivial, rfl⟩ ?_
    change GW _ _ _ _ _ _
    refine GW.seq ?_
    refine GW.region ?_
    refine GL.py (PY.move rfl) rfl rfl ?_
    refine GL.py (PY.assign rfl) rfl rfl ?_
    refine GL.nil ?_
    change GW _ _ _ _ _ _
    refine GW.ret ?_
    have H := Option.some.inj H
    subst H
    exact RetQ.mk (.inl rfl) [.val (.int .i64 n3)] _ [] ⟨Res.tmp rfl, trivial⟩ trivial rfl ⟨rfl, rfl⟩

theorem adjointref9_All_ok (fu : Nat) (p0 : SPoints) (r : (List (List Int))) (H : F.adjointref9_All fu p0 = some r) : GM Try.prog 13 [.agg [.sl (List.length p0.Box) (encs p0.Box), .sl (List.length p0.Rows) (encs p0.Rows)]] [] (fun g st => g = .fr (.sl (List.length r) (encs r)) ∧ st = []) := by
  unfold F.adjointref9_All at H
  refine GM.of (N := 39) Try.func13 rfl rfl rfl (fun cx hro => ?_)
  change GW _ _ _ _ _ _
  refine GW.seq ?_
  refine GW.region ?_
  refine GL.e1 (W := []) (EF.box 0 rfl rfl rfl) rfl rfl ?_
  refine GL.py (PY.assign rfl) rfl rfl ?_
  refine GL.nil ?_
  change GW _ _ _ _ _ _
  refine GW.seq ?_
  refine GW.region ?_
  refine GL.py (PY.assign rfl) rfl rfl ?_
  refine GL.nil ?_
  change GW _ _ _ _ _ _
  refine GW.seq ?_
  refine GW.seq ?_
  obtain ⟨r1, hr1, H⟩ := bind_some H
  refine GW.region ?_
  refine GL.py (PY.field rfl rfl Try.underlying25 rfl Try.sizeOf22 (by decide)) rfl rfl ?_
  refine GL.y (YL.loadN rfl rfl rfl Try.isAgg22 rfl rfl) rfl rfl ?_
  refine GL.e (W := []) (EF.call 4 Try.call30 rfl (mapO_cons rfl rfl) (adjointref9_Box_ok fu p0.Box r1 hr1) (by rintro _ _ ⟨rfl, rfl⟩; rfl)) rfl rfl ?_
  rintro _ ⟨_, _, ⟨rfl, rfl⟩, rfl⟩
  refine GL.py (PY.len rfl rfl Try.underlying35) rfl rfl ?_
  refine GL.py (PY.move rfl) rfl rfl ?_
  refine GL.nil ?_
  change GW _ _ _ _ _ _
  refine GW.block ?_
  refine GW.adopt 3 1 22 (Enc.sz (List Int)) rfl rfl ?_
  obtain ⟨e9, he9, H⟩ := bind_some H
  refine GW.weak ((fun (q : Int × (List (List Int))) => (⟨[(1, .loc 0 0), (3, .osl 1 (Enc.sz (List Int)) 0 (List.length q.2)), (11, .fr (.sl (List.length r1) (encs r1))), (12, .val (.int .i64 (List.length r1 : Int))), (13, .val (.int .i64 q.1))], [(0, ⟨25, false, true, false, 0, [.sl (List.length p0.Box) (encs p0.Box), .sl (List.length p0.Rows) (encs p0.Rows)], none⟩), (1, ⟨22, true, true, true, Enc.sz (List Int), encs q.2, none⟩)], []⟩ : St)) (0, ([] : (List (List Int))))) ⟨⟨rfl, rfl, rfl, rfl, rfl, trivial⟩, ⟨rfl, rfl, trivial⟩, rfl⟩ ?_
  refine GW.loopF (fun (q : Int × (List (List Int))) => (⟨[(1, .loc 0 0), (3, .osl 1 (Enc.sz (List Int)) 0 (List.length q.2)), (11, .fr (.sl (List.length r1) (encs r1))), (12, .val (.int .i64 (List.length r1 : Int))), (13, .val (.int .i64 q.1))], [(0, ⟨25, false, true, false, 0, [.sl (List.length p0.Box) (encs p0.Box), .sl (List.length p0.Rows) (encs p0.Rows)], none⟩), (1, ⟨22, true, true, true, Enc.sz (List Int), encs q.2, none⟩)], []⟩ : St)) (QB (.exit 0) (fun (q : (List (List Int))) => (⟨[(3, .osl 1 (Enc.sz (List Int)) 0 (List.length q))], [(1, ⟨22, true, true, true, Enc.sz (List Int), encs q, none⟩)], []⟩ : St))) he9 (fun x o hb => ?_) (fun ex s2 _ hx => ?_)
  · obtain ⟨i3, out4⟩ := x
    have H := hb
    unfold F.adjointref9_All_l1 at H
    try dsimp only at H
    refine GW.weak ⟨[(1, .loc 0 0), (3, .osl 1 (Enc.sz (List Int)) 0 (List.length out4)), (11, .fr (.sl (List.length r1) (encs r1))), (12, .val (.int .i64 (List.length r1 : Int))), (13, .val (.int .i64 i3))], [(0, ⟨25, false, true, false, 0, [.sl (List.length p0.Box) (encs p0.Box), .sl (List.length p0.Rows) (encs p0.Rows)], none⟩), (1, ⟨22, true, true, true, Enc.sz (List Int), encs out4, none⟩)], []⟩ ⟨⟨rfl, rfl, rfl, rfl, rfl, trivial⟩, ⟨rfl, rfl, trivial⟩, rfl⟩ ?_
    refine GW.seq ?_
    refine GW.region ?_
    refine GL.py (PY.bin rfl rfl rfl) rfl rfl ?_
    refine GL.nil ?_
    change GW _ _ _ _ _ _
    refine GW.seq ?_
    refine GW.cond rfl (fun hc1 => ?_) (fun hc1 => ?_)
    · have H := condT hc1 H
      refine GW.skip ?_
      change GW _ _ _ _ _ _
      refine GW.seq ?_
      refine GW.block ?_
      refine GW.seq ?_
      obtain ⟨x6, hx6, H⟩ := bind_some H
      refine GW.region ?_
      refine GL.py (PY.index rfl rfl rfl (idx_spec hx6).1 (idx_spec hx6).2.1 Try.underlying35 Try.sizeOf22) rfl rfl ?_
      refine GL.y (YT.eltF (α := (List Int)) rfl hx6 rfl Try.isAgg22 rfl) rfl rfl ?_
      refine GL.py (PY.assign rfl) rfl rfl ?_
      refine GL.nil ?_
      change GW _ _ _ _ _ _
      refine GW.seq ?_
      refine GW.region ?_
      refine GL.py (PY.assign rfl) rfl rfl ?_
      refine GL.nil ?_
      change GW _ _ _ _ _ _
      refine GW.seq ?_
      refine GW.seq ?_
      refine GW.region ?_
      refine GL.py (PY.field rfl rfl Try.underlying25 rfl Try.sizeOf23 (by decide)) rfl rfl ?_
      refine GL.y (YL.loadN rfl rfl rfl Try.isAgg23 rfl rfl) rfl rfl ?_
      refine GL.py (PY.len rfl rfl Try.underlying23) rfl rfl ?_
      refine GL.py (PY.move rfl) rfl rfl ?_
      refine GL.nil ?_
      change GW _ _ _ _ _ _
      refine GW.block ?_
      obtain ⟨e5, he5, H⟩ := bind_some H
      refine GW.weak ((fun (q : Bool × Int) => (⟨[(1, .loc 0 0), (3, .osl 1 (Enc.sz (List Int)) 0 (List.length out4)), (5, .fr (.sl (List.length x6) (encs x6))), (6, .val (.bool q.1)), (11, .fr (.sl (List.length r1) (encs r1))), (12, .val (.int .i64 (List.length r1 : Int))), (13, .val (.int .i64 i3)), (18, .sl (List.length p0.Rows) (encs p0.Rows)), (19, .val (.int .i64 (List.length p0.Rows : Int))), (20, .val (.int .i64 q.2))], [(0, ⟨25, false, true, false, 0, [.sl (List.length p0.Box) (encs p0.Box), .sl (List.length p0.Rows) (encs p0.Rows)], none⟩), (1, ⟨22, true, true, true, Enc.sz (List Int), encs out4, none⟩)], []⟩ : St)) (true, 0)) ⟨⟨rfl, rfl, rfl, rfl, rfl, rfl, rfl, rfl, rfl, rfl, trivial⟩, ⟨rfl, rfl, trivial⟩, rfl⟩ ?_
      refine GW.loopF (fun (q : Bool × Int) => (⟨[(1, .loc 0 0), (3, .osl 1 (Enc.sz (List Int)) 0 (List.length out4)), (5, .fr (.sl (List.length x6) (encs x6))), (6, .val (.bool q.1)), (11, .fr (.sl (List.length r1) (encs r1))), (12, .val (.int .i64 (List.length r1 : Int))), (13, .val (.int .i64 i3)), (18, .sl (List.length p0.Rows) (encs p0.Rows)), (19, .val (.int .i64 (List.length p0.Rows : Int))), (20, .val (.int .i64 q.2))], [(0, ⟨25, false, true, false, 0, [.sl (List.length p0.Box) (encs p0.Box), .sl (List.length p0.Rows) (encs p0.Rows)], none⟩), (1, ⟨22, true, true, true, Enc.sz (List Int), encs out4, none⟩)], []⟩ : St)) (QB (.exit 2) (fun (q : Bool) => (⟨[(1, .loc 0 0), (3, .osl 1 (Enc.sz (List Int)) 0 (List.length out4)), (5, .fr (.sl (List.length x6) (encs x6))), (6, .val (.bool q)), (11, .fr (.sl (List.length r1) (encs r1))), (12, .val (.int .i64 (List.length r1 : Int))), (13, .val (.int .i64 i3))], [(0, ⟨25, false, true, false, 0, [.sl (List.length p0.Box) (encs p0.Box), .sl (List.length p0.Rows) (encs p0.Rows)], none⟩), (1, ⟨22, true, true, true, Enc.sz (List Int), encs out4, none⟩)], []⟩ : St))) he5 (fun x o hb => ?_) (fun ex s2 _ hx => ?_)
      · obtain ⟨ok7, i8⟩ := x
        have H := hb
        unfold F.adjointref9_All_l2 at H
        try dsimp only at H
        refine GW.weak ⟨[(1, .loc 0 0), (3, .osl 1 (Enc.sz (List Int)) 0 (List.length out4)), (5, .fr (.sl (List.length x6) (encs x6))), (6, .val (.bool ok7)), (11, .fr (.sl (List.length r1) (encs r1))), (12, .val (.int .i64 (List.length r1 : Int))), (13, .val (.int .i64 i3)), (18, .sl (List.length p0.Rows) (encs p0.Rows)), (19, .val (.int .i64 (List.length p0.Rows : Int))), (20, .val (.int .i64 i8))], [(0, ⟨25, false, true, false, 0, [.sl (List.length p0.Box) (encs p0.Box), .sl (List.length p0.Rows) (encs p0.Rows)], none⟩), (1, ⟨22, true, true, true, Enc.sz (List Int), encs out4, none⟩)], []⟩ ⟨⟨rfl, rfl, rfl, rfl, rfl, rfl, rfl, rfl, rfl, rfl, trivial⟩, ⟨rfl, rfl, trivial⟩, rfl⟩ ?_
        refine GW.seq ?_
        refine GW.region ?_
        refine GL.py (PY.bin rfl rfl rfl) rfl rfl ?_
        refine GL.nil ?_
        change GW _ _ _ _ _ _
        refine GW.seq ?_
        refine GW.cond rfl (fun hc2 => ?_) (fun hc2 => ?_)
        · have H := condT hc2 H
          refine GW.skip ?_
          change GW _ _ _ _ _ _
          refine GW.seq ?_
          refine GW.block ?_
          refine GW.seq ?_
          obtain ⟨x10, hx10, H⟩ := bind_some H
          refine GW.region ?_
          refine GL.py (PY.index rfl rfl rfl (idx_spec hx10).1 (idx_spec hx10).2.1 Try.underlying23 Try.sizeOf52) rfl rfl ?_
          refine GL.y (YT.agg (α := SRow) rfl hx10 Try.isAgg52 Try.sizeOf52) rfl rfl ?_
          refine GL.e1 (W := []) (EF.alloc 13 Try.zeroValue52 rfl) rfl rfl ?_
          refine GL.e0 (EF.storeN (W := [13]) (cells' := [.sl (List.length x10.Coef) (encs x10.Coef), .val (.int .i64 x10.Const)]) rfl rfl rfl rfl rfl rfl rfl rfl Try.sizeOf52 (Nat.le_of_ble_eq_true rfl) rfl rfl) rfl ?_
          refine GL.nil ?_
          change GW _ _ _ _ _ _
          obtain ⟨e4, he4, H⟩ := bind_some H
          obtain ⟨ok12, rfl⟩ : ∃ z, z = e4 := ⟨_, rfl⟩
          refine GW.mono (Q := QB .normal (fun (q : Bool) => (⟨[(1, .loc 0 0), (3, .osl 1 (Enc.sz (List Int)) 0 (List.length out4)), (5, .fr (.sl (List.length x6) (encs x6))), (6, .val (.bool q)), (11, .fr (.sl (List.length r1) (encs r1))), (12, .val (.int .i64 (List.length r1 : Int))), (13, .val (.int .i64 i3)), (18, .sl (List.length p0.Rows) (encs p0.Rows)), (19, .val (.int .i64 (List.length p0.Rows : Int))), (20, .val (.int .i64 i8))], [(0, ⟨25, false, true, false, 0, [.sl (List.length p0.Box) (encs p0.Box), .sl (List.length p0.Rows) (encs p0.Rows)], none⟩), (1, ⟨22, true, true, true, Enc.sz (List Int), encs out4, none⟩)], []⟩ : St)) ok12) ?_ ?_
          · have H := he4
            refine GW.region ?_
            refine GL.py (PY.move rfl) rfl rfl ?_
            refine GL.py (PY.move rfl) rfl rfl ?_
            refine (Bool.eq_false_or_eq_true ok7).elim (fun hg3 => ?_) (fun hg3 => ?_)
            · have H := condT hg3 H
              obtain ⟨r11, hr11, H⟩ := bind_some H
              refine GL.lit 25 rfl hg3 ?_
              refine GL.y (YL.loadAgg rfl rfl rfl Try.isAgg52 Try.sizeOf52 (Nat.le_of_ble_eq_true rfl) rfl) rfl rfl ?_
              refine GL.py (PY.move rfl) rfl rfl ?_
              refine GL.e (W := []) (EF.call 4 Try.call29 rfl (mapO_cons rfl (mapO_cons rfl rfl)) (adjointref9_At_ok fu x10 x6 r11 hr11) (by rintro _ _ ⟨rfl, rfl⟩; rfl)) rfl rfl ?_
              rintro _ ⟨_, _, ⟨rfl, rfl⟩, rfl⟩
              refine GL.py (PY.bin rfl rfl rfl) rfl rfl ?_
              refine GL.py (PY.pickT rfl rfl) rfl rfl ?_
              refine GL.py (PY.assign rfl) rfl rfl ?_
              refine GL.nil ?_
              cases H
              exact And.intro rfl ⟨⟨rfl, rfl, rfl, rfl, rfl, rfl, rfl, rfl, rfl, rfl, trivial⟩, ⟨rfl, rfl, trivial⟩, rfl⟩
            · have H := condF hg3 H
              refine GL.lit 25 rfl hg3 ?_
              refine GL.nou rfl rfl ?_
              refine GL.nou rfl rfl ?_
              refine GL.nou rfl rfl ?_
              refine GL.nou rfl rfl ?_
              refine GL.py (PY.pickF rfl rfl) rfl rfl ?_
              refine GL.py (PY.assign rfl) rfl rfl ?_
              refine GL.nil ?_
              cases H
              exact And.intro rfl ⟨⟨rfl, rfl, rfl, rfl, rfl, rfl, rfl, rfl, rfl, rfl, trivial⟩, ⟨rfl, rfl, trivial⟩, rfl⟩
          · rintro _ s2 ⟨rfl, hs⟩
            change GW _ _ _ _ _ _
            refine GW.weak _ hs ?_
            refine GW.weak ⟨[(1, .loc 0 0), (3, .osl 1 (Enc.sz (List Int)) 0 (List.length out4)), (5, .fr (.sl (List.length x6) (encs x6))), (6, .val (.bool ok12)), (11, .fr (.sl (List.length r1) (encs r1))), (12, .val (.int .i64 (List.length r1 : Int))), (13, .val (.int .i64 i3)), (18, .sl (List.length p0.Rows) (encs p0.Rows)), (19, .val (.int .i64 (List.length p0.Rows : Int))), (20, .val (.int .i64 i8))], [(0, ⟨25, false, true, false, 0, [.sl (List.length p0.Box) (encs p0.Box), .sl (List.length p0.Rows) (encs p0.Rows)], none⟩), (1, ⟨22, true, true, true, Enc.sz (List Int), encs out4, none⟩)], []⟩ ⟨⟨rfl, rfl, rfl, rfl, rfl, rfl, rfl, rfl, rfl, rfl, trivial⟩, ⟨rfl, rfl, trivial⟩, rfl⟩ ?_
            change GW _ _ _ _ _ _
            refine GW.region ?_
            refine GL.py (PY.bin rfl rfl rfl) rfl rfl ?_
            refine GL.py (PY.move rfl) rfl rfl ?_
            refine GL.nil ?_
            cases H
            exact And.intro rfl ⟨⟨rfl, rfl, rfl, rfl, rfl, rfl, rfl, rfl, rfl, rfl, trivial⟩, ⟨rfl, rfl, trivial⟩, rfl⟩
        · have H := condF hc2 H
          refine GW.exit ?_
          cases H
          exact And.intro exit_ne (And.intro rfl ⟨⟨rfl, rfl, rfl, rfl, rfl, rfl, rfl, trivial⟩, ⟨rfl, rfl, trivial⟩, rfl⟩)
      · obtain ⟨rfl, hs⟩ := hx
        obtain ⟨ok9, rfl⟩ : ∃ z, z = e5 := ⟨_, rfl⟩
        change GW _ _ _ _ _ _
        refine GW.weak _ hs ?_
        refine GW.weak ⟨[(1, .loc 0 0), (3, .osl 1 (Enc.sz (List Int)) 0 (List.length out4)), (5, .fr (.sl (List.length x6) (encs x6))), (6, .val (.bool ok9)), (11, .fr (.sl (List.length r1) (encs r1))), (12, .val (.int .i64 (List.length r1 : Int))), (13, .val (.int .i64 i3))], [(0, ⟨25, false, true, false, 0, [.sl (List.length p0.Box) (encs p0.Box), .sl (List.length p0.Rows) (encs p0.Rows)], none⟩), (1, ⟨22, true, true, true, Enc.sz (List Int), encs out4, none⟩)], []⟩ ⟨⟨rfl, rfl, rfl, rfl, rfl, rfl, rfl, trivial⟩, ⟨rfl, rfl, trivial⟩, rfl⟩ ?_
        change GW _ _ _ _ _ _
        refine GW.seq ?_
        refine GW.region ?_
        refine GL.py (PY.move rfl) rfl rfl ?_
        refine GL.nil ?_
        change GW _ _ _ _ _ _
        refine GW.cond rfl (fun hc6 => ?_) (fun hc6 => ?_)
        · have H := condT hc6 H
          obtain ⟨_, ha7, H⟩ := bind_some H
          replace ha7 := chk_spec ha7
          refine GW.region ?_
          refine GL.py (PY.move rfl) rfl rfl ?_
          refine GL.py (PY.move rfl) rfl rfl ?_
          refine GL.e1 (W := []) (EF.buildSlice 13 rfl rfl Try.underlying35 info22 (by decide) (by decide) rfl rfl) rfl rfl ?_
          refine GL.purify (cs := encs (α := (List Int)) [x6]) (f := true) 13 rfl rfl rfl ?_
          refine GL.e1 (ET.append (α := (List Int)) (m := [x6]) (W := [1]) rfl rfl rfl rfl rfl rfl rfl (gsrc_vec (α := (List Int)) (l := [x6]) rfl rfl rfl) rfl Try.underlying35 info22 rfl ha7.1 ha7.2 rfl) rfl rfl ?_
          refine GL.py (PY.assign rfl) rfl rfl ?_
          refine GL.nil ?_
          change GW _ _ _ _ _ _
          refine GW.region ?_
          refine GL.py (PY.bin rfl rfl rfl) rfl rfl ?_
          refine GL.py (PY.move rfl) rfl rfl ?_
          refine GL.nil ?_
          cases H
          exact And.intro rfl ⟨⟨rfl, rfl, rfl, rfl, rfl, trivial⟩, ⟨rfl, rfl, trivial⟩, rfl⟩
        · have H := condF hc6 H
          refine GW.skip ?_
          change GW _ _ _ _ _ _
          refine GW.region ?_
          refine GL.py (PY.bin rfl rfl rfl) rfl rfl ?_
          refine GL.py (PY.move rfl) rfl rfl ?_
          refine GL.nil ?_
          cases H
          exact And.intro rfl ⟨⟨rfl, rfl, rfl, rfl, rfl, trivial⟩, ⟨rfl, rfl, trivial⟩, rfl⟩
    · have H := condF hc1 H
      refine GW.exit ?_
      cases H
      exact And.intro exit_ne (And.intro rfl ⟨⟨rfl, trivial⟩, ⟨rfl, trivial⟩, rfl⟩)
  · obtain ⟨rfl, hs⟩ := hx
    obtain ⟨out5, rfl⟩ : ∃ z, z = e9 := ⟨_, rfl⟩
    change GW _ _ _ _ _ _
    refine GW.weak _ hs ?_
    refine GW.weak ⟨[(3, .osl 1 (Enc.sz (List Int)) 0 (List.length out5))], [(1, ⟨22, true, true, true, Enc.sz (List Int), encs out5, none⟩)], []⟩ ⟨⟨rfl, trivial⟩, ⟨rfl, trivial⟩, rfl⟩ ?_
    change GW _ _ _ _ _ _
    refine GW.seq ?_
    refine GW.region ?_
    refine GL.py (PY.move rfl) rfl rfl ?_
    refine GL.py (PY.assign rfl) rfl rfl ?_
    refine GL.nil ?_
    change GW _ _ _ _ _ _
    refine GW.ret ?_
    have H := Option.some.inj H
    subst H
    exact RetQ.mk (.inl rfl) [.osl 1 (Enc.sz (List Int)) 0 (List.length out5)] _ [] ⟨Res.tmp rfl, trivial⟩ trivial (fz_vec (α := (List Int)) (l := out5) rfl rfl rfl rfl rfl rfl) ⟨rfl, rfl⟩

theorem adjointref9_Nth_ok (fu : Nat) (p0 : SPoints) (n0 : Int) (r : ((List Int) × Int)) (H : F.adjointref9_Nth fu p0 n0 = some r) : GM Try.prog 22 [.agg [.sl (List.length p0.Box) (encs p0.Box), .sl (List.length p0.Rows) (encs p0.Rows)], .val (.int .i64 n0)] [] (fun g st => g = .tup [.fr (.sl (List.length r.1) (encs r.1)), .val (.int .i64 r.2)] ∧ st = []) := by
  unfold F.adjointref9_Nth at H
  refine GM.of (N := 27) Try.func22 rfl rfl rfl (fun cx hro => ?_)
  change GW _ _ _ _ _ _
  refine GW.seq ?_
  refine GW.region ?_
  refine GL.e1 (W := []) (EF.box 0 rfl rfl rfl) rfl rfl ?_
  refine GL.py (PY.assign rfl) rfl rfl ?_
  refine GL.py (PY.assign rfl) rfl rfl ?_
  refine GL.nil ?_
  change GW _ _ _ _ _ _
  refine GW.seq ?_
  refine GW.seq ?_
  obtain ⟨r1, hr1, H⟩ := bind_some H
  refine GW.region ?_
  refine GL.y (YL.loadAgg rfl rfl rfl Try.isAgg25 Try.sizeOf25 (Nat.le_of_ble_eq_true rfl) rfl) rfl rfl ?_
  refine GL.e (W := []) (EF.call 4 Try.call9 rfl (mapO_cons rfl rfl) (adjointref9_Wrong_ok fu p0 r1 hr1) (by rintro _ _ ⟨rfl, rfl⟩; rfl)) rfl rfl ?_
  rintro _ ⟨_, _, ⟨rfl, rfl⟩, rfl⟩
  refine GL.py (PY.assign rfl) rfl rfl ?_
  refine GL.nil ?_
  change GW _ _ _ _ _ _
  refine GW.seq ?_
  refine GW.region ?_
  refine GL.py (PY.move rfl) rfl rfl ?_
  refine GL.py (PY.bin rfl rfl rfl) rfl rfl ?_
  refine GL.nil ?_
  change GW _ _ _ _ _ _
  refine GW.cond rfl (fun hc1 => ?_) (fun hc1 => ?_)
  · have H := condT hc1 H
    refine GW.seq ?_
    refine GW.region ?_
    refine GL.py (PY.move rfl) rfl rfl ?_
    refine GL.py (PY.assign rfl) rfl rfl ?_
    refine GL.py (PY.assign rfl) rfl rfl ?_
    refine GL.nil ?_
    change GW _ _ _ _ _ _
    refine GW.ret ?_
    have H := Option.some.inj H
    subst H
    exact RetQ.mk (.inl rfl) [.val (.slice none 0 0), .val (.int .i64 r1)] _ [] ⟨Res.tmp rfl, Res.tmp rfl, trivial⟩ trivial rfl ⟨rfl, rfl⟩
  · have H := condF hc1 H
    refine GW.skip ?_
    change GW _ _ _ _ _ _
    refine GW.seq ?_
    obtain ⟨r3, hr3, H⟩ := bind_some H
    refine GW.region ?_
    refine GL.y (YL.loadAgg rfl rfl rfl Try.isAgg25 Try.sizeOf25 (Nat.le_of_ble_eq_true rfl) rfl) rfl rfl ?_
    refine GL.e (W := []) (EF.call 4 Try.call13 rfl (mapO_cons rfl rfl) (adjointref9_All_ok fu p0 r3 hr3) (by rintro _ _ ⟨rfl, rfl⟩; rfl)) rfl rfl ?_
    rintro _ ⟨_, _, ⟨rfl, rfl⟩, rfl⟩
    refine GL.py (PY.assign rfl) rfl rfl ?_
    refine GL.nil ?_
    change GW _ _ _ _ _ _
    refine GW.seq ?_
    refine GW.seq ?_
    obtain ⟨e4, he4, H⟩ := bind_some H
    obtain ⟨i5, rfl⟩ : ∃ z, z = e4 := ⟨_, rfl⟩
    refine GW.mono (Q := QB .normal (fun (q : Bool) => (⟨[(1, .val (.int .i64 n0)), (7, .fr (.sl (List.length r3) (encs r3))), (22, .val (.bool q))], [], []⟩ : St)) i5) ?_ ?_
    · have H := he4
      refine GW.region ?_
      refine GL.py (PY.move rfl) rfl rfl ?_
      refine GL.py (PY.bin rfl rfl rfl) rfl rfl ?_
      refine GL.py (PY.move rfl) rfl rfl ?_
      refine (Bool.eq_false_or_eq_true (decide (n0 < 0))).elim (fun hg2 => ?_) (fun hg2 => ?_)
      · have H := condT hg2 H
        refine GL.lit 17 rfl hg2 ?_
        refine GL.nou rfl rfl ?_
        refine GL.nou rfl rfl ?_
        refine GL.nou rfl rfl ?_
        refine GL.nou rfl rfl ?_
        refine GL.py (PY.pickT rfl rfl) rfl rfl ?_
        refine GL.nil ?_
        cases H
        exact And.intro rfl ⟨⟨rfl, rfl, rfl, trivial⟩, trivial, rfl⟩
      · have H := condF hg2 H
        refine GL.lit 17 rfl hg2 ?_
        refine GL.py (PY.move rfl) rfl rfl ?_
        refine GL.py (PY.move rfl) rfl rfl ?_
        refine GL.py (PY.len rfl rfl Try.underlying35) rfl rfl ?_
        refine GL.py (PY.bin rfl rfl rfl) rfl rfl ?_
        refine GL.py (PY.pickF rfl rfl) rfl rfl ?_
        refine GL.nil ?_
        cases H
        exact And.intro rfl ⟨⟨rfl, rfl, rfl, trivial⟩, trivial, rfl⟩
    · rintro _ s2 ⟨rfl, hs⟩
      change GW _ _ _ _ _ _
      refine GW.weak _ hs ?_
      refine GW.weak ⟨[(1, .val (.int .i64 n0)), (7, .fr (.sl (List.length r3) (encs r3))), (22, .val (.bool i5))], [], []⟩ ⟨⟨rfl, rfl, rfl, trivial⟩, trivial, rfl⟩ ?_
      change GW _ _ _ _ _ _
      refine GW.cond rfl (fun hc3 => ?_) (fun hc3 => ?_)
      · have H := condT hc3 H
        refine GW.seq ?_
        refine GW.region ?_
        refine GL.py (PY.assign rfl) rfl rfl ?_
        refine GL.py (PY.assign rfl) rfl rfl ?_
        refine GL.nil ?_
        change GW _ _ _ _ _ _
        refine GW.ret ?_
        have H := Option.some.inj H
        subst H
        exact RetQ.mk (.inl rfl) [.val (.slice none 0 0), .val (.int .i64 9)] _ [] ⟨Res.tmp rfl, Res.tmp rfl, trivial⟩ trivial rfl ⟨rfl, rfl⟩
      · have H := condF hc3 H
        refine GW.skip ?_
        change GW _ _ _ _ _ _
        refine GW.seq ?_
        obtain ⟨x6, hx6, H⟩ := bind_some H
        refine GW.region ?_
        refine GL.py (PY.move rfl) rfl rfl ?_
        refine GL.py (PY.move rfl) rfl rfl ?_
        refine GL.py (PY.index rfl rfl rfl (idx_spec hx6).1 (idx_spec hx6).2.1 Try.underlying35 Try.sizeOf22) rfl rfl ?_
        refine GL.y (YT.eltF (α := (List Int)) rfl hx6 rfl Try.isAgg22 rfl) rfl rfl ?_
        refine GL.py (PY.assign rfl) rfl rfl ?_
        refine GL.py (PY.assign rfl) rfl rfl ?_
        refine GL.nil ?_
        change GW _ _ _ _ _ _
        refine GW.ret ?_
        have H := Option.some.inj H
        subst H
        exact RetQ.mk (.inl rfl) [.fr (.sl (List.length x6) (encs x6)), .val (.int .i64 0)] _ [] ⟨Res.tmp rfl, Res.tmp rfl, trivial⟩ trivial rfl ⟨rfl, rfl⟩

theorem adjointref2_SameList_ok (fu : Nat) (a0 : (List Int)) (b0 : (List Int)) (r : Bool) (H : F.adjointref2_SameList fu a0 b0 = some r) : GM Try.prog 20 [.sl (List.length a0) (encs a0), .sl (List.length b0) (encs b0)] [] (fun g st => g = .val (.bool r) ∧ st = []) := by
  unfold F.adjointref2_SameList at H
  refine GM.of (N := 26) Try.func20 rfl rfl rfl (fun cx hro => ?_)
  change GW _ _ _ _ _ _
  refine GW.seq ?_
  refine GW.region ?_
  refine GL.py (PY.assign rfl) rfl rfl ?_
  refine GL.nil ?_
  change GW _ _ _ _ _ _
  refine GW.seq ?_
  refine GW.seq ?_
  refine GW.region ?_
  refine GL.py (PY.move rfl) rfl rfl ?_
  refine GL.py (PY.len rfl rfl Try.underlying22) rfl rfl ?_
  refine GL.py (PY.move rfl) rfl rfl ?_
  refine GL.py (PY.len rfl rfl Try.underlying22) rfl rfl ?_
  refine GL.py (PY.bin rfl rfl rfl) rfl rfl ?_
  refine GL.nil ?_
  change GW _ _ _ _ _ _
  refine GW.cond rfl (fun hc1 => ?_) (fun hc1 => ?_)
  · have H := condT hc1 H
    refine GW.seq ?_
    refine GW.region ?_
    refine GL.py (PY.assign rfl) rfl rfl ?_
    refine GL.nil ?_
    change GW _ _ _ _ _ _
    refine GW.ret ?_
    have H := Option.some.inj H
    subst H
    exact RetQ.mk (.inl rfl) [.val (.bool false)] _ [] ⟨Res.tmp rfl, trivial⟩ trivial rfl ⟨rfl, rfl⟩
  · have H := condF hc1 H
    refine GW.skip ?_
    change GW _ _ _ _ _ _
    refine GW.seq ?_
    refine GW.seq ?_
    refine GW.region ?_
    refine GL.py (PY.move rfl) rfl rfl ?_
    refine GL.py (PY.len rfl rfl Try.underlying22) rfl rfl ?_
    refine GL.py (PY.move rfl) rfl rfl ?_
    refine GL.nil ?_
    change GW _ _ _ _ _ _
    refine GW.block ?_
    obtain ⟨e4, he4, Hb, Hr⟩ := bindE_some H
    refine GW.weak ((fun (q : Int) => (⟨[(0, .sl (List.length a0) (encs a0)), (1, .sl (List.length b0) (encs b0)), (12, .val (.int .i64 (List.length a0 : Int))), (13, .val (.int .i64 q))], [], []⟩ : St)) 0) ⟨⟨rfl, rfl, rfl, rfl, trivial⟩, trivial, rfl⟩ ?_
    refine GW.loopF (fun (q : Int) => (⟨[(0, .sl (List.length a0) (encs a0)), (1, .sl (List.length b0) (encs b0)), (12, .val (.int .i64 (List.length a0 : Int))), (13, .val (.int .i64 q))], [], []⟩ : St)) (QJ (.exit 0) (fun (q : Unit) => (⟨[], [], []⟩ : St)) (fun r2 _ s2 => RetQ Try.prog Try.f20 (fun g st => g = .val (.bool r2) ∧ st = []) .ret s2)) he4 (fun x o hb => ?_) (fun ex s2 _ hx => ?_)
    · obtain ⟨i1, rfl⟩ : ∃ z, z = x := ⟨_, rfl⟩
      have H := hb
      unfold F.adjointref2_SameList_l1 at H
      try dsimp only at H
      refine GW.weak ⟨[(0, .sl (List.length a0) (encs a0)), (1, .sl (List.length b0) (encs b0)), (12, .val (.int .i64 (List.length a0 : Int))), (13, .val (.int .i64 i1))], [], []⟩ ⟨⟨rfl, rfl, rfl, rfl, trivial⟩, trivial, rfl⟩ ?_
      refine GW.seq ?_
      refine GW.region ?_
      refine GL.py (PY.bin rfl rfl rfl) rfl rfl ?_
      refine GL.nil ?_
      change GW _ _ _ _ _ _
      refine GW.seq ?_
      refine GW.cond rfl (fun hc2 => ?_) (fun hc2 => ?_)
      · have H := condT hc2 H
        refine GW.skip ?_
        change GW _ _ _ _ _ _
        refine GW.seq ?_
        refine GW.block ?_
        refine GW.seq ?_
        refine GW.region ?_
        refine GL.py (PY.move rfl) rfl rfl ?_
        refine GL.py (PY.assign rfl) rfl rfl ?_
        refine GL.nil ?_
        change GW _ _ _ _ _ _
        refine GW.seq ?_
        obtain ⟨x2, hx2, H⟩ := bind_some H
        obtain ⟨x3, hx3, H⟩ := bind_some H
        refine GW.draws [] mixed ?_
        change GH1 _ _ _ _ _ _ 9 _ _
        refine GH1.take 0 rfl (by decide +kernel) (by decide +kernel) (by decide +kernel) rfl rfl (by decide) ((PY.move rfl).yield _) ?_
        refine GH1.take 1 rfl (by decide +kernel) (by decide +kernel) (by decide +kernel) rfl rfl (by decide) ((PY.move rfl).yield _) ?_
        refine GH1.take 2 rfl (by decide +kernel) (by decide +kernel) (by decide +kernel) rfl rfl (by decide) ((PY.index rfl rfl rfl (idx_spec hx2).1 (idx_spec hx2).2.1 Try.underlying22 Try.sizeOf3).yield _) ?_
        refine GH1.take 3 rfl (by decide +kernel) (by decide +kernel) (by decide +kernel) rfl rfl (by decide) (YT.elt (α := Int) rfl hx2 rfl Try.isAgg3) ?_
        refine GH1.take 4 rfl (by decide +kernel) (by decide +kernel) (by decide +kernel) rfl rfl (by decide) ((PY.move rfl).yield _) ?_
        refine GH1.take 5 rfl (by decide +kernel) (by decide +kernel) (by decide +kernel) rfl rfl (by decide) ((PY.move rfl).yield _) ?_
        refine GH1.take 6 rfl (by decide +kernel) (by decide +kernel) (by decide +kernel) rfl rfl (by decide) ((PY.index rfl rfl rfl (idx_spec hx3).1 (idx_spec hx3).2.1 Try.underlying22 Try.sizeOf3).yield _) ?_
        refine GH1.take 7 rfl (by decide +kernel) (by decide +kernel) (by decide +kernel) rfl rfl (by decide) (YT.elt (α := Int) rfl hx3 rfl Try.isAgg3) ?_
        refine GH1.take 8 rfl (by decide +kernel) (by decide +kernel) (by decide +kernel) rfl rfl (by decide) ((PY.bin rfl rfl rfl).yield _) ?_
        refine GH1.done (by decide +kernel) ?_
        change GW _ _ _ _ _ _
        refine GW.cond rfl (fun hc3 => ?_) (fun hc3 => ?_)
        · have H := condT hc3 H
          refine GW.seq ?_
          refine GW.region ?_
          refine GL.py (PY.assign rfl) rfl rfl ?_
          refine GL.nil ?_
          change GW _ _ _ _ _ _
          refine GW.ret ?_
          cases H
          exact And.intro ret_ne (And.intro rfl (RetQ.mk (.inl rfl) [.val (.bool false)] _ [] ⟨Res.tmp rfl, trivial⟩ trivial rfl ⟨rfl, rfl⟩))
        · have H := condF hc3 H
          refine GW.skip ?_
          change GW _ _ _ _ _ _
          refine GW.region ?_
          refine GL.py (PY.bin rfl rfl rfl) rfl rfl ?_
          refine GL.py (PY.move rfl) rfl rfl ?_
          refine GL.nil ?_
          cases H
          exact And.intro rfl ⟨⟨rfl, rfl, rfl, rfl, trivial⟩, trivial, rfl⟩
      · have H := condF hc2 H
        refine GW.exit ?_
        cases H
        exact And.intro exit_ne (And.intro rfl ⟨trivial, trivial, rfl⟩)
    · cases e4 with
      | ret r2 =>
        obtain ⟨rfl, hx⟩ := hx
        have H := Hr r2 rfl
        subst H
        exact hx
      | brk b2 =>
        obtain ⟨rfl, hs⟩ := hx
        have H := Hb b2 rfl
        change GW _ _ _ _ _ _
        refine GW.weak _ hs ?_
        refine GW.weak ⟨[], [], []⟩ ⟨trivial, trivial, rfl⟩ ?_
        change GW _ _ _ _ _ _
        refine GW.seq ?_
        refine GW.region ?_
        refine GL.py (PY.assign rfl) rfl rfl ?_
        refine GL.nil ?_
        change GW _ _ _ _ _ _
        refine GW.ret ?_
        have H := Option.some.inj H
        subst H
        exact RetQ.mk (.inl rfl) [.val (.bool true)] _ [] ⟨Res.tmp rfl, trivial⟩ trivial rfl ⟨rfl, rfl⟩

theorem points_At_ok (fu : Nat) (r0 : SRow) (x0 : (List Int)) (r : Int) (H : F.points_At fu r0 x0 = some r) : GM Try.prog 44 [.agg [.sl (List.length r0.Coef) (encs r0.Coef), .val (.int .i64 r0.Const)], .sl (List.length x0) (encs x0)] [] (fun g st => g = .val (.int .i64 r) ∧ st = []) := by
  unfold F.points_At at H
  refine GM.of (N := 28) Try.func44 rfl rfl rfl (fun cx hro => ?_)
  change GW _ _ _ _ _ _
  refine GW.seq ?_
  refine GW.region ?_
  refine GL.e1 (W := []) (EF.box 0 rfl rfl rfl) rfl rfl ?_
  refine GL.py (PY.assign rfl) rfl rfl ?_
  refine GL.nil ?_
  change GW _ _ _ _ _ _
  refine GW.seq ?_
  refine GW.region ?_
  refine GL.py (PY.field rfl rfl Try.underlying52 rfl Try.sizeOf3 (by decide)) rfl rfl ?_
  refine GL.y (YL.loadN rfl rfl rfl Try.isAgg3 rfl rfl) rfl rfl ?_
  refine GL.py (PY.assign rfl) rfl rfl ?_
  refine GL.nil ?_
  change GW _ _ _ _ _ _
  refine GW.seq ?_
  refine GW.seq ?_
  refine GW.region ?_
  refine GL.py (PY.field rfl rfl Try.underlying52 rfl Try.sizeOf22 (by decide)) rfl rfl ?_
  refine GL.y (YL.loadN rfl rfl rfl Try.isAgg22 rfl rfl) rfl rfl ?_
  refine GL.py (PY.len rfl rfl Try.underlying22) rfl rfl ?_
  refine GL.py (PY.move rfl) rfl rfl ?_
  refine GL.nil ?_
  change GW _ _ _ _ _ _
  refine GW.block ?_
  obtain ⟨e2, he2, H⟩ := bind_some H
  refine GW.weak ((fun (q : Int × Int) => (⟨[(1, .sl (List.length x0) (encs x0)), (5, .val (.int .i64 q.1)), (11, .sl (List.length r0.Coef) (encs r0.Coef)), (12, .val (.int .i64 (List.length r0.Coef : Int))), (13, .val (.int .i64 q.2))], [], []⟩ : St)) (r0.Const, 0)) ⟨⟨rfl, rfl, rfl, rfl, rfl, trivial⟩, trivial, rfl⟩ ?_
  refine GW.loopF (fun (q : Int × Int) => (⟨[(1, .sl (List.length x0) (encs x0)), (5, .val (.int .i64 q.1)), (11, .sl (List.length r0.Coef) (encs r0.Coef)), (12, .val (.int .i64 (List.length r0.Coef : Int))), (13, .val (.int .i64 q.2))], [], []⟩ : St)) (QB (.exit 0) (fun (q : Int) => (⟨[(5, .val (.int .i64 q))], [], []⟩ : St))) he2 (fun x o hb => ?_) (fun ex s2 _ hx => ?_)
  · obtain ⟨n1, i2⟩ := x
    have H := hb
    unfold F.points_At_l1 at H
    try dsimp only at H
    refine GW.weak ⟨[(1, .sl (List.length x0) (encs x0)), (5, .val (.int .i64 n1)), (11, .sl (List.length r0.Coef) (encs r0.Coef)), (12, .val (.int .i64 (List.length r0.Coef : Int))), (13, .val (.int .i64 i2))], [], []⟩ ⟨⟨rfl, rfl, rfl, rfl, rfl, trivial⟩, trivial, rfl⟩ ?_
    refine GW.seq ?_
    refine GW.region ?_
    refine GL.py (PY.bin rfl rfl rfl) rfl rfl ?_
    refine GL.nil ?_
    change GW _ _ _ _ _ _
    refine GW.seq ?_
    refine GW.cond rfl (fun hc1 => ?_) (fun hc1 => ?_)
    · have H := condT hc1 H
      refine GW.skip ?_
      change GW _ _ _ _ _ _
      refine GW.seq ?_
      refine GW.block ?_
      refine GW.seq ?_
      obtain ⟨x4, hx4, H⟩ := bind_some H
      refine GW.region ?_
      refine GL.py (PY.move rfl) rfl rfl ?_
      refine GL.py (PY.index rfl rfl rfl (idx_spec hx4).1 (idx_spec hx4).2.1 Try.underlying22 Try.sizeOf3) rfl rfl ?_
      refine GL.y (YT.elt (α := Int) rfl hx4 rfl Try.isAgg3) rfl rfl ?_
      refine GL.py (PY.assign rfl) rfl rfl ?_
      refine GL.py (PY.assign rfl) rfl rfl ?_
      refine GL.nil ?_
      change GW _ _ _ _ _ _
      obtain ⟨x5, hx5, H⟩ := bind_some H
      refine GW.region ?_
      refine GL.py (PY.move rfl) rfl rfl ?_
      refine GL.py (PY.move rfl) rfl rfl ?_
      refine GL.py (PY.move rfl) rfl rfl ?_
      refine GL.py (PY.move rfl) rfl rfl ?_
      refine GL.py (PY.index rfl rfl rfl (idx_spec hx5).1 (idx_spec hx5).2.1 Try.underlying22 Try.sizeOf3) rfl rfl ?_
      refine GL.y (YT.elt (α := Int) rfl hx5 rfl Try.isAgg3) rfl rfl ?_
      refine GL.py (PY.bin rfl rfl rfl) rfl rfl ?_
      refine GL.py (PY.bin rfl rfl rfl) rfl rfl ?_
      refine GL.py (PY.assign rfl) rfl rfl ?_
      refine GL.nil ?_
      change GW _ _ _ _ _ _
      refine GW.region ?_
      refine GL.py (PY.bin rfl rfl rfl) rfl rfl ?_
      refine GL.py (PY.move rfl) rfl rfl ?_
      refine GL.nil ?_
      cases H
      exact And.intro rfl ⟨⟨rfl, rfl, rfl, rfl, rfl, trivial⟩, trivial, rfl⟩
    · have H := condF hc1 H
      refine GW.exit ?_
      cases H
      exact And.intro exit_ne (And.intro rfl ⟨⟨rfl, trivial⟩, trivial, rfl⟩)
  · obtain ⟨rfl, hs⟩ := hx
    obtain ⟨n3, rfl⟩ : ∃ z, z = e2 := ⟨_, rfl⟩
    change GW _ _ _ _ _ _
    refine GW.weak _ hs ?_
    refine GW.weak ⟨[(5, .val (.int .i64 n3))], [], []⟩ ⟨⟨rfl, trivial⟩, trivial, rfl⟩ ?_
    change GW _ _ _ _ _ _
    refine GW.seq ?_
    refine GW.region ?_
    refine GL.py (PY.move rfl) rfl rfl ?_
    refine GL.py (PY.assign rfl) rfl rfl ?_
    refine GL.nil ?_
    change GW _ _ _ _ _ _
    refine GW.ret ?_
    have H := Option.some.inj H
    subst H
    exact RetQ.mk (.inl rfl) [.val (.int .i64 n3)] _ [] ⟨Res.tmp rfl, trivial⟩ trivial rfl ⟨rfl, rfl⟩

theorem points_inside_1_ok (fu : Nat) (r0 : SRow) (a0 : (List Int)) (r : Bool) (H : F.points_inside_1 fu r0 a0 = some r) : GM Try.prog 43 [.agg [.sl (List.length r0.Coef) (encs r0.Coef), .val (.int .i64 r0.Const)], .ptr [.sl (List.length a0) (encs a0)]] [] (fun g st => g = .val (.bool r) ∧ st = []) := by
  unfold F.points_inside_1 at H
  refine GM.of (N := 8) Try.func43 rfl rfl rfl (fun cx hro => ?_)
  change GW _ _ _ _ _ _
  refine GW.seq ?_
  refine GW.region ?_
  refine GL.e1 (W := []) (EF.box 0 rfl rfl rfl) rfl rfl ?_
  refine GL.py (PY.assign rfl) rfl rfl ?_
  refine GL.nil ?_
  change GW _ _ _ _ _ _
  refine GW.seq ?_
  obtain ⟨r1, hr1, H⟩ := bind_some H
  refine GW.region ?_
  refine GL.y (YL.loadAgg rfl rfl rfl Try.isAgg52 Try.sizeOf52 (Nat.le_of_ble_eq_true rfl) rfl) rfl rfl ?_
  refine GL.y (YL.ptr rfl rfl Try.isAgg22) rfl rfl ?_
  refine GL.e (W := []) (EF.call 4 Try.call44 rfl (mapO_cons rfl (mapO_cons rfl rfl)) (points_At_ok fu r0 a0 r1 hr1) (by rintro _ _ ⟨rfl, rfl⟩; rfl)) rfl rfl ?_
  rintro _ ⟨_, _, ⟨rfl, rfl⟩, rfl⟩
  refine GL.py (PY.bin rfl rfl rfl) rfl rfl ?_
  refine GL.py (PY.assign rfl) rfl rfl ?_
  refine GL.nil ?_
  change GW _ _ _ _ _ _
  refine GW.ret ?_
  have H := Option.some.inj H
  subst H
  exact RetQ.mk (.inl rfl) [.val (.bool (decide (r1 < 0)))] _ [] ⟨Res.tmp rfl, trivial⟩ trivial rfl ⟨rfl, rfl⟩

theorem slices_IndexFunc_2_ok (fu : Nat) (s0 : (List SRow)) (f0 : (List Int)) (r : Int) (H : F.slices_IndexFunc_2 fu s0 f0 = some r) : GM Try.prog 48 [.sl (List.length s0) (encs s0), .clo 43 [.ptr [.sl (List.length f0) (encs f0)]]] [] (fun g st => g = .val (.int .i64 r) ∧ st = []) := by
  unfold F.slices_IndexFunc_2 at H
  refine GM.of (N := 19) Try.func48 rfl rfl rfl (fun cx hro => ?_)
  change GW _ _ _ _ _ _
  refine GW.seq ?_
  refine GW.region ?_
  refine GL.py (PY.assign rfl) rfl rfl ?_
  refine GL.nil ?_
  change GW _ _ _ _ _ _
  refine GW.seq ?_
  refine GW.seq ?_
  refine GW.region ?_
  refine GL.py (PY.move rfl) rfl rfl ?_
  refine GL.py (PY.len rfl rfl Try.underlying23) rfl rfl ?_
  refine GL.py (PY.move rfl) rfl rfl ?_
  refine GL.nil ?_
  change GW _ _ _ _ _ _
  refine GW.block ?_
  obtain ⟨e3, he3, Hb, Hr⟩ := bindE_some H
  refine GW.weak ((fun (q : Int) => (⟨[(0, .sl (List.length s0) (encs s0)), (1, .clo 43 [.ptr [.sl (List.length f0) (encs f0)]]), (7, .val (.int .i64 (List.length s0 : Int))), (8, .val (.int .i64 q))], [], []⟩ : St)) 0) ⟨⟨rfl, rfl, rfl, rfl, trivial⟩, trivial, rfl⟩ ?_
  refine GW.loopF (fun (q : Int) => (⟨[(0, .sl (List.length s0) (encs s0)), (1, .clo 43 [.ptr [.sl (List.length f0) (encs f0)]]), (7, .val (.int .i64 (List.length s0 : Int))), (8, .val (.int .i64 q))], [], []⟩ : St)) (QJ (.exit 0) (fun (q : Unit) => (⟨[], [], []⟩ : St)) (fun r2 _ s2 => RetQ Try.prog Try.f48 (fun g st => g = .val (.int .i64 r2) ∧ st = []) .ret s2)) he3 (fun x o hb => ?_) (fun ex s2 _ hx => ?_)
  · obtain ⟨i1, rfl⟩ : ∃ z, z = x := ⟨_, rfl⟩
    have H := hb
    unfold F.slices_IndexFunc_2_l1 at H
    try dsimp only at H
    refine GW.weak ⟨[(0, .sl (List.length s0) (encs s0)), (1, .clo 43 [.ptr [.sl (List.length f0) (encs f0)]]), (7, .val (.int .i64 (List.length s0 : Int))), (8, .val (.int .i64 i1))], [], []⟩ ⟨⟨rfl, rfl, rfl, rfl, trivial⟩, trivial, rfl⟩ ?_
    refine GW.seq ?_
    refine GW.region ?_
    refine GL.py (PY.bin rfl rfl rfl) rfl rfl ?_
    refine GL.nil ?_
    change GW _ _ _ _ _ _
    refine GW.seq ?_
    refine GW.cond rfl (fun hc1 => ?_) (fun hc1 => ?_)
    · have H := condT hc1 H
      refine GW.skip ?_
      change GW _ _ _ _ _ _
      refine GW.seq ?_
      refine GW.block ?_
      refine GW.seq ?_
      refine GW.region ?_
      refine GL.py (PY.move rfl) rfl rfl ?_
      refine GL.py (PY.assign rfl) rfl rfl ?_
      refine GL.nil ?_
      change GW _ _ _ _ _ _
      refine GW.seq ?_
      obtain ⟨x2, hx2, H⟩ := bind_some H
      obtain ⟨r3, hr3, H⟩ := bind_some H
      refine GW.region ?_
      refine GL.py (PY.move rfl) rfl rfl ?_
      refine GL.py (PY.move rfl) rfl rfl ?_
      refine GL.py (PY.move rfl) rfl rfl ?_
      refine GL.py (PY.index rfl rfl rfl (idx_spec hx2).1 (idx_spec hx2).2.1 Try.underlying23 Try.sizeOf52) rfl rfl ?_
      refine GL.y (YT.agg (α := SRow) rfl hx2 Try.isAgg52 Try.sizeOf52) rfl rfl ?_
      refine GL.e (W := []) (EF.callV 4 Try.call43 rfl rfl (mapO_cons rfl (mapO_cons rfl rfl)) (points_inside_1_ok fu x2 f0 r3 hr3) (by rintro _ _ ⟨rfl, rfl⟩; rfl)) rfl rfl ?_
      rintro _ ⟨_, _, ⟨rfl, rfl⟩, rfl⟩
      refine GL.nil ?_
      change GW _ _ _ _ _ _
      refine GW.cond rfl (fun hc2 => ?_) (fun hc2 => ?_)
      · have H := condT hc2 H
        refine GW.seq ?_
        refine GW.region ?_
        refine GL.py (PY.move rfl) rfl rfl ?_
        refine GL.py (PY.assign rfl) rfl rfl ?_
        refine GL.nil ?_
        change GW _ _ _ _ _ _
        refine GW.ret ?_
        cases H
        exact And.intro ret_ne (And.intro rfl (RetQ.mk (.inl rfl) [.val (.int .i64 i1)] _ [] ⟨Res.tmp rfl, trivial⟩ trivial rfl ⟨rfl, rfl⟩))
      · have H := condF hc2 H
        refine GW.skip ?_
        change GW _ _ _ _ _ _
        refine GW.region ?_
        refine GL.py (PY.bin rfl rfl rfl) rfl rfl ?_
        refine GL.py (PY.move rfl) rfl rfl ?_
        refine GL.nil ?_
        cases H
        exact And.intro rfl ⟨⟨rfl, rfl, rfl, rfl, trivial⟩, trivial, rfl⟩
    · have H := condF hc1 H
      refine GW.exit ?_
      cases H
      exact And.intro exit_ne (And.intro rfl ⟨trivial, trivial, rfl⟩)
  · cases e3 with
    | ret r2 =>
      obtain ⟨rfl, hx⟩ := hx
      have H := Hr r2 rfl
      subst H
      exact hx
    | brk b2 =>
      obtain ⟨rfl, hs⟩ := hx
      have H := Hb b2 rfl
      change GW _ _ _ _ _ _
      refine GW.weak _ hs ?_
      refine GW.weak ⟨[], [], []⟩ ⟨trivial, trivial, rfl⟩ ?_
      change GW _ _ _ _ _ _
      refine GW.seq ?_
      refine GW.region ?_
      refine GL.py (PY.assign rfl) rfl rfl ?_
      refine GL.nil ?_
      change GW _ _ _ _ _ _
      refine GW.ret ?_
      have H := Option.some.inj H
      subst H
      exact RetQ.mk (.inl rfl) [.val (.int .i64 (-1))] _ [] ⟨Res.tmp rfl, trivial⟩ trivial rfl ⟨rfl, rfl⟩

theorem slices_ContainsFunc_2_ok (fu : Nat) (s0 : (List SRow)) (f0 : (List Int)) (r : Bool) (H : F.slices_ContainsFunc_2 fu s0 f0 = some r) : GM Try.prog 42 [.sl (List.length s0) (encs s0), .clo 43 [.ptr [.sl (List.length f0) (encs f0)]]] [] (fun g st => g = .val (.bool r) ∧ st = []) := by
  unfold F.slices_ContainsFunc_2 at H
  refine GM.of (N := 9) Try.func42 rfl rfl rfl (fun cx hro => ?_)
  change GW _ _ _ _ _ _
  refine GW.seq ?_
  refine GW.region ?_
  refine GL.py (PY.assign rfl) rfl rfl ?_
  refine GL.nil ?_
  change GW _ _ _ _ _ _
  refine GW.seq ?_
  obtain ⟨r1, hr1, H⟩ := bind_some H
  refine GW.region ?_
  refine GL.py (PY.move rfl) rfl rfl ?_
  refine GL.py (PY.move rfl) rfl rfl ?_
  refine GL.e (W := []) (EF.call 4 Try.call48 rfl (mapO_cons rfl (mapO_cons rfl rfl)) (slices_IndexFunc_2_ok fu s0 f0 r1 hr1) (by rintro _ _ ⟨rfl, rfl⟩; rfl)) rfl rfl ?_
  rintro _ ⟨_, _, ⟨rfl, rfl⟩, rfl⟩
  refine GL.py (PY.bin rfl rfl rfl) rfl rfl ?_
  refine GL.py (PY.assign rfl) rfl rfl ?_
  refine GL.nil ?_
  change GW _ _ _ _ _ _
  refine GW.ret ?_
  have H := Option.some.inj H
  subst H
  exact RetQ.mk (.inl rfl) [.val (.bool (decide (r1 ≥ 0)))] _ [] ⟨Res.tmp rfl, trivial⟩ trivial rfl ⟨rfl, rfl⟩

theorem points_inside_ok (fu : Nat) (p0 : SPoints) (x0 : (List Int)) (r : Bool) (H : F.points_inside fu p0 x0 = some r) : GM Try.prog 34 [.agg [.sl (List.length p0.Box) (encs p0.Box), .sl (List.length p0.Rows) (encs p0.Rows)], .sl (List.length x0) (encs x0)] [] (fun g st => g = .val (.bool r) ∧ st = []) := by
  unfold F.points_inside at H
  refine GM.of (N := 34) Try.func34 rfl rfl rfl (fun cx hro => ?_)
  change GW _ _ _ _ _ _
  refine GW.seq ?_
  refine GW.region ?_
  refine GL.e1 (W := []) (EF.box 0 rfl rfl rfl) rfl rfl ?_
  refine GL.e1 (W := []) (EF.box 1 rfl rfl rfl) rfl rfl ?_
  refine GL.py (PY.assign rfl) rfl rfl ?_
  refine GL.nil ?_
  change GW _ _ _ _ _ _
  refine GW.seq ?_
  refine GW.seq ?_
  refine GW.region ?_
  refine GL.py (PY.field rfl rfl Try.underlying25 rfl Try.sizeOf22 (by decide)) rfl rfl ?_
  refine GL.y (YL.loadN rfl rfl rfl Try.isAgg22 rfl rfl) rfl rfl ?_
  refine GL.py (PY.len rfl rfl Try.underlying22) rfl rfl ?_
  refine GL.py (PY.move rfl) rfl rfl ?_
  refine GL.nil ?_
  change GW _ _ _ _ _ _
  refine GW.block ?_
  obtain ⟨e5, he5, Hb, Hr⟩ := bindE_some H
  refine GW.weak ((fun (q : Int) => (⟨[(2, .loc 0 0), (3, .loc 1 0), (8, .sl (List.length p0.Box) (encs p0.Box)), (9, .val (.int .i64 (List.length p0.Box : Int))), (10, .val (.int .i64 q))], [(0, ⟨25, false, true, false, 0, [.sl (List.length p0.Box) (encs p0.Box), .sl (List.length p0.Rows) (encs p0.Rows)], none⟩), (1, ⟨22, false, true, false, 0, [.sl (List.length x0) (encs x0)], none⟩)], []⟩ : St)) 0) ⟨⟨rfl, rfl, rfl, rfl, rfl, trivial⟩, ⟨rfl, rfl, trivial⟩, rfl⟩ ?_
  refine GW.loopF (fun (q : Int) => (⟨[(2, .loc 0 0), (3, .loc 1 0), (8, .sl (List.length p0.Box) (encs p0.Box)), (9, .val (.int .i64 (List.length p0.Box : Int))), (10, .val (.int .i64 q))], [(0, ⟨25, false, true, false, 0, [.sl (List.length p0.Box) (encs p0.Box), .sl (List.length p0.Rows) (encs p0.Rows)], none⟩), (1, ⟨22, false, true, false, 0, [.sl (List.length x0) (encs x0)], none⟩)], []⟩ : St)) (QJ (.exit 0) (fun (q : Unit) => (⟨[(2, .loc 0 0), (3, .loc 1 0)], [(0, ⟨25, false, true, false, 0, [.sl (List.length p0.Box) (encs p0.Box), .sl (List.length p0.Rows) (encs p0.Rows)], none⟩), (1, ⟨22, false, true, false, 0, [.sl (List.length x0) (encs x0)], none⟩)], []⟩ : St)) (fun r2 _ s2 => RetQ Try.prog Try.f34 (fun g st => g = .val (.bool r2) ∧ st = []) .ret s2)) he5 (fun x o hb => ?_) (fun ex s2 _ hx => ?_)
  · obtain ⟨i1, rfl⟩ : ∃ z, z = x := ⟨_, rfl⟩
    have H := hb
    unfold F.points_inside_l1 at H
    try dsimp only at H
    refine GW.weak ⟨[(2, .loc 0 0), (3, .loc 1 0), (8, .sl (List.length p0.Box) (encs p0.Box)), (9, .val (.int .i64 (List.length p0.Box : Int))), (10, .val (.int .i64 i1))], [(0, ⟨25, false, true, false, 0, [.sl (List.length p0.Box) (encs p0.Box), .sl (List.length p0.Rows) (encs p0.Rows)], none⟩), (1, ⟨22, false, true, false, 0, [.sl (List.length x0) (encs x0)], none⟩)], []⟩ ⟨⟨rfl, rfl, rfl, rfl, rfl, trivial⟩, ⟨rfl, rfl, trivial⟩, rfl⟩ ?_
    refine GW.seq ?_
    refine GW.region ?_
    refine GL.py (PY.bin rfl rfl rfl) rfl rfl ?_
    refine GL.nil ?_
    change GW _ _ _ _ _ _
    refine GW.seq ?_
    refine GW.cond rfl (fun hc1 => ?_) (fun hc1 => ?_)
    · have H := condT hc1 H
      refine GW.skip ?_
      change GW _ _ _ _ _ _
      refine GW.seq ?_
      refine GW.block ?_
      refine GW.seq ?_
      obtain ⟨x2, hx2, H⟩ := bind_some H
      refine GW.region ?_
      refine GL.py (PY.move rfl) rfl rfl ?_
      refine GL.py (PY.index rfl rfl rfl (idx_spec hx2).1 (idx_spec hx2).2.1 Try.underlying22 Try.sizeOf3) rfl rfl ?_
      refine GL.y (YT.elt (α := Int) rfl hx2 rfl Try.isAgg3) rfl rfl ?_
      refine GL.py (PY.assign rfl) rfl rfl ?_
      refine GL.py (PY.assign rfl) rfl rfl ?_
      refine GL.nil ?_
      change GW _ _ _ _ _ _
      refine GW.seq ?_
      obtain ⟨x3, hx3, H⟩ := bind_some H
      obtain ⟨e4, he4, H⟩ := bind_some H
      obtain ⟨i4, rfl⟩ : ∃ z, z = e4 := ⟨_, rfl⟩
      refine GW.mono (Q := QB .normal (fun (q : Bool) => (⟨[(2, .loc 0 0), (3, .loc 1 0), (8, .sl (List.length p0.Box) (encs p0.Box)), (9, .val (.int .i64 (List.length p0.Box : Int))), (10, .val (.int .i64 i1)), (27, .val (.bool q))], [(0, ⟨25, false, true, false, 0, [.sl (List.length p0.Box) (encs p0.Box), .sl (List.length p0.Rows) (encs p0.Rows)], none⟩), (1, ⟨22, false, true, false, 0, [.sl (List.length x0) (encs x0)], none⟩)], []⟩ : St)) i4) ?_ ?_
      · have H := he4
        refine GW.region ?_
        refine GL.y (YL.loadN rfl rfl rfl Try.isAgg22 rfl rfl) rfl rfl ?_
        refine GL.py (PY.move rfl) rfl rfl ?_
        refine GL.py (PY.index rfl rfl rfl (idx_spec hx3).1 (idx_spec hx3).2.1 Try.underlying22 Try.sizeOf3) rfl rfl ?_
        refine GL.y (YT.elt (α := Int) rfl hx3 rfl Try.isAgg3) rfl rfl ?_
        refine GL.py (PY.bin rfl rfl rfl) rfl rfl ?_
        refine GL.py (PY.move rfl) rfl rfl ?_
        refine (Bool.eq_false_or_eq_true (decide (x3 < 0))).elim (fun hg2 => ?_) (fun hg2 => ?_)
        · have H := condT hg2 H
          refine GL.lit 20 rfl hg2 ?_
          refine GL.nou rfl rfl ?_
          refine GL.nou rfl rfl ?_
          refine GL.nou rfl rfl ?_
          refine GL.nou rfl rfl ?_
          refine GL.nou rfl rfl ?_
          refine GL.nou rfl rfl ?_
          refine GL.py (PY.pickT rfl rfl) rfl rfl ?_
          refine GL.nil ?_
          cases H
          exact And.intro rfl ⟨⟨rfl, rfl, rfl, rfl, rfl, rfl, trivial⟩, ⟨rfl, rfl, trivial⟩, rfl⟩
        · have H := condF hg2 H
          refine GL.lit 20 rfl hg2 ?_
          refine GL.y (YL.loadN rfl rfl rfl Try.isAgg22 rfl rfl) rfl rfl ?_
          refine GL.py (PY.move rfl) rfl rfl ?_
          refine GL.py (PY.index rfl rfl rfl (idx_spec hx3).1 (idx_spec hx3).2.1 Try.underlying22 Try.sizeOf3) rfl rfl ?_
          refine GL.y (YT.elt (α := Int) rfl hx3 rfl Try.isAgg3) rfl rfl ?_
          refine GL.py (PY.move rfl) rfl rfl ?_
          refine GL.py (PY.bin rfl rfl rfl) rfl rfl ?_
          refine GL.py (PY.pickF rfl rfl) rfl rfl ?_
          refine GL.nil ?_
          cases H
          exact And.intro rfl ⟨⟨rfl, rfl, rfl, rfl, rfl, rfl, trivial⟩, ⟨rfl, rfl, trivial⟩, rfl⟩
      · rintro _ s2 ⟨rfl, hs⟩
        change GW _ _ _ _ _ _
        refine GW.weak _ hs ?_
        refine GW.weak ⟨[(2, .loc 0 0), (3, .loc 1 0), (8, .sl (List.length p0.Box) (encs p0.Box)), (9, .val (.int .i64 (List.length p0.Box : Int))), (10, .val (.int .i64 i1)), (27, .val (.bool i4))], [(0, ⟨25, false, true, false, 0, [.sl (List.length p0.Box) (encs p0.Box), .sl (List.length p0.Rows) (encs p0.Rows)], none⟩), (1, ⟨22, false, true, false, 0, [.sl (List.length x0) (encs x0)], none⟩)], []⟩ ⟨⟨rfl, rfl, rfl, rfl, rfl, rfl, trivial⟩, ⟨rfl, rfl, trivial⟩, rfl⟩ ?_
        change GW _ _ _ _ _ _
        refine GW.cond rfl (fun hc3 => ?_) (fun hc3 => ?_)
        · have H := condT hc3 H
          refine GW.seq ?_
          refine GW.region ?_
          refine GL.py (PY.assign rfl) rfl rfl ?_
          refine GL.nil ?_
          change GW _ _ _ _ _ _
          refine GW.ret ?_
          cases H
          exact And.intro ret_ne (And.intro rfl (RetQ.mk (.inl rfl) [.val (.bool false)] _ [] ⟨Res.tmp rfl, trivial⟩ trivial rfl ⟨rfl, rfl⟩))
        · have H := condF hc3 H
          refine GW.skip ?_
          change GW _ _ _ _ _ _
          refine GW.region ?_
          refine GL.py (PY.bin rfl rfl rfl) rfl rfl ?_
          refine GL.py (PY.move rfl) rfl rfl ?_
          refine GL.nil ?_
          cases H
          exact And.intro rfl ⟨⟨rfl, rfl, rfl, rfl, rfl, trivial⟩, ⟨rfl, rfl, trivial⟩, rfl⟩
    · have H := condF hc1 H
      refine GW.exit ?_
      cases H
      exact And.intro exit_ne (And.intro rfl ⟨⟨rfl, rfl, trivial⟩, ⟨rfl, rfl, trivial⟩, rfl⟩)
  · cases e5 with
    | ret r2 =>
      obtain ⟨rfl, hx⟩ := hx
      have H := Hr r2 rfl
      subst H
      exact hx
    | brk b2 =>
      obtain ⟨rfl, hs⟩ := hx
      have H := Hb b2 rfl
      change GW _ _ _ _ _ _
      refine GW.weak _ hs ?_
      refine GW.weak ⟨[(2, .loc 0 0), (3, .loc 1 0)], [(0, ⟨25, false, true, false, 0, [.sl (List.length p0.Box) (encs p0.Box), .sl (List.length p0.Rows) (encs p0.Rows)], none⟩), (1, ⟨22, false, true, false, 0, [.sl (List.length x0) (encs x0)], none⟩)], []⟩ ⟨⟨rfl, rfl, trivial⟩, ⟨rfl, rfl, trivial⟩, rfl⟩ ?_
      change GW _ _ _ _ _ _
      refine GW.seq ?_
      obtain ⟨r5, hr5, H⟩ := bind_some H
      refine GW.region ?_
      refine GL.py (PY.field rfl rfl Try.underlying25 rfl Try.sizeOf23 (by decide)) rfl rfl ?_
      refine GL.y (YL.loadN rfl rfl rfl Try.isAgg23 rfl rfl) rfl rfl ?_
      refine GL.py (PY.makeFunc (gs := [.loc 1 0]) rfl) rfl rfl ?_
      refine GL.e (W := []) (EF.call 4 Try.call42 rfl (mapO_cons rfl (mapO_cons rfl rfl)) (slices_ContainsFunc_2_ok fu p0.Rows x0 r5 hr5) (by rintro _ _ ⟨rfl, rfl⟩; rfl)) rfl rfl ?_
      rintro _ ⟨_, _, ⟨rfl, rfl⟩, rfl⟩
      refine GL.py (PY.un rfl rfl) rfl rfl ?_
      refine GL.py (PY.assign rfl) rfl rfl ?_
      refine GL.nil ?_
      change GW _ _ _ _ _ _
      refine GW.ret ?_
      have H := Option.some.inj H
      subst H
      exact RetQ.mk (.inl rfl) [.val (.bool (!r5))] _ [] ⟨Res.tmp rfl, trivial⟩ trivial rfl ⟨rfl, rfl⟩

theorem slices_Equal_ok (fu : Nat) (s0 : (List Int)) (s00 : (List Int)) (r : Bool) (H : F.slices_Equal fu s0 s00 = some r) : GM Try.prog 35 [.sl (List.length s0) (encs s0), .sl (List.length s00) (encs s00)] [] (fun g st => g = .val (.bool r) ∧ st = []) := by
  unfold F.slices_Equal at H
  refine GM.of (N := 26) Try.func35 rfl rfl rfl (fun cx hro => ?_)
  change GW _ _ _ _ _ _
  refine GW.seq ?_
  refine GW.region ?_
  refine GL.py (PY.assign rfl) rfl rfl ?_
  refine GL.nil ?_
  change GW _ _ _ _ _ _
  refine GW.seq ?_
  refine GW.seq ?_
  refine GW.region ?_
  refine GL.py (PY.move rfl) rfl rfl ?_
  refine GL.py (PY.len rfl rfl Try.underlying22) rfl rfl ?_
  refine GL.py (PY.move rfl) rfl rfl ?_
  refine GL.py (PY.len rfl rfl Try.underlying22) rfl rfl ?_
  refine GL.py (PY.bin rfl rfl rfl) rfl rfl ?_
  refine GL.nil ?_
  change GW _ _ _ _ _ _
  refine GW.cond rfl (fun hc1 => ?_) (fun hc1 => ?_)
  · have H := condT hc1 H
    refine GW.seq ?_
    refine GW.region ?_
    refine GL.py (PY.assign rfl) rfl rfl ?_
    refine GL.nil ?_
    change GW _ _ _ _ _ _
    refine GW.ret ?_
    have H := Option.some.inj H
    subst H
    exact RetQ.mk (.inl rfl) [.val (.bool false)] _ [] ⟨Res.tmp rfl, trivial⟩ trivial rfl ⟨rfl, rfl⟩
  · have H := condF hc1 H
    refine GW.skip ?_
    change GW _ _ _ _ _ _
    refine GW.seq ?_
    refine GW.seq ?_
    refine GW.region ?_
    refine GL.py (PY.move rfl) rfl rfl ?_
    refine GL.py (PY.len rfl rfl Try.underlying22) rfl rfl ?_
    refine GL.py (PY.move rfl) rfl rfl ?_
    refine GL.nil ?_
    change GW _ _ _ _ _ _
    refine GW.block ?_
    obtain ⟨e4, he4, Hb, Hr⟩ := bindE_some H
    refine GW.weak ((fun (q : Int) => (⟨[(0, .sl (List.length s0) (encs s0)), (1, .sl (List.length s00) (encs s00)), (12, .val (.int .i64 (List.length s0 : Int))), (13, .val (.int .i64 q))], [], []⟩ : St)) 0) ⟨⟨rfl, rfl, rfl, rfl, trivial⟩, trivial, rfl⟩ ?_
    refine GW.loopF (fun (q : Int) => (⟨[(0, .sl (List.length s0) (encs s0)), (1, .sl (List.length s00) (encs s00)), (12, .val (.int .i64 (List.length s0 : Int))), (13, .val (.int .i64 q))], [], []⟩ : St)) (QJ (.exit 0) (fun (q : Unit) => (⟨[], [], []⟩ : St)) (fun r2 _ s2 => RetQ Try.prog Try.f35 (fun g st => g = .val (.bool r2) ∧ st = []) .ret s2)) he4 (fun x o hb => ?_) (fun ex s2 _ hx => ?_)
    · obtain ⟨i1, rfl⟩ : ∃ z, z = x := ⟨_, rfl⟩
      have H := hb
      unfold F.slices_Equal_l1 at H
      try dsimp only at H
      refine GW.weak ⟨[(0, .sl (List.length s0) (encs s0)), (1, .sl (List.length s00) (encs s00)), (12, .val (.int .i64 (List.length s0 : Int))), (13, .val (.int .i64 i1))], [], []⟩ ⟨⟨rfl, rfl, rfl, rfl, trivial⟩, trivial, rfl⟩ ?_
      refine GW.seq ?_
      refine GW.region ?_
      refine GL.py (PY.bin rfl rfl rfl) rfl rfl ?_
      refine GL.nil ?_
      change GW _ _ _ _ _ _
      refine GW.seq ?_
      refine GW.cond rfl (fun hc2 => ?_) (fun hc2 => ?_)
      · have H := condT hc2 H
        refine GW.skip ?_
        change GW _ _ _ _ _ _
        refine GW.seq ?_
        refine GW.block ?_
        refine GW.seq ?_
        refine GW.region ?_
        refine GL.py (PY.move rfl) rfl rfl ?_
        refine GL.py (PY.assign rfl) rfl rfl ?_
        refine GL.nil ?_
        change GW _ _ _ _ _ _
        refine GW.seq ?_
        obtain ⟨x2, hx2, H⟩ := bind_some H
        obtain ⟨x3, hx3, H⟩ := bind_some H
        refine GW.draws [] mixed ?_
        change GH1 _ _ _ _ _ _ 9 _ _
        refine GH1.take 0 rfl (by decide +kernel) (by decide +kernel) (by decide +kernel) rfl rfl (by decide) ((PY.move rfl).yield _) ?_
        refine GH1.take 1 rfl (by decide +kernel) (by decide +kernel) (by decide +kernel) rfl rfl (by decide) ((PY.move rfl).yield _) ?_
        refine GH1.take 2 rfl (by decide +kernel) (by decide +kernel) (by decide +kernel) rfl rfl (by decide) ((PY.index rfl rfl rfl (idx_spec hx2).1 (idx_spec hx2).2.1 Try.underlying22 Try.sizeOf3).yield _) ?_
        refine GH1.take 3 rfl (by decide +kernel) (by decide +kernel) (by decide +kernel) rfl rfl (by decide) (YT.elt (α := Int) rfl hx2 rfl Try.isAgg3) ?_
        refine GH1.take 4 rfl (by decide +kernel) (by decide +kernel) (by decide +kernel) rfl rfl (by decide) ((PY.move rfl).yield _) ?_
        refine GH1.take 5 rfl (by decide +kernel) (by decide +kernel) (by decide +kernel) rfl rfl (by decide) ((PY.move rfl).yield _) ?_
        refine GH1.take 6 rfl (by decide +kernel) (by decide +kernel) (by decide +kernel) rfl rfl (by decide) ((PY.index rfl rfl rfl (idx_spec hx3).1 (idx_spec hx3).2.1 Try.underlying22 Try.sizeOf3).yield _) ?_
        refine GH1.take 7 rfl (by decide +kernel) (by decide +kernel) (by decide +kernel) rfl rfl (by decide) (YT.elt (α := Int) rfl hx3 rfl Try.isAgg3) ?_
        refine GH1.take 8 rfl (by decide +kernel) (by decide +kernel) (by decide +kernel) rfl rfl (by decide) ((PY.bin rfl rfl rfl).yield _) ?_
        refine GH1.done (by decide +kernel) ?_
        change GW _ _ _ _ _ _
        refine GW.cond rfl (fun hc3 => ?_) (fun hc3 => ?_)
        · have H := condT hc3 H
          refine GW.seq ?_
          refine GW.region ?_
          refine GL.py (PY.assign rfl) rfl rfl ?_
          refine GL.nil ?_
          change GW _ _ _ _ _ _
          refine GW.ret ?_
          cases H
          exact And.intro ret_ne (And.intro rfl (RetQ.mk (.inl rfl) [.val (.bool false)] _ [] ⟨Res.tmp rfl, trivial⟩ trivial rfl ⟨rfl, rfl⟩))
        · have H := condF hc3 H
          refine GW.skip ?_
          change GW _ _ _ _ _ _
          refine GW.region ?_
          refine GL.py (PY.bin rfl rfl rfl) rfl rfl ?_
          refine GL.py (PY.move rfl) rfl rfl ?_
          refine GL.nil ?_
          cases H
          exact And.intro rfl ⟨⟨rfl, rfl, rfl, rfl, trivial⟩, trivial, rfl⟩
      · have H := condF hc2 H
        refine GW.exit ?_
        cases H
        exact And.intro exit_ne (And.intro rfl ⟨trivial, trivial, rfl⟩)
    · cases e4 with
      | ret r2 =>
        obtain ⟨rfl, hx⟩ := hx
        have H := Hr r2 rfl
        subst H
        exact hx
      | brk b2 =>
        obtain ⟨rfl, hs⟩ := hx
        have H := Hb b2 rfl
        change GW _ _ _ _ _ _
        refine GW.weak _ hs ?_
        refine GW.weak ⟨[], [], []⟩ ⟨trivial, trivial, rfl⟩ ?_
        change GW _ _ _ _ _ _
        refine GW.seq ?_
        refine GW.region ?_
        refine GL.py (PY.assign rfl) rfl rfl ?_
        refine GL.nil ?_
        change GW _ _ _ _ _ _
        refine GW.ret ?_
        have H := Option.some.inj H
        subst H
        exact RetQ.mk (.inl rfl) [.val (.bool true)] _ [] ⟨Res.tmp rfl, trivial⟩ trivial rfl ⟨rfl, rfl⟩

noncomputable def points_Ahead_y1_lp (fn : FuncId) (j : Option Code) : Lp := ⟨fn, 33, [3, 7], #[26], cAsg (cBlk (cSeqR (cSeqL (cSeqR (cSeqR (cSeqR (cSeqR (cSeqR (cOf Try.f23))))))))), cBody (cBlk (cSeqR (cSeqL (cSeqR (cSeqR (cSeqR (cSeqR (cSeqR (cOf Try.f23))))))))), j⟩
theorem points_Ahead_y1_ok (fn : FuncId) (fu : Nat) (a0 : (List Int)) (c0 : (List Int)) (c00 : Int) (r : (Int × Jp)) (H : F.points_Ahead_y1 fu a0 c0 c00 = some r) : GY Try.prog (points_Ahead_y1_lp fn none) [.loc 1000 0, .loc 1001 0] [.sl (List.length a0) (encs a0)] [(1000, ⟨22, false, false, false, 0, [.sl (List.length c0) (encs c0)], none⟩), (1001, ⟨3, false, false, false, 0, [.val (.int .i64 c00)], none⟩)] (fun j st => j = (jmpc 0 r.2) ∧ st = [(1000, ⟨22, false, false, false, 0, [.sl (List.length c0) (encs c0)], none⟩), (1001, ⟨3, false, false, false, 0, [.val (.int .i64 r.1)], none⟩)]) := by
  unfold F.points_Ahead_y1 at H
  refine GY.of rfl rfl (fun cx => ?_)
  change GW _ 33 _ _ _ _
  refine GW.weak ⟨[(3, .loc 1000 0), (7, .loc 1001 0), (26, .sl (List.length a0) (encs a0))], [(1000, ⟨22, false, false, false, 0, [.sl (List.length c0) (encs c0)], none⟩), (1001, ⟨3, false, false, false, 0, [.val (.int .i64 c00)], none⟩)], []⟩ ⟨⟨rfl, rfl, rfl, trivial⟩, ⟨rfl, rfl, trivial⟩, rfl⟩ ?_
  refine GW.region ?_
  refine GL.py (PY.assign rfl) rfl rfl ?_
  refine GL.nil ?_
  refine ⟨rfl, fun cx2 => ?_⟩
  change GW _ 33 _ _ _ _
  change GW _ _ _ _ _ _
  refine GW.block ?_
  refine GW.seq ?_
  refine GW.seq ?_
  obtain ⟨r1, hr1, H⟩ := bind_some H
  refine GW.region ?_
  refine GL.y (YL.loadN rfl rfl rfl Try.isAgg22 rfl rfl) rfl rfl ?_
  refine GL.py (PY.move rfl) rfl rfl ?_
  refine GL.e (W := []) (EF.call 4 Try.call35 rfl (mapO_cons rfl (mapO_cons rfl rfl)) (slices_Equal_ok fu c0 a0 r1 hr1) (by rintro _ _ ⟨rfl, rfl⟩; rfl)) rfl rfl ?_
  rintro _ ⟨_, _, ⟨rfl, rfl⟩, rfl⟩
  refine GL.nil ?_
  change GW _ _ _ _ _ _
  refine GW.cond rfl (fun hc1 => ?_) (fun hc1 => ?_)
  · have H := condT hc1 H
    refine GW.exit ?_
    have H := Option.some.inj H
    subst H
    exact ⟨rfl, [(1000, ⟨22, false, false, false, 0, [.sl (List.length c0) (encs c0)], none⟩), (1001, ⟨3, false, false, false, 0, [.val (.int .i64 c00)], none⟩)], ⟨rfl, rfl, trivial⟩, rfl, rfl⟩
  · have H := condF hc1 H
    refine GW.skip ?_
    change GW _ _ _ _ _ _
    refine GW.region ?_
    refine GL.y (YL.loadN rfl rfl rfl Try.isAgg3 rfl rfl) rfl rfl ?_
    refine GL.py (PY.bin rfl rfl rfl) rfl rfl ?_
    refine GL.e0 (EF.storeN (W := [1001]) (cells' := [.val (.int .i64 (IntKind.i64.wrap (c00 + 1)))]) rfl rfl rfl rfl rfl rfl rfl rfl Try.sizeOf3 (Nat.le_of_ble_eq_true rfl) rfl rfl) rfl ?_
    refine GL.nil ?_
    have H := Option.some.inj H
    subst H
    exact ⟨rfl, [(1000, ⟨22, false, false, false, 0, [.sl (List.length c0) (encs c0)], none⟩), (1001, ⟨3, false, false, false, 0, [.val (.int .i64 (IntKind.i64.wrap (c00 + 1)))], none⟩)], ⟨rfl, rfl, trivial⟩, rfl, rfl⟩

theorem points_walk_2_ok (fn : FuncId) (fu : Nat) : ∀ (p0 : SPoints) (k0 : Int) (l0 : (List Int)) (c0 : (List Int)) (c00 : Int) (r : (Bool × (List Int) × Jp × Int)) (H : F.points_walk_2 fu p0 k0 l0 c0 c00 = some r), GM Try.prog 39 [.agg [.sl (List.length p0.Box) (encs p0.Box), .sl (List.length p0.Rows) (encs p0.Rows)], .osl 1000 (Enc.sz Int) 0 (List.length l0), .val (.int .i64 k0), .yld 1001] [(1000, ⟨3, true, false, false, Enc.sz Int, encs l0, none⟩), (1001, (loopB [.loc 1002 0, .loc 1003 0] (points_Ahead_y1_lp fn (jmpc 0 Jp.go)))), (1002, ⟨22, false, false, false, 0, [.sl (List.length c0) (encs c0)], none⟩), (1003, ⟨3, false, false, false, 0, [.val (.int .i64 c00)], none⟩)] (fun g st => g = .val (.bool r.1) ∧ st = [(1000, ⟨3, true, false, true, Enc.sz Int, encs r.2.1, none⟩), (1001, (loopB [.loc 1002 0, .loc 1003 0] (points_Ahead_y1_lp fn (jmpc 0 r.2.2.1)))), (1002, ⟨22, false, false, false, 0, [.sl (List.length c0) (encs c0)], none⟩), (1003, ⟨3, false, false, false, 0, [.val (.int .i64 r.2.2.2)], none⟩)]) := by
  induction fu with
  | zero => intro p0 k0 l0 c0 c00 r H; cases H
  | succ fu ih =>
    intro p0 k0 l0 c0 c00 r H
    replace H : F.points_walk_2_body fu (F.points_walk_2 fu) p0 k0 l0 c0 c00 = some r := H
    unfold F.points_walk_2_body at H
    refine GM.of (N := 48) Try.func39 rfl rfl rfl (fun cx hro => ?_)
    change GW _ _ _ _ _ _
    refine GW.refresh (α := Int) (l := l0) 1000 rfl rfl rfl ?_
    refine GW.seq ?_
    refine GW.region ?_
    refine GL.e1 (W := []) (EF.box 0 rfl rfl rfl) rfl rfl ?_
    refine GL.py (PY.assign rfl) rfl rfl ?_
    refine GL.nil ?_
    change GW _ _ _ _ _ _
    refine GW.seq ?_
    refine GW.seq ?_
    obtain ⟨r1, hr1, H⟩ := bind_some H
    refine GW.region ?_
    refine GL.y (YL.loadAgg rfl rfl rfl Try.isAgg25 Try.sizeOf25 (Nat.le_of_ble_eq_true rfl) rfl) rfl rfl ?_
    refine GL.py (PY.move rfl) rfl rfl ?_
    refine GL.py (PY.move rfl) rfl rfl ?_
    refine GL.e (W := []) (EF.call 4 Try.call46 rfl (mapO_cons rfl (mapO_cons (view_vec (α := Int) (l := l0) rfl rfl rfl) (mapO_cons rfl rfl))) (points_hopeless_ok fu p0 l0 k0 r1 hr1) (by rintro _ _ ⟨rfl, rfl⟩; rfl)) rfl rfl ?_
    rintro _ ⟨_, _, ⟨rfl, rfl⟩, rfl⟩
    refine GL.nil ?_
    change GW _ _ _ _ _ _
    refine GW.cond rfl (fun hc1 => ?_) (fun hc1 => ?_)
    · have H := condT hc1 H
      refine GW.seq ?_
      refine GW.region ?_
      refine GL.py (PY.assign rfl) rfl rfl ?_
      refine GL.nil ?_
      change GW _ _ _ _ _ _
      refine GW.ret ?_
      have H := Option.some.inj H
      subst H
      exact RetQ.mk (.inl rfl) [.val (.bool true)] _ [(1000, ⟨3, true, false, true, Enc.sz Int, encs l0, none⟩), (1001, (loopB [.loc 1002 0, .loc 1003 0] (points_Ahead_y1_lp fn (jmpc 0 Jp.go)))), (1002, ⟨22, false, false, false, 0, [.sl (List.length c0) (encs c0)], none⟩), (1003, ⟨3, false, false, false, 0, [.val (.int .i64 c00)], none⟩)] ⟨Res.tmp rfl, trivial⟩ ⟨rfl, rfl, rfl, rfl, trivial⟩ rfl ⟨rfl, rfl⟩
    · have H := condF hc1 H
      refine GW.skip ?_
      change GW _ _ _ _ _ _
      refine GW.seq ?_
      refine GW.seq ?_
      refine GW.region ?_
      refine GL.py (PY.move rfl) rfl rfl ?_
      refine GL.py (PY.field rfl rfl Try.underlying25 rfl Try.sizeOf22 (by decide)) rfl rfl ?_
      refine GL.y (YL.loadN rfl rfl rfl Try.isAgg22 rfl rfl) rfl rfl ?_
      refine GL.py (PY.len rfl rfl Try.underlying22) rfl rfl ?_
      refine GL.py (PY.bin rfl rfl rfl) rfl rfl ?_
      refine GL.nil ?_
      change GW _ _ _ _ _ _
      refine GW.cond rfl (fun hc2 => ?_) (fun hc2 => ?_)
      · have H := condT hc2 H
        refine GW.seq ?_
        obtain ⟨r3, hr3, H⟩ := bind_some H
        obtain ⟨r6, hr6, H⟩ := bind_some H
        obtain ⟨o4, o5⟩ := r6
        refine GW.region ?_
        refine GL.py (PY.move rfl) rfl rfl ?_
        refine GL.py (PY.move rfl) rfl rfl ?_
        refine GL.e1 (EF.lend (s1 := ⟨[(8, .val (.bool false)), (18, .yld 1001), (20, .osl 203 (Enc.sz Int) 0 (List.length r3))], [(203, ⟨3, true, true, true, Enc.sz Int, encs r3, none⟩), (1000, ⟨3, true, false, true, Enc.sz Int, encs l0, none⟩), (1001, (loopB [.loc 1002 0, .loc 1003 0] (points_Ahead_y1_lp fn (jmpc 0 Jp.go)))), (1002, ⟨22, false, false, false, 0, [.sl (List.length c0) (encs c0)], none⟩), (1003, ⟨3, false, false, false, 0, [.val (.int .i64 c00)], none⟩)], []⟩) (W := []) [] true [203] Try.call26 rfl (lend_cons (view_vec (α := Int) (l := l0) rfl rfl rfl) rfl) rfl rfl (slices_Clone_ok fu l0 r3 hr3) (by rintro _ _ ⟨rfl, rfl⟩; exact ⟨_, _, rfl, rfl, ⟨⟨rfl, rfl, rfl, trivial⟩, ⟨rfl, rfl, rfl, rfl, rfl, trivial⟩, rfl⟩⟩) rfl) rfl rfl ?_
        refine GL.freeze ⟨[(8, .val (.bool false)), (18, .yld 1001), (20, .fr (.sl (List.length r3) (encs r3)))], [(1000, ⟨3, true, false, true, Enc.sz Int, encs l0, none⟩), (1001, (loopB [.loc 1002 0, .loc 1003 0] (points_Ahead_y1_lp fn (jmpc 0 Jp.go)))), (1002, ⟨22, false, false, false, 0, [.sl (List.length c0) (encs c0)], none⟩), (1003, ⟨3, false, false, false, 0, [.val (.int .i64 c00)], none⟩)], []⟩ ⟨⟨_, rfl, rfl, rfl, rfl, rfl, rfl, rfl, .inl ⟨rfl, rfl⟩⟩, ⟨_, rfl, rfl, rfl, rfl, rfl, rfl, rfl, .inr ⟨rfl, ⟨.inr rfl, .inr rfl, trivial⟩⟩⟩, ⟨_, rfl, rfl, rfl, rfl, rfl, rfl, rfl, .inr ⟨rfl, ⟨.inr rfl, trivial⟩⟩⟩, ⟨_, rfl, rfl, rfl, rfl, rfl, rfl, rfl, .inr ⟨rfl, ⟨.inr rfl, trivial⟩⟩⟩, trivial⟩ ⟨⟨_, rfl, .inr rfl⟩, ⟨_, rfl, .inr rfl⟩, ⟨_, rfl, .inl (fz_vec (α := Int) (l := r3) rfl rfl rfl rfl rfl rfl)⟩, trivial⟩ ?_
        refine GL.yld [1002, 1003] [1002, 1003] rfl rfl rfl rfl rfl rfl rfl rfl rfl rfl rfl rfl rfl (points_Ahead_y1_ok fn fu r3 c0 c00 (o4, o5) hr6) rfl rfl ?_
        rintro _ _ ⟨rfl, rfl⟩
        refine ⟨_, rfl, _, rfl, rfl, _, (jmpc_go _), ?_⟩
        refine GL.weak ⟨[(8, .val (.bool false)), (21, .val (.bool (Jp.isGo o5)))], [(1000, ⟨3, true, false, true, Enc.sz Int, encs l0, none⟩), (1001, (loopB [.loc 1002 0, .loc 1003 0] (points_Ahead_y1_lp fn (jmpc 0 o5)))), (1002, ⟨22, false, false, false, 0, [.sl (List.length c0) (encs c0)], none⟩), (1003, ⟨3, false, false, false, 0, [.val (.int .i64 o4)], none⟩)], []⟩ ⟨⟨rfl, rfl, trivial⟩, ⟨rfl, rfl, rfl, rfl, trivial⟩, rfl⟩ ?_
        refine GL.py (PY.assign rfl) rfl rfl ?_
        refine GL.nil ?_
        change GW _ _ _ _ _ _
        refine GW.ret ?_
        have H := Option.some.inj H
        subst H
        exact RetQ.mk (.inl rfl) [.val (.bool (Jp.isGo o5))] _ [(1000, ⟨3, true, false, true, Enc.sz Int, encs l0, none⟩), (1001, (loopB [.loc 1002 0, .loc 1003 0] (points_Ahead_y1_lp fn (jmpc 0 o5)))), (1002, ⟨22, false, false, false, 0, [.sl (List.length c0) (encs c0)], none⟩), (1003, ⟨3, false, false, false, 0, [.val (.int .i64 o4)], none⟩)] ⟨Res.tmp rfl, trivial⟩ ⟨rfl, rfl, rfl, rfl, trivial⟩ rfl ⟨rfl, rfl⟩
      · have H := condF hc2 H
        refine GW.skip ?_
        change GW _ _ _ _ _ _
        refine GW.seq ?_
        refine GW.seq ?_
        obtain ⟨x7, hx7, H⟩ := bind_some H
        refine GW.region ?_
        refine GL.py (PY.move rfl) rfl rfl ?_
        refine GL.py (PY.move rfl) rfl rfl ?_
        refine GL.py (PY.index rfl rfl rfl (idx_spec hx7).1 (idx_spec hx7).2.1 Try.underlying22 Try.sizeOf3) rfl rfl ?_
        refine GL.e0 (ET.set (α := Int) (x := 0) (W := [1000]) rfl rfl rfl rfl rfl rfl rfl rfl rfl (idx_spec hx7).1 (idx_spec hx7).2.1 Try.sizeOf3 rfl) rfl ?_
        refine GL.resl 1 rfl (show List.length l0 = List.length (List.set l0 (Int.toNat k0) 0) from List.length_set.symm) ?_
        refine GL.resl 22 rfl (show List.length l0 = List.length (List.set l0 (Int.toNat k0) 0) from List.length_set.symm) ?_
        refine GL.nil ?_
        change GW _ _ _ _ _ _
        refine GW.block ?_
        obtain ⟨e9, he9, Hb, Hr⟩ := bindE_some H
        refine GW.weak ((fun (q : (List Int) × Jp × Int) => (⟨[(1, .osl 1000 (Enc.sz Int) 0 (List.length q.1)), (2, .val (.int .i64 k0)), (3, .yld 1001), (4, .loc 0 0)], [(0, ⟨25, false, true, false, 0, [.sl (List.length p0.Box) (encs p0.Box), .sl (List.length p0.Rows) (encs p0.Rows)], none⟩), (1000, ⟨3, true, false, true, Enc.sz Int, encs q.1, none⟩), (1001, (loopB [.loc 1002 0, .loc 1003 0] (points_Ahead_y1_lp fn (jmpc 0 q.2.1)))), (1002, ⟨22, false, false, false, 0, [.sl (List.length c0) (encs c0)], none⟩), (1003, ⟨3, false, false, false, 0, [.val (.int .i64 q.2.2)], none⟩)], []⟩ : St)) (List.set l0 (Int.toNat k0) 0, Jp.go, c00)) ⟨⟨rfl, rfl, rfl, rfl, trivial⟩, ⟨rfl, rfl, rfl, rfl, rfl, trivial⟩, rfl⟩ ?_
        refine GW.loopF (fun (q : (List Int) × Jp × Int) => (⟨[(1, .osl 1000 (Enc.sz Int) 0 (List.length q.1)), (2, .val (.int .i64 k0)), (3, .yld 1001), (4, .loc 0 0)], [(0, ⟨25, false, true, false, 0, [.sl (List.length p0.Box) (encs p0.Box), .sl (List.length p0.Rows) (encs p0.Rows)], none⟩), (1000, ⟨3, true, false, true, Enc.sz Int, encs q.1, none⟩), (1001, (loopB [.loc 1002 0, .loc 1003 0] (points_Ahead_y1_lp fn (jmpc 0 q.2.1)))), (1002, ⟨22, false, false, false, 0, [.sl (List.length c0) (encs c0)], none⟩), (1003, ⟨3, false, false, false, 0, [.val (.int .i64 q.2.2)], none⟩)], []⟩ : St)) (QJ (.exit 0) (fun (q : (List Int) × Jp × Int) => (⟨[], [(1000, ⟨3, true, false, true, Enc.sz Int, encs q.1, none⟩), (1001, (loopB [.loc 1002 0, .loc 1003 0] (points_Ahead_y1_lp fn (jmpc 0 q.2.1)))), (1002, ⟨22, false, false, false, 0, [.sl (List.length c0) (encs c0)], none⟩), (1003, ⟨3, false, false, false, 0, [.val (.int .i64 q.2.2)], none⟩)], []⟩ : St)) (fun r2 _ s2 => RetQ Try.prog Try.f39 (fun g st => g = .val (.bool r2.1) ∧ st = [(1000, ⟨3, true, false, true, Enc.sz Int, encs r2.2.1, none⟩), (1001, (loopB [.loc 1002 0, .loc 1003 0] (points_Ahead_y1_lp fn (jmpc 0 r2.2.2.1)))), (1002, ⟨22, false, false, false, 0, [.sl (List.length c0) (encs c0)], none⟩), (1003, ⟨3, false, false, false, 0, [.val (.int .i64 r2.2.2.2)], none⟩)]) .ret s2)) he9 (fun x o hb => ?_) (fun ex s2 _ hx => ?_)
        · obtain ⟨x8, j9, c10⟩ := x
          have H := hb
          unfold F.points_walk_2_l1 at H
          try dsimp only at H
          refine GW.weak ⟨[(1, .osl 1000 (Enc.sz Int) 0 (List.length x8)), (2, .val (.int .i64 k0)), (3, .yld 1001), (4, .loc 0 0)], [(0, ⟨25, false, true, false, 0, [.sl (List.length p0.Box) (encs p0.Box), .sl (List.length p0.Rows) (encs p0.Rows)], none⟩), (1000, ⟨3, true, false, true, Enc.sz Int, encs x8, none⟩), (1001, (loopB [.loc 1002 0, .loc 1003 0] (points_Ahead_y1_lp fn (jmpc 0 j9)))), (1002, ⟨22, false, false, false, 0, [.sl (List.length c0) (encs c0)], none⟩), (1003, ⟨3, false, false, false, 0, [.val (.int .i64 c10)], none⟩)], []⟩ ⟨⟨rfl, rfl, rfl, rfl, trivial⟩, ⟨rfl, rfl, rfl, rfl, rfl, trivial⟩, rfl⟩ ?_
          refine GW.seq ?_
          refine GW.seq ?_
          obtain ⟨x14, hx14, H⟩ := bind_some H
          obtain ⟨x15, hx15, H⟩ := bind_some H
          refine GW.draws [] mixed ?_
          change GH1 _ _ _ _ _ _ 10 _ _
          refine GH1.take 0 rfl (by decide +kernel) (by decide +kernel) (by decide +kernel) rfl rfl (by decide) ((PY.move rfl).yield _) ?_
          refine GH1.take 1 rfl (by decide +kernel) (by decide +kernel) (by decide +kernel) rfl rfl (by decide) ((PY.move rfl).yield _) ?_
          refine GH1.take 2 rfl (by decide +kernel) (by decide +kernel) (by decide +kernel) rfl rfl (by decide) ((PY.index rfl rfl rfl (idx_spec hx14).1 (idx_spec hx14).2.1 Try.underlying22 Try.sizeOf3).yield _) ?_
          refine GH1.take 3 rfl (by decide +kernel) (by decide +kernel) (by decide +kernel) rfl rfl (by decide) (YT.own (α := Int) rfl rfl rfl hx14 rfl Try.isAgg3 rfl rfl) ?_
          refine GH1.take 4 rfl (by decide +kernel) (by decide +kernel) (by decide +kernel) rfl rfl (by decide) ((PY.field rfl rfl Try.underlying25 rfl Try.sizeOf22 (by decide)).yield _) ?_
          refine GH1.take 5 rfl (by decide +kernel) (by decide +kernel) (by decide +kernel) rfl rfl (by decide) (YL.loadN rfl rfl rfl Try.isAgg22 rfl rfl) ?_
          refine GH1.take 6 rfl (by decide +kernel) (by decide +kernel) (by decide +kernel) rfl rfl (by decide) ((PY.move rfl).yield _) ?_
          refine GH1.take 7 rfl (by decide +kernel) (by decide +kernel) (by decide +kernel) rfl rfl (by decide) ((PY.index rfl rfl rfl (idx_spec hx15).1 (idx_spec hx15).2.1 Try.underlying22 Try.sizeOf3).yield _) ?_
          refine GH1.take 8 rfl (by decide +kernel) (by decide +kernel) (by decide +kernel) rfl rfl (by decide) (YT.elt (α := Int) rfl hx15 rfl Try.isAgg3) ?_
          refine GH1.take 9 rfl (by decide +kernel) (by decide +kernel) (by decide +kernel) rfl rfl (by decide) ((PY.bin rfl rfl rfl).yield _) ?_
          refine GH1.done (by decide +kernel) ?_
          change GW _ _ _ _ _ _
          refine GW.cond rfl (fun hc3 => ?_) (fun hc3 => ?_)
          · have H := condT hc3 H
            refine GW.skip ?_
            change GW _ _ _ _ _ _
            refine GW.seq ?_
            refine GW.block ?_
            refine GW.seq ?_
            obtain ⟨_, hj4, H⟩ := bind_some H
            replace hj4 := chk_spec hj4
            obtain ⟨r20, hr20, H⟩ := bind_some H
            obtain ⟨o16, o17, o18, o19⟩ := r20
            obtain ⟨_, hl5, H⟩ := bind_some H
            replace hl5 := chk_spec hl5
            refine GW.region ?_
            refine GL.y (YL.loadAgg rfl rfl rfl Try.isAgg25 Try.sizeOf25 (Nat.le_of_ble_eq_true rfl) rfl) rfl rfl ?_
            refine GL.py (PY.move rfl) rfl rfl ?_
            refine GL.py (PY.move rfl) rfl rfl ?_
            refine GL.py (PY.bin rfl rfl rfl) rfl rfl ?_
            refine GL.py (PY.move rfl) rfl rfl ?_
            refine GL.pend 1001 rfl rfl (jmpc_none hj4) ?_
            refine GL.e1 (EF.lend (s1 := ⟨[(1, .osl 1000 (Enc.sz Int) 0 (List.length x8)), (2, .val (.int .i64 k0)), (3, .yld 1001), (4, .loc 0 0), (46, .val (.bool o16))], [(0, ⟨25, false, true, false, 0, [.sl (List.length p0.Box) (encs p0.Box), .sl (List.length p0.Rows) (encs p0.Rows)], none⟩), (1000, ⟨3, true, false, true, Enc.sz Int, encs o17, none⟩), (1001, (loopB [.loc 1002 0, .loc 1003 0] (points_Ahead_y1_lp fn (jmpc 0 o18)))), (1002, ⟨22, false, false, false, 0, [.sl (List.length c0) (encs c0)], none⟩), (1003, ⟨3, false, false, false, 0, [.val (.int .i64 o19)], none⟩)], []⟩) (W := [1000, 1001, 1002, 1003]) [1000, 1001, 1002, 1003] false [1000, 1001, 1002, 1003] Try.call39 rfl rfl rfl rfl (ih p0 (IntKind.i64.wrap (k0 + 1)) x8 c0 c10 (o16, o17, o18, o19) hr20) (by rintro _ _ ⟨rfl, rfl⟩; exact ⟨_, _, rfl, rfl, ⟨⟨rfl, rfl, rfl, rfl, rfl, trivial⟩, ⟨rfl, rfl, rfl, rfl, rfl, trivial⟩, rfl⟩⟩) rfl) rfl rfl ?_
            refine GL.resl 1 rfl hl5 ?_
            refine GL.py (PY.un rfl rfl) rfl rfl ?_
            refine GL.nil ?_
            change GW _ _ _ _ _ _
            refine GW.cond rfl (fun hc8 => ?_) (fun hc8 => ?_)
            · have H := condT hc8 H
              refine GW.seq ?_
              refine GW.region ?_
              refine GL.py (PY.assign rfl) rfl rfl ?_
              refine GL.nil ?_
              change GW _ _ _ _ _ _
              refine GW.ret ?_
              cases H
              exact And.intro ret_ne (And.intro rfl (RetQ.mk (.inl rfl) [.val (.bool false)] _ [(1000, ⟨3, true, false, true, Enc.sz Int, encs o17, none⟩), (1001, (loopB [.loc 1002 0, .loc 1003 0] (points_Ahead_y1_lp fn (jmpc 0 o18)))), (1002, ⟨22, false, false, false, 0, [.sl (List.length c0) (encs c0)], none⟩), (1003, ⟨3, false, false, false, 0, [.val (.int .i64 o19)], none⟩)] ⟨Res.tmp rfl, trivial⟩ ⟨rfl, rfl, rfl, rfl, trivial⟩ rfl ⟨rfl, rfl⟩))
            · have H := condF hc8 H
              refine GW.skip ?_
              change GW _ _ _ _ _ _
              obtain ⟨x21, hx21, H⟩ := bind_some H
              refine GW.region ?_
              refine GL.py (PY.move rfl) rfl rfl ?_
              refine GL.py (PY.move rfl) rfl rfl ?_
              refine GL.py (PY.index rfl rfl rfl (idx_spec hx21).1 (idx_spec hx21).2.1 Try.underlying22 Try.sizeOf3) rfl rfl ?_
              refine GL.y (YT.own (α := Int) rfl rfl rfl hx21 rfl Try.isAgg3 rfl rfl) rfl rfl ?_
              refine GL.py (PY.bin rfl rfl rfl) rfl rfl ?_
              refine GL.py (PY.index rfl rfl rfl (idx_spec hx21).1 (idx_spec hx21).2.1 Try.underlying22 Try.sizeOf3) rfl rfl ?_
              refine GL.e0 (ET.set (α := Int) (x := IntKind.i64.wrap (x21 + 1)) (W := [1000]) rfl rfl rfl rfl rfl rfl rfl rfl rfl (idx_spec hx21).1 (idx_spec hx21).2.1 Try.sizeOf3 rfl) rfl ?_
              refine GL.resl 1 rfl (show List.length o17 = List.length (List.set o17 (Int.toNat k0) (IntKind.i64.wrap (x21 + 1))) from List.length_set.symm) ?_
              refine GL.resl 35 rfl (show List.length o17 = List.length (List.set o17 (Int.toNat k0) (IntKind.i64.wrap (x21 + 1))) from List.length_set.symm) ?_
              refine GL.nil ?_
              cases H
              exact And.intro rfl ⟨⟨rfl, rfl, rfl, rfl, trivial⟩, ⟨rfl, rfl, rfl, rfl, rfl, trivial⟩, rfl⟩
          · have H := condF hc3 H
            refine GW.exit ?_
            cases H
            exact And.intro exit_ne (And.intro rfl ⟨trivial, ⟨rfl, rfl, rfl, rfl, trivial⟩, rfl⟩)
        · cases e9 with
          | ret r2 =>
            obtain ⟨rfl, hx⟩ := hx
            have H := Hr r2 rfl
            subst H
            exact hx
          | brk b2 =>
            obtain ⟨rfl, hs⟩ := hx
            have H := Hb b2 rfl
            obtain ⟨l11, j12, c13⟩ := b2
            change GW _ _ _ _ _ _
            refine GW.weak _ hs ?_
            refine GW.weak ⟨[], [(1000, ⟨3, true, false, true, Enc.sz Int, encs l11, none⟩), (1001, (loopB [.loc 1002 0, .loc 1003 0] (points_Ahead_y1_lp fn (jmpc 0 j12)))), (1002, ⟨22, false, false, false, 0, [.sl (List.length c0) (encs c0)], none⟩), (1003, ⟨3, false, false, false, 0, [.val (.int .i64 c13)], none⟩)], []⟩ ⟨trivial, ⟨rfl, rfl, rfl, rfl, trivial⟩, rfl⟩ ?_
            change GW _ _ _ _ _ _
            refine GW.seq ?_
            refine GW.region ?_
            refine GL.py (PY.assign rfl) rfl rfl ?_
            refine GL.nil ?_
            change GW _ _ _ _ _ _
            refine GW.ret ?_
            have H := Option.some.inj H
            subst H
            exact RetQ.mk (.inl rfl) [.val (.bool true)] _ [(1000, ⟨3, true, false, true, Enc.sz Int, encs l11, none⟩), (1001, (loopB [.loc 1002 0, .loc 1003 0] (points_Ahead_y1_lp fn (jmpc 0 j12)))), (1002, ⟨22, false, false, false, 0, [.sl (List.length c0) (encs c0)], none⟩), (1003, ⟨3, false, false, false, 0, [.val (.int .i64 c13)], none⟩)] ⟨Res.tmp rfl, trivial⟩ ⟨rfl, rfl, rfl, rfl, trivial⟩ rfl ⟨rfl, rfl⟩

theorem points_All_1_2_ok (fn : FuncId) (fu : Nat) (a0 : SPoints) (c0 : (List Int)) (c00 : Int) (r : (Jp × Int)) (H : F.points_All_1_2 fu a0 c0 c00 = some r) : GM Try.prog 38 [.yld 1000, .ptr [.sl (List.length a0.Box) (encs a0.Box), .sl (List.length a0.Rows) (encs a0.Rows)]] [(1000, (loopB [.loc 1001 0, .loc 1002 0] (points_Ahead_y1_lp fn (jmpc 0 Jp.go)))), (1001, ⟨22, false, false, false, 0, [.sl (List.length c0) (encs c0)], none⟩), (1002, ⟨3, false, false, false, 0, [.val (.int .i64 c00)], none⟩)] (fun g st => g = .tup [] ∧ st = [(1000, (loopB [.loc 1001 0, .loc 1002 0] (points_Ahead_y1_lp fn (jmpc 0 r.1)))), (1001, ⟨22, false, false, false, 0, [.sl (List.length c0) (encs c0)], none⟩), (1002, ⟨3, false, false, false, 0, [.val (.int .i64 r.2)], none⟩)]) := by
  unfold F.points_All_1_2 at H
  refine GM.of (N := 13) Try.func38 rfl rfl rfl (fun cx hro => ?_)
  change GW _ _ _ _ _ _
  refine GW.seq ?_
  obtain ⟨r1, hr1, H⟩ := bind_some H
  refine GW.region ?_
  refine GL.y (YL.ptrAgg rfl (Nat.le_of_ble_eq_true rfl) Try.isAgg25 Try.sizeOf25) rfl rfl ?_
  refine GL.e (W := []) (EF.call 4 Try.call17 rfl (mapO_cons rfl rfl) (points_Wrong_ok fu a0 r1 hr1) (by rintro _ _ ⟨rfl, rfl⟩; rfl)) rfl rfl ?_
  rintro _ ⟨_, _, ⟨rfl, rfl⟩, rfl⟩
  refine GL.py (PY.bin rfl rfl rfl) rfl rfl ?_
  refine GL.nil ?_
  change GW _ _ _ _ _ _
  refine GW.cond rfl (fun hc1 => ?_) (fun hc1 => ?_)
  · have H := condT hc1 H
    obtain ⟨_, hm2, H⟩ := bind_some H
    replace hm2 := chk_spec hm2
    obtain ⟨r7, hr7, H⟩ := bind_some H
    obtain ⟨o3, o4, o5, o6⟩ := r7
    obtain ⟨_, hl3, H⟩ := bind_some H
    replace hl3 := chk_spec hl3
    refine GW.draws [4, 1000, 1001, 1002] mixed ?_
    change GH1 _ _ _ _ _ _ 7 _ _
    refine GH1.take 0 rfl (by decide +kernel) (by decide +kernel) (by decide +kernel) rfl rfl (by decide) (YL.ptrAgg rfl (Nat.le_of_ble_eq_true rfl) Try.isAgg25 Try.sizeOf25) ?_
    refine GH1.take 1 rfl (by decide +kernel) (by decide +kernel) (by decide +kernel) rfl rfl (by decide) ((PY.field rfl rfl Try.underlying25 rfl Try.sizeOf22 (by decide)).yield _) ?_
    refine GH1.take 2 rfl (by decide +kernel) (by decide +kernel) (by decide +kernel) rfl rfl (by decide) (YL.ptr rfl rfl Try.isAgg22) ?_
    refine GH1.take 3 rfl (by decide +kernel) (by decide +kernel) (by decide +kernel) rfl rfl (by decide) ((PY.len rfl rfl Try.underlying22).yield _) ?_
    refine GH1.take 5 rfl (by decide +kernel) (by decide +kernel) (by decide +kernel) rfl rfl (by decide) ((PY.move rfl).yield _) ?_
    refine GH1.later ?_
    refine GH2.one 4 (by decide +kernel) rfl rfl (fun d e => by cases e; decide) (ET.make (α := Int) (x := (0 : Int)) 4 rfl rfl Try.underlying22 info3 rfl rfl hm2.1 hm2.2.1 hm2.2.2 rfl) ?_
    rintro _ rfl
    refine GH2.one 6 (by decide +kernel) rfl rfl (fun d e => by cases e; decide) (EF.lend (s1 := ⟨[(0, .yld 1000), (1, .ptr [.sl (List.length a0.Box) (encs a0.Box), .sl (List.length a0.Rows) (encs a0.Rows)]), (3, .agg [.sl (List.length a0.Box) (encs a0.Box), .sl (List.length a0.Rows) (encs a0.Rows)]), (4, .val (.int .i64 r1)), (5, .val (.bool (r1 == 0))), (6, .agg [.sl (List.length a0.Box) (encs a0.Box), .sl (List.length a0.Rows) (encs a0.Rows)]), (7, .ptr [.sl (List.length a0.Box) (encs a0.Box), .sl (List.length a0.Rows) (encs a0.Rows)]), (8, .sl (List.length a0.Box) (encs a0.Box)), (9, .val (.int .i64 (List.length a0.Box : Int))), (10, .osl 4 (Enc.sz Int) 0 (List.length (List.replicate (Int.toNat (List.length a0.Box : Int)) (0 : Int)))), (11, .yld 1000), (12, .val (.bool o3))], [(4, ⟨3, true, true, true, Enc.sz Int, encs o4, none⟩), (1000, (loopB [.loc 1001 0, .loc 1002 0] (points_Ahead_y1_lp fn (jmpc 0 o5)))), (1001, ⟨22, false, false, false, 0, [.sl (List.length c0) (encs c0)], none⟩), (1002, ⟨3, false, false, false, 0, [.val (.int .i64 o6)], none⟩)], []⟩) [4, 1000, 1001, 1002] false [4, 1000, 1001, 1002] Try.call39 rfl rfl rfl rfl (points_walk_2_ok fn fu a0 0 (List.replicate (Int.toNat (List.length a0.Box : Int)) (0 : Int)) c0 c00 (o3, o4, o5, o6) hr7) (by rintro _ _ ⟨rfl, rfl⟩; exact ⟨_, _, rfl, rfl, ⟨⟨rfl, rfl, rfl, rfl, rfl, rfl, rfl, rfl, rfl, rfl, rfl, rfl, trivial⟩, ⟨rfl, rfl, rfl, rfl, trivial⟩, rfl⟩⟩) rfl) ?_
    rintro _ rfl
    refine GH2.resl 10 rfl hl3 ?_
    refine GH2.done (by decide +kernel) ?_
    have H := Option.some.inj H
    subst H
    exact RetQ.mk (.inr rfl) [] _ [(1000, (loopB [.loc 1001 0, .loc 1002 0] (points_Ahead_y1_lp fn (jmpc 0 o5)))), (1001, ⟨22, false, false, false, 0, [.sl (List.length c0) (encs c0)], none⟩), (1002, ⟨3, false, false, false, 0, [.val (.int .i64 o6)], none⟩)] trivial ⟨rfl, rfl, rfl, trivial⟩ rfl ⟨rfl, rfl⟩
  · have H := condF hc1 H
    refine GW.skip ?_
    have H := Option.some.inj H
    subst H
    exact RetQ.mk (.inr rfl) [] _ [(1000, (loopB [.loc 1001 0, .loc 1002 0] (points_Ahead_y1_lp fn (jmpc 0 Jp.go)))), (1001, ⟨22, false, false, false, 0, [.sl (List.length c0) (encs c0)], none⟩), (1002, ⟨3, false, false, false, 0, [.val (.int .i64 c00)], none⟩)] trivial ⟨rfl, rfl, rfl, trivial⟩ rfl ⟨rfl, rfl⟩

theorem points_Ahead_ok (fu : Nat) (p0 : SPoints) (x0 : (List Int)) (r : (Int × Int)) (H : F.points_Ahead fu p0 x0 = some r) : GM Try.prog 23 [.agg [.sl (List.length p0.Box) (encs p0.Box), .sl (List.length p0.Rows) (encs p0.Rows)], .sl (List.length x0) (encs x0)] [] (fun g st => g = .tup [.val (.int .i64 r.1), .val (.int .i64 r.2)] ∧ st = []) := by
  unfold F.points_Ahead at H
  refine GM.of (N := 33) Try.func23 rfl rfl rfl (fun cx hro => ?_)
  change GW _ _ _ _ _ _
  refine GW.seq ?_
  refine GW.region ?_
  refine GL.e1 (W := []) (EF.box 0 rfl rfl rfl) rfl rfl ?_
  refine GL.e1 (W := []) (EF.box 1 rfl rfl rfl) rfl rfl ?_
  refine GL.py (PY.assign rfl) rfl rfl ?_
  refine GL.py (PY.assign rfl) rfl rfl ?_
  refine GL.nil ?_
  change GW _ _ _ _ _ _
  refine GW.seq ?_
  refine GW.seq ?_
  obtain ⟨r1, hr1, H⟩ := bind_some H
  refine GW.region ?_
  refine GL.y (YL.loadAgg rfl rfl rfl Try.isAgg25 Try.sizeOf25 (Nat.le_of_ble_eq_true rfl) rfl) rfl rfl ?_
  refine GL.e (W := []) (EF.call 4 Try.call17 rfl (mapO_cons rfl rfl) (points_Wrong_ok fu p0 r1 hr1) (by rintro _ _ ⟨rfl, rfl⟩; rfl)) rfl rfl ?_
  rintro _ ⟨_, _, ⟨rfl, rfl⟩, rfl⟩
  refine GL.py (PY.assign rfl) rfl rfl ?_
  refine GL.nil ?_
  change GW _ _ _ _ _ _
  refine GW.seq ?_
  refine GW.region ?_
  refine GL.py (PY.move rfl) rfl rfl ?_
  refine GL.py (PY.bin rfl rfl rfl) rfl rfl ?_
  refine GL.nil ?_
  change GW _ _ _ _ _ _
  refine GW.cond rfl (fun hc1 => ?_) (fun hc1 => ?_)
  · have H := condT hc1 H
    refine GW.seq ?_
    refine GW.region ?_
    refine GL.py (PY.move rfl) rfl rfl ?_
    refine GL.py (PY.assign rfl) rfl rfl ?_
    refine GL.py (PY.assign rfl) rfl rfl ?_
    refine GL.nil ?_
    change GW _ _ _ _ _ _
    refine GW.ret ?_
    have H := Option.some.inj H
    subst H
    exact RetQ.mk (.inl rfl) [.val (.int .i64 0), .val (.int .i64 r1)] _ [] ⟨Res.tmp rfl, Res.tmp rfl, trivial⟩ trivial rfl ⟨rfl, rfl⟩
  · have H := condF hc1 H
    refine GW.skip ?_
    change GW _ _ _ _ _ _
    refine GW.seq ?_
    refine GW.seq ?_
    refine GW.region ?_
    refine GL.y (YL.loadN rfl rfl rfl Try.isAgg22 rfl rfl) rfl rfl ?_
    refine GL.py (PY.len rfl rfl Try.underlying22) rfl rfl ?_
    refine GL.py (PY.field rfl rfl Try.underlying25 rfl Try.sizeOf22 (by decide)) rfl rfl ?_
    refine GL.y (YL.loadN rfl rfl rfl Try.isAgg22 rfl rfl) rfl rfl ?_
    refine GL.py (PY.len rfl rfl Try.underlying22) rfl rfl ?_
    refine GL.py (PY.bin rfl rfl rfl) rfl rfl ?_
    refine GL.nil ?_
    change GW _ _ _ _ _ _
    refine GW.cond rfl (fun hc2 => ?_) (fun hc2 => ?_)
    · have H := condT hc2 H
      refine GW.seq ?_
      refine GW.region ?_
      refine GL.py (PY.assign rfl) rfl rfl ?_
      refine GL.py (PY.assign rfl) rfl rfl ?_
      refine GL.nil ?_
      change GW _ _ _ _ _ _
      refine GW.ret ?_
      have H := Option.some.inj H
      subst H
      exact RetQ.mk (.inl rfl) [.val (.int .i64 0), .val (.int .i64 6)] _ [] ⟨Res.tmp rfl, Res.tmp rfl, trivial⟩ trivial rfl ⟨rfl, rfl⟩
    · have H := condF hc2 H
      refine GW.skip ?_
      change GW _ _ _ _ _ _
      refine GW.seq ?_
      refine GW.seq ?_
      obtain ⟨r3, hr3, H⟩ := bind_some H
      refine GW.region ?_
      refine GL.y (YL.loadAgg rfl rfl rfl Try.isAgg25 Try.sizeOf25 (Nat.le_of_ble_eq_true rfl) rfl) rfl rfl ?_
      refine GL.y (YL.loadN rfl rfl rfl Try.isAgg22 rfl rfl) rfl rfl ?_
      refine GL.e (W := []) (EF.call 4 Try.call34 rfl (mapO_cons rfl (mapO_cons rfl rfl)) (points_inside_ok fu p0 x0 r3 hr3) (by rintro _ _ ⟨rfl, rfl⟩; rfl)) rfl rfl ?_
      rintro _ ⟨_, _, ⟨rfl, rfl⟩, rfl⟩
      refine GL.py (PY.un rfl rfl) rfl rfl ?_
      refine GL.nil ?_
      change GW _ _ _ _ _ _
      refine GW.cond rfl (fun hc3 => ?_) (fun hc3 => ?_)
      · have H := condT hc3 H
        refine GW.seq ?_
        refine GW.region ?_
        refine GL.py (PY.assign rfl) rfl rfl ?_
        refine GL.py (PY.assign rfl) rfl rfl ?_
        refine GL.nil ?_
        change GW _ _ _ _ _ _
        refine GW.ret ?_
        have H := Option.some.inj H
        subst H
        exact RetQ.mk (.inl rfl) [.val (.int .i64 0), .val (.int .i64 9)] _ [] ⟨Res.tmp rfl, Res.tmp rfl, trivial⟩ trivial rfl ⟨rfl, rfl⟩
      · have H := condF hc3 H
        refine GW.skip ?_
        change GW _ _ _ _ _ _
        refine GW.seq ?_
        refine GW.region ?_
        refine GL.e1 (W := []) (EF.alloc 2 Try.zeroValue3 rfl) rfl rfl ?_
        refine GL.e0 (EF.storeN (W := [2]) (cells' := [.val (.int .i64 0)]) rfl rfl rfl rfl rfl rfl rfl rfl Try.sizeOf3 (Nat.le_of_ble_eq_true rfl) rfl rfl) rfl ?_
        refine GL.nil ?_
        change GW _ _ _ _ _ _
        refine GW.seq ?_
        refine GW.seq ?_
        obtain ⟨r5, hr5, H⟩ := bind_some H
        refine GW.region ?_
        refine GL.y (YL.loadAgg rfl rfl rfl Try.isAgg25 Try.sizeOf25 (Nat.le_of_ble_eq_true rfl) rfl) rfl rfl ?_
        refine GL.e (W := []) (EF.callA Try.call31 rfl (mapO_cons rfl rfl) (points_All_ok fu p0 r5 hr5) (by rintro _ _ ⟨rfl, rfl⟩; exact ⟨rfl, rfl⟩)) rfl rfl ?_
        rintro _ ⟨_, _, ⟨rfl, rfl⟩, rfl⟩
        refine GL.nil ?_
        change GW _ _ _ _ _ _
        refine GW.block ?_
        obtain ⟨r9, hr9, H⟩ := bind_some H
        obtain ⟨o7, o8⟩ := r9
        obtain ⟨_, hj4, H⟩ := bind_some H
        replace hj4 := chk_spec hj4
        refine GW.rangeFunc hro points_Ahead_y1_lp 3 [3, 7] [3, 1, 2] false [3, 1, 2] (fun _ _ => rfl) rfl Try.call38 rfl rfl (fun _ => rfl) rfl (by simp) (fun fn => points_All_1_2_ok fn fu r5 x0 0 (o7, o8) hr9) (fun _ => rfl) ?_
        rintro fn _ _ ⟨rfl, rfl⟩
        refine ⟨_, ⟨[(7, .loc 2 0)], [(2, ⟨3, false, true, false, 0, [.val (.int .i64 o8)], none⟩)], []⟩, _, _, rfl, rfl, rfl, rfl, ⟨⟨rfl, trivial⟩, ⟨rfl, trivial⟩, rfl⟩, rfl, LoopR.on hj4 ?_⟩
        change GW _ _ _ _ _ _
        refine GW.seq ?_
        refine GW.region ?_
        refine GL.y (YL.loadN rfl rfl rfl Try.isAgg3 rfl rfl) rfl rfl ?_
        refine GL.py (PY.assign rfl) rfl rfl ?_
        refine GL.py (PY.assign rfl) rfl rfl ?_
        refine GL.nil ?_
        change GW _ _ _ _ _ _
        refine GW.ret ?_
        have H := Option.some.inj H
        subst H
        exact RetQ.mk (.inl rfl) [.val (.int .i64 o8), .val (.int .i64 0)] _ [] ⟨Res.tmp rfl, Res.tmp rfl, trivial⟩ trivial rfl ⟨rfl, rfl⟩

theorem adjointref9_same_ok (fu : Nat) (a0 : (List Int)) (b0 : (List Int)) (r : Bool) (H : F.adjointref9_same fu a0 b0 = some r) : GM Try.prog 36 [.sl (List.length a0) (encs a0), .sl (List.length b0) (encs b0)] [] (fun g st => g = .val (.bool r) ∧ st = []) := by
  unfold F.adjointref9_same at H
  refine GM.of (N := 21) Try.func36 rfl rfl rfl (fun cx hro => ?_)
  change GW _ _ _ _ _ _
  refine GW.seq ?_
  refine GW.region ?_
  refine GL.py (PY.assign rfl) rfl rfl ?_
  refine GL.nil ?_
  change GW _ _ _ _ _ _
  refine GW.seq ?_
  refine GW.seq ?_
  refine GW.region ?_
  refine GL.py (PY.move rfl) rfl rfl ?_
  refine GL.py (PY.len rfl rfl Try.underlying22) rfl rfl ?_
  refine GL.py (PY.move rfl) rfl rfl ?_
  refine GL.nil ?_
  change GW _ _ _ _ _ _
  refine GW.block ?_
  obtain ⟨e3, he3, Hb, Hr⟩ := bindE_some H
  refine GW.weak ((fun (q : Int) => (⟨[(0, .sl (List.length a0) (encs a0)), (1, .sl (List.length b0) (encs b0)), (7, .val (.int .i64 (List.length a0 : Int))), (8, .val (.int .i64 q))], [], []⟩ : St)) 0) ⟨⟨rfl, rfl, rfl, rfl, trivial⟩, trivial, rfl⟩ ?_
  refine GW.loopF (fun (q : Int) => (⟨[(0, .sl (List.length a0) (encs a0)), (1, .sl (List.length b0) (encs b0)), (7, .val (.int .i64 (List.length a0 : Int))), (8, .val (.int .i64 q))], [], []⟩ : St)) (QJ (.exit 0) (fun (q : Unit) => (⟨[], [], []⟩ : St)) (fun r2 _ s2 => RetQ Try.prog Try.f36 (fun g st => g = .val (.bool r2) ∧ st = []) .ret s2)) he3 (fun x o hb => ?_) (fun ex s2 _ hx => ?_)
  · obtain ⟨i1, rfl⟩ : ∃ z, z = x := ⟨_, rfl⟩
    have H := hb
    unfold F.adjointref9_same_l1 at H
    try dsimp only at H
    refine GW.weak ⟨[(0, .sl (List.length a0) (encs a0)), (1, .sl (List.length b0) (encs b0)), (7, .val (.int .i64 (List.length a0 : Int))), (8, .val (.int .i64 i1))], [], []⟩ ⟨⟨rfl, rfl, rfl, rfl, trivial⟩, trivial, rfl⟩ ?_
    refine GW.seq ?_
    refine GW.region ?_
    refine GL.py (PY.bin rfl rfl rfl) rfl rfl ?_
    refine GL.nil ?_
    change GW _ _ _ _ _ _
    refine GW.seq ?_
    refine GW.cond rfl (fun hc1 => ?_) (fun hc1 => ?_)
    · have H := condT hc1 H
      refine GW.skip ?_
      change GW _ _ _ _ _ _
      refine GW.seq ?_
      refine GW.block ?_
      refine GW.seq ?_
      refine GW.region ?_
      refine GL.py (PY.move rfl) rfl rfl ?_
      refine GL.py (PY.assign rfl) rfl rfl ?_
      refine GL.nil ?_
      change GW _ _ _ _ _ _
      refine GW.seq ?_
      obtain ⟨x2, hx2, H⟩ := bind_some H
      obtain ⟨x3, hx3, H⟩ := bind_some H
      refine GW.draws [] mixed ?_
      change GH1 _ _ _ _ _ _ 9 _ _
      refine GH1.take 0 rfl (by decide +kernel) (by decide +kernel) (by decide +kernel) rfl rfl (by decide) ((PY.move rfl).yield _) ?_
      refine GH1.take 1 rfl (by decide +kernel) (by decide +kernel) (by decide +kernel) rfl rfl (by decide) ((PY.move rfl).yield _) ?_
      refine GH1.take 2 rfl (by decide +kernel) (by decide +kernel) (by decide +kernel) rfl rfl (by decide) ((PY.index rfl rfl rfl (idx_spec hx2).1 (idx_spec hx2).2.1 Try.underlying22 Try.sizeOf3).yield _) ?_
      refine GH1.take 3 rfl (by decide +kernel) (by decide +kernel) (by decide +kernel) rfl rfl (by decide) (YT.elt (α := Int) rfl hx2 rfl Try.isAgg3) ?_
      refine GH1.take 4 rfl (by decide +kernel) (by decide +kernel) (by decide +kernel) rfl rfl (by decide) ((PY.move rfl).yield _) ?_
      refine GH1.take 5 rfl (by decide +kernel) (by decide +kernel) (by decide +kernel) rfl rfl (by decide) ((PY.move rfl).yield _) ?_
      refine GH1.take 6 rfl (by decide +kernel) (by decide +kernel) (by decide +kernel) rfl rfl (by decide) ((PY.index rfl rfl rfl (idx_spec hx3).1 (idx_spec hx3).2.1 Try.underlying22 Try.sizeOf3).yield _) ?_
      refine GH1.take 7 rfl (by decide +kernel) (by decide +kernel) (by decide +kernel) rfl rfl (by decide) (YT.elt (α := Int) rfl hx3 rfl Try.isAgg3) ?_
      refine GH1.take 8 rfl (by decide +kernel) (by decide +kernel) (by decide +kernel) rfl rfl (by decide) ((PY.bin rfl rfl rfl).yield _) ?_
      refine GH1.done (by decide +kernel) ?_
      change GW _ _ _ _ _ _
      refine GW.cond rfl (fun hc2 => ?_) (fun hc2 => ?_)
      · have H := condT hc2 H
        refine GW.seq ?_
        refine GW.region ?_
        refine GL.py (PY.assign rfl) rfl rfl ?_
        refine GL.nil ?_
        change GW _ _ _ _ _ _
        refine GW.ret ?_
        cases H
        exact And.intro ret_ne (And.intro rfl (RetQ.mk (.inl rfl) [.val (.bool false)] _ [] ⟨Res.tmp rfl, trivial⟩ trivial rfl ⟨rfl, rfl⟩))
      · have H := condF hc2 H
        refine GW.skip ?_
        change GW _ _ _ _ _ _
        refine GW.region ?_
        refine GL.py (PY.bin rfl rfl rfl) rfl rfl ?_
        refine GL.py (PY.move rfl) rfl rfl ?_
        refine GL.nil ?_
        cases H
        exact And.intro rfl ⟨⟨rfl, rfl, rfl, rfl, trivial⟩, trivial, rfl⟩
    · have H := condF hc1 H
      refine GW.exit ?_
      cases H
      exact And.intro exit_ne (And.intro rfl ⟨trivial, trivial, rfl⟩)
  · cases e3 with
    | ret r2 =>
      obtain ⟨rfl, hx⟩ := hx
      have H := Hr r2 rfl
      subst H
      exact hx
    | brk b2 =>
      obtain ⟨rfl, hs⟩ := hx
      have H := Hb b2 rfl
      change GW _ _ _ _ _ _
      refine GW.weak _ hs ?_
      refine GW.weak ⟨[], [], []⟩ ⟨trivial, trivial, rfl⟩ ?_
      change GW _ _ _ _ _ _
      refine GW.seq ?_
      refine GW.region ?_
      refine GL.py (PY.assign rfl) rfl rfl ?_
      refine GL.nil ?_
      change GW _ _ _ _ _ _
      refine GW.ret ?_
      have H := Option.some.inj H
      subst H
      exact RetQ.mk (.inl rfl) [.val (.bool true)] _ [] ⟨Res.tmp rfl, trivial⟩ trivial rfl ⟨rfl, rfl⟩

theorem adjointref9_Ahead_ok (fu : Nat) (p0 : SPoints) (x0 : (List Int)) (r : (Int × Int)) (H : F.adjointref9_Ahead fu p0 x0 = some r) : GM Try.prog 24 [.agg [.sl (List.length p0.Box) (encs p0.Box), .sl (List.length p0.Rows) (encs p0.Rows)], .sl (List.length x0) (encs x0)] [] (fun g st => g = .tup [.val (.int .i64 r.1), .val (.int .i64 r.2)] ∧ st = []) := by
  unfold F.adjointref9_Ahead at H
  refine GM.of (N := 33) Try.func24 rfl rfl rfl (fun cx hro => ?_)
  change GW _ _ _ _ _ _
  refine GW.seq ?_
  refine GW.region ?_
  refine GL.e1 (W := []) (EF.box 0 rfl rfl rfl) rfl rfl ?_
  refine GL.py (PY.assign rfl) rfl rfl ?_
  refine GL.py (PY.assign rfl) rfl rfl ?_
  refine GL.nil ?_
  change GW _ _ _ _ _ _
  refine GW.seq ?_
  refine GW.seq ?_
  obtain ⟨r1, hr1, H⟩ := bind_some H
  refine GW.region ?_
  refine GL.y (YL.loadAgg rfl rfl rfl Try.isAgg25 Try.sizeOf25 (Nat.le_of_ble_eq_true rfl) rfl) rfl rfl ?_
  refine GL.e (W := []) (EF.call 4 Try.call9 rfl (mapO_cons rfl rfl) (adjointref9_Wrong_ok fu p0 r1 hr1) (by rintro _ _ ⟨rfl, rfl⟩; rfl)) rfl rfl ?_
  rintro _ ⟨_, _, ⟨rfl, rfl⟩, rfl⟩
  refine GL.py (PY.assign rfl) rfl rfl ?_
  refine GL.nil ?_
  change GW _ _ _ _ _ _
  refine GW.seq ?_
  refine GW.region ?_
  refine GL.py (PY.move rfl) rfl rfl ?_
  refine GL.py (PY.bin rfl rfl rfl) rfl rfl ?_
  refine GL.nil ?_
  change GW _ _ _ _ _ _
  refine GW.cond rfl (fun hc1 => ?_) (fun hc1 => ?_)
  · have H := condT hc1 H
    refine GW.seq ?_
    refine GW.region ?_
    refine GL.py (PY.move rfl) rfl rfl ?_
    refine GL.py (PY.assign rfl) rfl rfl ?_
    refine GL.py (PY.assign rfl) rfl rfl ?_
    refine GL.nil ?_
    change GW _ _ _ _ _ _
    refine GW.ret ?_
    have H := Option.some.inj H
    subst H
    exact RetQ.mk (.inl rfl) [.val (.int .i64 0), .val (.int .i64 r1)] _ [] ⟨Res.tmp rfl, Res.tmp rfl, trivial⟩ trivial rfl ⟨rfl, rfl⟩
  · have H := condF hc1 H
    refine GW.skip ?_
    change GW _ _ _ _ _ _
    refine GW.seq ?_
    refine GW.seq ?_
    refine GW.region ?_
    refine GL.py (PY.move rfl) rfl rfl ?_
    refine GL.py (PY.len rfl rfl Try.underlying22) rfl rfl ?_
    refine GL.py (PY.field rfl rfl Try.underlying25 rfl Try.sizeOf22 (by decide)) rfl rfl ?_
    refine GL.y (YL.loadN rfl rfl rfl Try.isAgg22 rfl rfl) rfl rfl ?_
    refine GL.py (PY.len rfl rfl Try.underlying22) rfl rfl ?_
    refine GL.py (PY.bin rfl rfl rfl) rfl rfl ?_
    refine GL.nil ?_
    change GW _ _ _ _ _ _
    refine GW.cond rfl (fun hc2 => ?_) (fun hc2 => ?_)
    · have H := condT hc2 H
      refine GW.seq ?_
      refine GW.region ?_
      refine GL.py (PY.assign rfl) rfl rfl ?_
      refine GL.py (PY.assign rfl) rfl rfl ?_
      refine GL.nil ?_
      change GW _ _ _ _ _ _
      refine GW.ret ?_
      have H := Option.some.inj H
      subst H
      exact RetQ.mk (.inl rfl) [.val (.int .i64 0), .val (.int .i64 6)] _ [] ⟨Res.tmp rfl, Res.tmp rfl, trivial⟩ trivial rfl ⟨rfl, rfl⟩
    · have H := condF hc2 H
      refine GW.skip ?_
      change GW _ _ _ _ _ _
      refine GW.seq ?_
      refine GW.seq ?_
      obtain ⟨r3, hr3, H⟩ := bind_some H
      refine GW.region ?_
      refine GL.y (YL.loadAgg rfl rfl rfl Try.isAgg25 Try.sizeOf25 (Nat.le_of_ble_eq_true rfl) rfl) rfl rfl ?_
      refine GL.e (W := []) (EF.call 4 Try.call13 rfl (mapO_cons rfl rfl) (adjointref9_All_ok fu p0 r3 hr3) (by rintro _ _ ⟨rfl, rfl⟩; rfl)) rfl rfl ?_
      rintro _ ⟨_, _, ⟨rfl, rfl⟩, rfl⟩
      refine GL.py (PY.len rfl rfl Try.underlying35) rfl rfl ?_
      refine GL.py (PY.move rfl) rfl rfl ?_
      refine GL.nil ?_
      change GW _ _ _ _ _ _
      refine GW.block ?_
      obtain ⟨e5, he5, Hb, Hr⟩ := bindE_some H
      refine GW.weak ((fun (q : Int) => (⟨[(1, .sl (List.length x0) (encs x0)), (21, .fr (.sl (List.length r3) (encs r3))), (22, .val (.int .i64 (List.length r3 : Int))), (23, .val (.int .i64 q))], [], []⟩ : St)) 0) ⟨⟨rfl, rfl, rfl, rfl, trivial⟩, trivial, rfl⟩ ?_
      refine GW.loopF (fun (q : Int) => (⟨[(1, .sl (List.length x0) (encs x0)), (21, .fr (.sl (List.length r3) (encs r3))), (22, .val (.int .i64 (List.length r3 : Int))), (23, .val (.int .i64 q))], [], []⟩ : St)) (QJ (.exit 0) (fun (q : Unit) => (⟨[], [], []⟩ : St)) (fun r2 _ s2 => RetQ Try.prog Try.f24 (fun g st => g = .tup [.val (.int .i64 r2.1), .val (.int .i64 r2.2)] ∧ st = []) .ret s2)) he5 (fun x o hb => ?_) (fun ex s2 _ hx => ?_)
      · obtain ⟨i5, rfl⟩ : ∃ z, z = x := ⟨_, rfl⟩
        have H := hb
        unfold F.adjointref9_Ahead_l1 at H
        try dsimp only at H
        refine GW.weak ⟨[(1, .sl (List.length x0) (encs x0)), (21, .fr (.sl (List.length r3) (encs r3))), (22, .val (.int .i64 (List.length r3 : Int))), (23, .val (.int .i64 i5))], [], []⟩ ⟨⟨rfl, rfl, rfl, rfl, trivial⟩, trivial, rfl⟩ ?_
        refine GW.seq ?_
        refine GW.region ?_
        refine GL.py (PY.bin rfl rfl rfl) rfl rfl ?_
        refine GL.nil ?_
        change GW _ _ _ _ _ _
        refine GW.seq ?_
        refine GW.cond rfl (fun hc3 => ?_) (fun hc3 => ?_)
        · have H := condT hc3 H
          refine GW.skip ?_
          change GW _ _ _ _ _ _
          refine GW.seq ?_
          refine GW.block ?_
          refine GW.seq ?_
          obtain ⟨x6, hx6, H⟩ := bind_some H
          refine GW.region ?_
          refine GL.py (PY.move rfl) rfl rfl ?_
          refine GL.py (PY.index rfl rfl rfl (idx_spec hx6).1 (idx_spec hx6).2.1 Try.underlying35 Try.sizeOf22) rfl rfl ?_
          refine GL.y (YT.eltF (α := (List Int)) rfl hx6 rfl Try.isAgg22 rfl) rfl rfl ?_
          refine GL.py (PY.assign rfl) rfl rfl ?_
          refine GL.py (PY.assign rfl) rfl rfl ?_
          refine GL.nil ?_
          change GW _ _ _ _ _ _
          refine GW.seq ?_
          obtain ⟨r7, hr7, H⟩ := bind_some H
          refine GW.region ?_
          refine GL.py (PY.move rfl) rfl rfl ?_
          refine GL.py (PY.move rfl) rfl rfl ?_
          refine GL.e (W := []) (EF.call 4 Try.call36 rfl (mapO_cons rfl (mapO_cons rfl rfl)) (adjointref9_same_ok fu x0 x6 r7 hr7) (by rintro _ _ ⟨rfl, rfl⟩; rfl)) rfl rfl ?_
          rintro _ ⟨_, _, ⟨rfl, rfl⟩, rfl⟩
          refine GL.nil ?_
          change GW _ _ _ _ _ _
          refine GW.cond rfl (fun hc4 => ?_) (fun hc4 => ?_)
          · have H := condT hc4 H
            refine GW.seq ?_
            refine GW.region ?_
            refine GL.py (PY.move rfl) rfl rfl ?_
            refine GL.py (PY.assign rfl) rfl rfl ?_
            refine GL.py (PY.assign rfl) rfl rfl ?_
            refine GL.nil ?_
            change GW _ _ _ _ _ _
            refine GW.ret ?_
            cases H
            exact And.intro ret_ne (And.intro rfl (RetQ.mk (.inl rfl) [.val (.int .i64 i5), .val (.int .i64 0)] _ [] ⟨Res.tmp rfl, Res.tmp rfl, trivial⟩ trivial rfl ⟨rfl, rfl⟩))
          · have H := condF hc4 H
            refine GW.skip ?_
            change GW _ _ _ _ _ _
            refine GW.region ?_
            refine GL.py (PY.bin rfl rfl rfl) rfl rfl ?_
            refine GL.py (PY.move rfl) rfl rfl ?_
            refine GL.nil ?_
            cases H
            exact And.intro rfl ⟨⟨rfl, rfl, rfl, rfl, trivial⟩, trivial, rfl⟩
        · have H := condF hc3 H
          refine GW.exit ?_
          cases H
          exact And.intro exit_ne (And.intro rfl ⟨trivial, trivial, rfl⟩)
      · cases e5 with
        | ret r2 =>
          obtain ⟨rfl, hx⟩ := hx
          have H := Hr r2 rfl
          subst H
          exact hx
        | brk b2 =>
          obtain ⟨rfl, hs⟩ := hx
          have H := Hb b2 rfl
          change GW _ _ _ _ _ _
          refine GW.weak _ hs ?_
          refine GW.weak ⟨[], [], []⟩ ⟨trivial, trivial, rfl⟩ ?_
          change GW _ _ _ _ _ _
          refine GW.seq ?_
          refine GW.region ?_
          refine GL.py (PY.assign rfl) rfl rfl ?_
          refine GL.py (PY.assign rfl) rfl rfl ?_
          refine GL.nil ?_
          change GW _ _ _ _ _ _
          refine GW.ret ?_
          have H := Option.some.inj H
          subst H
          exact RetQ.mk (.inl rfl) [.val (.int .i64 0), .val (.int .i64 9)] _ [] ⟨Res.tmp rfl, Res.tmp rfl, trivial⟩ trivial rfl ⟨rfl, rfl⟩


end Go.Proofs.Ytllnemgkfdgljaa
