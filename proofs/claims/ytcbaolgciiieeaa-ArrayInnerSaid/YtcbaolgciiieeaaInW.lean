/-
  Each function returns what its partial function of plain data says, where that says something (printed by wip/tools/gen.py).
-/
import Derived.Test.YtcbaolgciiieeaaInF
import Derived.Test.YtcbaolgciiieeaaProg
namespace Go.Proofs.Ytcbaolgciiieeaa
open Go.AM
set_option maxHeartbeats 4000000
set_option maxRecDepth 20000
set_option linter.unusedVariables false

theorem mixed : Try.prog.follows .mixedOrders = true := by kernel_rfl


theorem view_Size_1_ok (fu : Nat) (d0 : Int) (r : Bool) (H : F.view_Size_1 fu d0 = some r) : GM Try.prog 63 [.val (.int .i64 d0)] [] (fun g st => g = .val (.bool r) ∧ st = []) := by
  unfold F.view_Size_1 at H
  refine GM.of (N := 9) Try.func63 rfl rfl rfl (fun cx => ?_)
  change GW _ _ _ _ _ _
  refine GW.seq ?_
  refine GW.region ?_
  refine GL.py (PY.assign rfl) rfl rfl ?_
  refine GL.nil ?_
  change GW _ _ _ _ _ _
  refine GW.seq ?_
  obtain ⟨e2, he2, H⟩ := bind_some H
  obtain ⟨i1, rfl⟩ : ∃ z, z = e2 := ⟨_, rfl⟩
  refine GW.mono (Q := QB .normal (fun (q : Bool) => (⟨[(2, .val (.bool q))], []⟩ : St)) i1) ?_ ?_
  · have H := he2
    refine (Bool.eq_false_or_eq_true (decide (d0 < 0))).elim (fun hg1 => ?_) (fun hg1 => ?_)
    · have H := condT hg1 H
      refine GW.region ?_
      refine GL.py (PY.move rfl) rfl rfl ?_
      refine GL.py (PY.bin rfl rfl rfl) rfl rfl ?_
      refine GL.py (PY.move rfl) rfl rfl ?_
      refine GL.lit 5 rfl hg1 ?_
      refine GL.no rfl ?_
      refine GL.no rfl ?_
      refine GL.py (PY.pickT rfl rfl) rfl rfl ?_
      refine GL.py (PY.assign rfl) rfl rfl ?_
      refine GL.nil ?_
      cases H
      exact And.intro rfl ⟨⟨rfl, trivial⟩, trivial⟩
    · have H := condF hg1 H
      refine GW.region ?_
      refine GL.py (PY.move rfl) rfl rfl ?_
      refine GL.py (PY.bin rfl rfl rfl) rfl rfl ?_
      refine GL.py (PY.move rfl) rfl rfl ?_
      refine GL.lit 5 rfl hg1 ?_
      refine GL.py (PY.move rfl) rfl rfl ?_
      refine GL.py (PY.bin rfl rfl rfl) rfl rfl ?_
      refine GL.py (PY.pickF rfl rfl) rfl rfl ?_
      refine GL.py (PY.assign rfl) rfl rfl ?_
      refine GL.nil ?_
      cases H
      exact And.intro rfl ⟨⟨rfl, trivial⟩, trivial⟩
  · rintro _ s2 ⟨rfl, hs⟩
    change GW _ _ _ _ _ _
    refine GW.weak _ hs ?_
    refine GW.weak ⟨[(2, .val (.bool i1))], []⟩ ⟨⟨rfl, trivial⟩, trivial⟩ ?_
    change GW _ _ _ _ _ _
    refine GW.ret ?_
    have H := Option.some.inj H
    subst H
    exact RetQ.mk (.inl rfl) [.val (.bool i1)] _ [] ⟨Res.tmp rfl, trivial⟩ trivial rfl ⟨rfl, rfl⟩

theorem slices_IndexFunc_ok (fu : Nat) (s0 : (List Int)) (r : Int) (H : F.slices_IndexFunc fu s0 = some r) : GM Try.prog 89 [.sl (List.length s0) (encs s0), .clo 63 []] [] (fun g st => g = .val (.int .i64 r) ∧ st = []) := by
  unfold F.slices_IndexFunc at H
  refine GM.of (N := 19) Try.func89 rfl rfl rfl (fun cx => ?_)
  change GW _ _ _ _ _ _
  refine GW.seq ?_
  refine GW.region ?_
  refine GL.py (PY.assign rfl) rfl rfl ?_
  refine GL.nil ?_
  change GW _ _ _ _ _ _
  refine GW.seq ?_
  refine GW.seq ?_
  refine GW.region ?_
  refine GL.py (PY.move rfl) rfl rfl ?_
  refine GL.py (PY.len rfl rfl Try.underlying22) rfl rfl ?_
  refine GL.py (PY.move rfl) rfl rfl ?_
  refine GL.nil ?_
  change GW _ _ _ _ _ _
  refine GW.block ?_
  obtain ⟨e3, he3, Hb, Hr⟩ := bindE_some H
  refine GW.weak ((fun (q : Int) => (⟨[(0, .sl (List.length s0) (encs s0)), (1, .clo 63 []), (7, .val (.int .i64 (List.length s0 : Int))), (8, .val (.int .i64 q))], []⟩ : St)) 0) ⟨⟨rfl, rfl, rfl, rfl, trivial⟩, trivial⟩ ?_
  refine GW.loopF (fun (q : Int) => (⟨[(0, .sl (List.length s0) (encs s0)), (1, .clo 63 []), (7, .val (.int .i64 (List.length s0 : Int))), (8, .val (.int .i64 q))], []⟩ : St)) (QJ (.exit 0) (fun (q : Unit) => (⟨[], []⟩ : St)) (fun r2 _ s2 => RetQ Try.prog Try.f89 (fun g st => g = .val (.int .i64 r2) ∧ st = []) .ret s2)) he3 (fun x o hb => ?_) (fun ex s2 _ hx => ?_)
  · obtain ⟨i1, rfl⟩ : ∃ z, z = x := ⟨_, rfl⟩
    have H := hb
    unfold F.slices_IndexFunc_l1 at H
    try dsimp only at H
    refine GW.weak ⟨[(0, .sl (List.length s0) (encs s0)), (1, .clo 63 []), (7, .val (.int .i64 (List.length s0 : Int))), (8, .val (.int .i64 i1))], []⟩ ⟨⟨rfl, rfl, rfl, rfl, trivial⟩, trivial⟩ ?_
    refine GW.seq ?_
    refine GW.region ?_
    refine GL.py (PY.bin rfl rfl rfl) rfl rfl ?_
    refine GL.nil ?_
    change GW _ _ _ _ _ _
    refine GW.seq ?_
    refine GW.cond rfl (fun hc1 => ?_) (fun hc1 => ?_)
    · have H := condT hc1 H
      refine GW.skip ?_
      change GW _ _ _ _ _ _
      refine GW.seq ?_
      refine GW.block ?_
      refine GW.seq ?_
      refine GW.region ?_
      refine GL.py (PY.move rfl) rfl rfl ?_
      refine GL.py (PY.assign rfl) rfl rfl ?_
      refine GL.nil ?_
      change GW _ _ _ _ _ _
      refine GW.seq ?_
      obtain ⟨x2, hx2, H⟩ := bind_some H
      obtain ⟨r3, hr3, H⟩ := bind_some H
      refine GW.region ?_
      refine GL.py (PY.move rfl) rfl rfl ?_
      refine GL.py (PY.move rfl) rfl rfl ?_
      refine GL.py (PY.move rfl) rfl rfl ?_
      refine GL.py (PY.index rfl rfl rfl (idx_spec hx2).1 (idx_spec hx2).2.1 Try.underlying22 Try.sizeOf3) rfl rfl ?_
      refine GL.y (YT.elt (α := Int) rfl hx2 rfl Try.isAgg3) rfl rfl ?_
      refine GL.e (W := []) (EF.callV 4 Try.call63 rfl rfl (mapO_cons rfl rfl) (view_Size_1_ok fu x2 r3 hr3) (by rintro _ _ ⟨rfl, rfl⟩; rfl)) rfl rfl ?_
      rintro _ ⟨_, _, ⟨rfl, rfl⟩, rfl⟩
      refine GL.nil ?_
      change GW _ _ _ _ _ _
      refine GW.cond rfl (fun hc2 => ?_) (fun hc2 => ?_)
      · have H := condT hc2 H
        refine GW.seq ?_
        refine GW.region ?_
        refine GL.py (PY.move rfl) rfl rfl ?_
        refine GL.py (PY.assign rfl) rfl rfl ?_
        refine GL.nil ?_
        change GW _ _ _ _ _ _
        refine GW.ret ?_
        cases H
        exact And.intro ret_ne (And.intro rfl (RetQ.mk (.inl rfl) [.val (.int .i64 i1)] _ [] ⟨Res.tmp rfl, trivial⟩ trivial rfl ⟨rfl, rfl⟩))
      · have H := condF hc2 H
        refine GW.skip ?_
        change GW _ _ _ _ _ _
        refine GW.region ?_
        refine GL.py (PY.bin rfl rfl rfl) rfl rfl ?_
        refine GL.py (PY.move rfl) rfl rfl ?_
        refine GL.nil ?_
        cases H
        exact And.intro rfl ⟨⟨rfl, rfl, rfl, rfl, trivial⟩, trivial⟩
    · have H := condF hc1 H
      refine GW.exit ?_
      cases H
      exact And.intro exit_ne (And.intro rfl ⟨trivial, trivial⟩)
  · cases e3 with
    | ret r2 =>
      obtain ⟨rfl, hx⟩ := hx
      have H := Hr r2 rfl
      subst H
      exact hx
    | brk b2 =>
      obtain ⟨rfl, hs⟩ := hx
      have H := Hb b2 rfl
      change GW _ _ _ _ _ _
      refine GW.weak _ hs ?_
      refine GW.weak ⟨[], []⟩ ⟨trivial, trivial⟩ ?_
      change GW _ _ _ _ _ _
      refine GW.seq ?_
      refine GW.region ?_
      refine GL.py (PY.assign rfl) rfl rfl ?_
      refine GL.nil ?_
      change GW _ _ _ _ _ _
      refine GW.ret ?_
      have H := Option.some.inj H
      subst H
      exact RetQ.mk (.inl rfl) [.val (.int .i64 (-1))] _ [] ⟨Res.tmp rfl, trivial⟩ trivial rfl ⟨rfl, rfl⟩

theorem slices_ContainsFunc_ok (fu : Nat) (s0 : (List Int)) (r : Bool) (H : F.slices_ContainsFunc fu s0 = some r) : GM Try.prog 62 [.sl (List.length s0) (encs s0), .clo 63 []] [] (fun g st => g = .val (.bool r) ∧ st = []) := by
  unfold F.slices_ContainsFunc at H
  refine GM.of (N := 9) Try.func62 rfl rfl rfl (fun cx => ?_)
  change GW _ _ _ _ _ _
  refine GW.seq ?_
  refine GW.region ?_
  refine GL.py (PY.assign rfl) rfl rfl ?_
  refine GL.nil ?_
  change GW _ _ _ _ _ _
  refine GW.seq ?_
  obtain ⟨r1, hr1, H⟩ := bind_some H
  refine GW.region ?_
  refine GL.py (PY.move rfl) rfl rfl ?_
  refine GL.py (PY.move rfl) rfl rfl ?_
  refine GL.e (W := []) (EF.call 4 Try.call89 rfl (mapO_cons rfl (mapO_cons rfl rfl)) (slices_IndexFunc_ok fu s0 r1 hr1) (by rintro _ _ ⟨rfl, rfl⟩; rfl)) rfl rfl ?_
  rintro _ ⟨_, _, ⟨rfl, rfl⟩, rfl⟩
  refine GL.py (PY.bin rfl rfl rfl) rfl rfl ?_
  refine GL.py (PY.assign rfl) rfl rfl ?_
  refine GL.nil ?_
  change GW _ _ _ _ _ _
  refine GW.ret ?_
  have H := Option.some.inj H
  subst H
  exact RetQ.mk (.inl rfl) [.val (.bool (decide (r1 ≥ 0)))] _ [] ⟨Res.tmp rfl, trivial⟩ trivial rfl ⟨rfl, rfl⟩

theorem slices_Index_ok (fu : Nat) (s0 : (List Int)) (v0 : Int) (r : Int) (H : F.slices_Index fu s0 v0 = some r) : GM Try.prog 82 [.sl (List.length s0) (encs s0), .val (.int .i64 v0)] [] (fun g st => g = .val (.int .i64 r) ∧ st = []) := by
  unfold F.slices_Index at H
  refine GM.of (N := 19) Try.func82 rfl rfl rfl (fun cx => ?_)
  change GW _ _ _ _ _ _
  refine GW.seq ?_
  refine GW.region ?_
  refine GL.py (PY.assign rfl) rfl rfl ?_
  refine GL.nil ?_
  change GW _ _ _ _ _ _
  refine GW.seq ?_
  refine GW.seq ?_
  refine GW.region ?_
  refine GL.py (PY.move rfl) rfl rfl ?_
  refine GL.py (PY.len rfl rfl Try.underlying22) rfl rfl ?_
  refine GL.py (PY.move rfl) rfl rfl ?_
  refine GL.nil ?_
  change GW _ _ _ _ _ _
  refine GW.block ?_
  obtain ⟨e3, he3, Hb, Hr⟩ := bindE_some H
  refine GW.weak ((fun (q : Int) => (⟨[(0, .sl (List.length s0) (encs s0)), (1, .val (.int .i64 v0)), (7, .val (.int .i64 (List.length s0 : Int))), (8, .val (.int .i64 q))], []⟩ : St)) 0) ⟨⟨rfl, rfl, rfl, rfl, trivial⟩, trivial⟩ ?_
  refine GW.loopF (fun (q : Int) => (⟨[(0, .sl (List.length s0) (encs s0)), (1, .val (.int .i64 v0)), (7, .val (.int .i64 (List.length s0 : Int))), (8, .val (.int .i64 q))], []⟩ : St)) (QJ (.exit 0) (fun (q : Unit) => (⟨[], []⟩ : St)) (fun r2 _ s2 => RetQ Try.prog Try.f82 (fun g st => g = .val (.int .i64 r2) ∧ st = []) .ret s2)) he3 (fun x o hb => ?_) (fun ex s2 _ hx => ?_)
  · obtain ⟨i1, rfl⟩ : ∃ z, z = x := ⟨_, rfl⟩
    have H := hb
    unfold F.slices_Index_l1 at H
    try dsimp only at H
    refine GW.weak ⟨[(0, .sl (List.length s0) (encs s0)), (1, .val (.int .i64 v0)), (7, .val (.int .i64 (List.length s0 : Int))), (8, .val (.int .i64 i1))], []⟩ ⟨⟨rfl, rfl, rfl, rfl, trivial⟩, trivial⟩ ?_
    refine GW.seq ?_
    refine GW.region ?_
    refine GL.py (PY.bin rfl rfl rfl) rfl rfl ?_
    refine GL.nil ?_
    change GW _ _ _ _ _ _
    refine GW.seq ?_
    refine GW.cond rfl (fun hc1 => ?_) (fun hc1 => ?_)
    · have H := condT hc1 H
      refine GW.skip ?_
      change GW _ _ _ _ _ _
      refine GW.seq ?_
      refine GW.block ?_
      refine GW.seq ?_
      refine GW.region ?_
      refine GL.py (PY.move rfl) rfl rfl ?_
      refine GL.py (PY.assign rfl) rfl rfl ?_
      refine GL.nil ?_
      change GW _ _ _ _ _ _
      refine GW.seq ?_
      obtain ⟨x2, hx2, H⟩ := bind_some H
      refine GW.region ?_
      refine GL.py (PY.move rfl) rfl rfl ?_
      refine GL.py (PY.move rfl) rfl rfl ?_
      refine GL.py (PY.move rfl) rfl rfl ?_
      refine GL.py (PY.index rfl rfl rfl (idx_spec hx2).1 (idx_spec hx2).2.1 Try.underlying22 Try.sizeOf3) rfl rfl ?_
      refine GL.y (YT.elt (α := Int) rfl hx2 rfl Try.isAgg3) rfl rfl ?_
      refine GL.py (PY.bin rfl rfl rfl) rfl rfl ?_
      refine GL.nil ?_
      change GW _ _ _ _ _ _
      refine GW.cond rfl (fun hc2 => ?_) (fun hc2 => ?_)
      · have H := condT hc2 H
        refine GW.seq ?_
        refine GW.region ?_
        refine GL.py (PY.move rfl) rfl rfl ?_
        refine GL.py (PY.assign rfl) rfl rfl ?_
        refine GL.nil ?_
        change GW _ _ _ _ _ _
        refine GW.ret ?_
        cases H
        exact And.intro ret_ne (And.intro rfl (RetQ.mk (.inl rfl) [.val (.int .i64 i1)] _ [] ⟨Res.tmp rfl, trivial⟩ trivial rfl ⟨rfl, rfl⟩))
      · have H := condF hc2 H
        refine GW.skip ?_
        change GW _ _ _ _ _ _
        refine GW.region ?_
        refine GL.py (PY.bin rfl rfl rfl) rfl rfl ?_
        refine GL.py (PY.move rfl) rfl rfl ?_
        refine GL.nil ?_
        cases H
        exact And.intro rfl ⟨⟨rfl, rfl, rfl, rfl, trivial⟩, trivial⟩
    · have H := condF hc1 H
      refine GW.exit ?_
      cases H
      exact And.intro exit_ne (And.intro rfl ⟨trivial, trivial⟩)
  · cases e3 with
    | ret r2 =>
      obtain ⟨rfl, hx⟩ := hx
      have H := Hr r2 rfl
      subst H
      exact hx
    | brk b2 =>
      obtain ⟨rfl, hs⟩ := hx
      have H := Hb b2 rfl
      change GW _ _ _ _ _ _
      refine GW.weak _ hs ?_
      refine GW.weak ⟨[], []⟩ ⟨trivial, trivial⟩ ?_
      change GW _ _ _ _ _ _
      refine GW.seq ?_
      refine GW.region ?_
      refine GL.py (PY.assign rfl) rfl rfl ?_
      refine GL.nil ?_
      change GW _ _ _ _ _ _
      refine GW.ret ?_
      have H := Option.some.inj H
      subst H
      exact RetQ.mk (.inl rfl) [.val (.int .i64 (-1))] _ [] ⟨Res.tmp rfl, trivial⟩ trivial rfl ⟨rfl, rfl⟩

theorem slices_Contains_ok (fu : Nat) (s0 : (List Int)) (v0 : Int) (r : Bool) (H : F.slices_Contains fu s0 v0 = some r) : GM Try.prog 50 [.sl (List.length s0) (encs s0), .val (.int .i64 v0)] [] (fun g st => g = .val (.bool r) ∧ st = []) := by
  unfold F.slices_Contains at H
  refine GM.of (N := 9) Try.func50 rfl rfl rfl (fun cx => ?_)
  change GW _ _ _ _ _ _
  refine GW.seq ?_
  refine GW.region ?_
  refine GL.py (PY.assign rfl) rfl rfl ?_
  refine GL.nil ?_
  change GW _ _ _ _ _ _
  refine GW.seq ?_
  obtain ⟨r1, hr1, H⟩ := bind_some H
  refine GW.region ?_
  refine GL.py (PY.move rfl) rfl rfl ?_
  refine GL.py (PY.move rfl) rfl rfl ?_
  refine GL.e (W := []) (EF.call 4 Try.call82 rfl (mapO_cons rfl (mapO_cons rfl rfl)) (slices_Index_ok fu s0 v0 r1 hr1) (by rintro _ _ ⟨rfl, rfl⟩; rfl)) rfl rfl ?_
  rintro _ ⟨_, _, ⟨rfl, rfl⟩, rfl⟩
  refine GL.py (PY.bin rfl rfl rfl) rfl rfl ?_
  refine GL.py (PY.assign rfl) rfl rfl ?_
  refine GL.nil ?_
  change GW _ _ _ _ _ _
  refine GW.ret ?_
  have H := Option.some.inj H
  subst H
  exact RetQ.mk (.inl rfl) [.val (.bool (decide (r1 ≥ 0)))] _ [] ⟨Res.tmp rfl, trivial⟩ trivial rfl ⟨rfl, rfl⟩

theorem view_Size_ok (fu : Nat) (dims0 : (List Int)) (r : (Int × Int)) (H : F.view_Size fu dims0 = some r) : GM Try.prog 41 [.sl (List.length dims0) (encs dims0)] [] (fun g st => g = .tup [.val (.int .i64 r.1), .val (.int .i64 r.2)] ∧ st = []) := by
  unfold F.view_Size at H
  refine GM.of (N := 32) Try.func41 rfl rfl rfl (fun cx => ?_)
  change GW _ _ _ _ _ _
  refine GW.seq ?_
  refine GW.region ?_
  refine GL.py (PY.assign rfl) rfl rfl ?_
  refine GL.py (PY.assign rfl) rfl rfl ?_
  refine GL.nil ?_
  change GW _ _ _ _ _ _
  refine GW.seq ?_
  refine GW.seq ?_
  refine GW.region ?_
  refine GL.py (PY.move rfl) rfl rfl ?_
  refine GL.py (PY.len rfl rfl Try.underlying22) rfl rfl ?_
  refine GL.py (PY.bin rfl rfl rfl) rfl rfl ?_
  refine GL.nil ?_
  change GW _ _ _ _ _ _
  refine GW.cond rfl (fun hc1 => ?_) (fun hc1 => ?_)
  · have H := condT hc1 H
    refine GW.seq ?_
    refine GW.region ?_
    refine GL.py (PY.assign rfl) rfl rfl ?_
    refine GL.py (PY.assign rfl) rfl rfl ?_
    refine GL.nil ?_
    change GW _ _ _ _ _ _
    refine GW.ret ?_
    have H := Option.some.inj H
    subst H
    exact RetQ.mk (.inl rfl) [.val (.int .i64 0), .val (.int .i64 3)] _ [] ⟨Res.tmp rfl, Res.tmp rfl, trivial⟩ trivial (fz_tup (fz_go rfl (fz_go rfl rfl))) ⟨rfl, rfl⟩
  · have H := condF hc1 H
    refine GW.skip ?_
    change GW _ _ _ _ _ _
    refine GW.seq ?_
    refine GW.seq ?_
    obtain ⟨r1, hr1, H⟩ := bind_some H
    refine GW.region ?_
    refine GL.py (PY.move rfl) rfl rfl ?_
    refine GL.e (W := []) (EF.call 4 Try.call62 rfl (mapO_cons rfl (mapO_cons rfl rfl)) (slices_ContainsFunc_ok fu dims0 r1 hr1) (by rintro _ _ ⟨rfl, rfl⟩; rfl)) rfl rfl ?_
    rintro _ ⟨_, _, ⟨rfl, rfl⟩, rfl⟩
    refine GL.nil ?_
    change GW _ _ _ _ _ _
    refine GW.cond rfl (fun hc2 => ?_) (fun hc2 => ?_)
    · have H := condT hc2 H
      refine GW.seq ?_
      refine GW.region ?_
      refine GL.py (PY.assign rfl) rfl rfl ?_
      refine GL.py (PY.assign rfl) rfl rfl ?_
      refine GL.nil ?_
      change GW _ _ _ _ _ _
      refine GW.ret ?_
      have H := Option.some.inj H
      subst H
      exact RetQ.mk (.inl rfl) [.val (.int .i64 0), .val (.int .i64 4)] _ [] ⟨Res.tmp rfl, Res.tmp rfl, trivial⟩ trivial (fz_tup (fz_go rfl (fz_go rfl rfl))) ⟨rfl, rfl⟩
    · have H := condF hc2 H
      refine GW.skip ?_
      change GW _ _ _ _ _ _
      refine GW.seq ?_
      refine GW.region ?_
      refine GL.py (PY.assign rfl) rfl rfl ?_
      refine GL.nil ?_
      change GW _ _ _ _ _ _
      refine GW.seq ?_
      refine GW.seq ?_
      refine GW.region ?_
      refine GL.py (PY.move rfl) rfl rfl ?_
      refine GL.py (PY.len rfl rfl Try.underlying22) rfl rfl ?_
      refine GL.py (PY.move rfl) rfl rfl ?_
      refine GL.nil ?_
      change GW _ _ _ _ _ _
      refine GW.block ?_
      obtain ⟨e7, he7, Hb, Hr⟩ := bindE_some H
      refine GW.weak ((fun (q : Int × Int) => (⟨[(0, .sl (List.length dims0) (encs dims0)), (4, .val (.int .i64 q.1)), (12, .sl (List.length dims0) (encs dims0)), (13, .val (.int .i64 (List.length dims0 : Int))), (14, .val (.int .i64 q.2))], []⟩ : St)) (1, 0)) ⟨⟨rfl, rfl, rfl, rfl, rfl, trivial⟩, trivial⟩ ?_
      refine GW.loopF (fun (q : Int × Int) => (⟨[(0, .sl (List.length dims0) (encs dims0)), (4, .val (.int .i64 q.1)), (12, .sl (List.length dims0) (encs dims0)), (13, .val (.int .i64 (List.length dims0 : Int))), (14, .val (.int .i64 q.2))], []⟩ : St)) (QJ (.exit 0) (fun (q : Int) => (⟨[(4, .val (.int .i64 q))], []⟩ : St)) (fun r2 _ s2 => RetQ Try.prog Try.f41 (fun g st => g = .tup [.val (.int .i64 r2.1), .val (.int .i64 r2.2)] ∧ st = []) .ret s2)) he7 (fun x o hb => ?_) (fun ex s2 _ hx => ?_)
      · obtain ⟨n3, i4⟩ := x
        have H := hb
        unfold F.view_Size_l1 at H
        try dsimp only at H
        refine GW.weak ⟨[(0, .sl (List.length dims0) (encs dims0)), (4, .val (.int .i64 n3)), (12, .sl (List.length dims0) (encs dims0)), (13, .val (.int .i64 (List.length dims0 : Int))), (14, .val (.int .i64 i4))], []⟩ ⟨⟨rfl, rfl, rfl, rfl, rfl, trivial⟩, trivial⟩ ?_
        refine GW.seq ?_
        refine GW.region ?_
        refine GL.py (PY.bin rfl rfl rfl) rfl rfl ?_
        refine GL.nil ?_
        change GW _ _ _ _ _ _
        refine GW.seq ?_
        refine GW.cond rfl (fun hc3 => ?_) (fun hc3 => ?_)
        · have H := condT hc3 H
          refine GW.skip ?_
          change GW _ _ _ _ _ _
          refine GW.seq ?_
          refine GW.block ?_
          refine GW.seq ?_
          obtain ⟨x6, hx6, H⟩ := bind_some H
          refine GW.region ?_
          refine GL.py (PY.index rfl rfl rfl (idx_spec hx6).1 (idx_spec hx6).2.1 Try.underlying22 Try.sizeOf3) rfl rfl ?_
          refine GL.y (YT.elt (α := Int) rfl hx6 rfl Try.isAgg3) rfl rfl ?_
          refine GL.py (PY.assign rfl) rfl rfl ?_
          refine GL.nil ?_
          change GW _ _ _ _ _ _
          refine GW.seq ?_
          refine GW.region ?_
          refine GL.py (PY.move rfl) rfl rfl ?_
          refine GL.py (PY.move rfl) rfl rfl ?_
          refine GL.py (PY.bin rfl rfl rfl) rfl rfl ?_
          refine GL.py (PY.assign rfl) rfl rfl ?_
          refine GL.nil ?_
          change GW _ _ _ _ _ _
          refine GW.seq ?_
          refine GW.seq ?_
          obtain ⟨e6, he6, H⟩ := bind_some H
          obtain ⟨i8, rfl⟩ : ∃ z, z = e6 := ⟨_, rfl⟩
          refine GW.mono (Q := QB .normal (fun (q : Bool) => (⟨[(0, .sl (List.length dims0) (encs dims0)), (4, .val (.int .i64 (IntKind.i64.wrap (n3 * x6)))), (12, .sl (List.length dims0) (encs dims0)), (13, .val (.int .i64 (List.length dims0 : Int))), (14, .val (.int .i64 i4)), (27, .val (.bool q))], []⟩ : St)) i8) ?_ ?_
          · have H := he6
            refine (Bool.eq_false_or_eq_true (decide ((IntKind.i64.wrap (n3 * x6)) > 65536))).elim (fun hg4 => ?_) (fun hg4 => ?_)
            · have H := condT hg4 H
              obtain ⟨r7, hr7, H⟩ := bind_some H
              refine GW.region ?_
              refine GL.py (PY.move rfl) rfl rfl ?_
              refine GL.py (PY.bin rfl rfl rfl) rfl rfl ?_
              refine GL.py (PY.move rfl) rfl rfl ?_
              refine GL.lit 23 rfl hg4 ?_
              refine GL.py (PY.move rfl) rfl rfl ?_
              refine GL.e (W := []) (EF.call 4 Try.call50 rfl (mapO_cons rfl (mapO_cons rfl rfl)) (slices_Contains_ok fu dims0 0 r7 hr7) (by rintro _ _ ⟨rfl, rfl⟩; rfl)) rfl rfl ?_
              rintro _ ⟨_, _, ⟨rfl, rfl⟩, rfl⟩
              refine GL.py (PY.un rfl rfl) rfl rfl ?_
              refine GL.py (PY.pickT rfl rfl) rfl rfl ?_
              refine GL.nil ?_
              cases H
              exact And.intro rfl ⟨⟨rfl, rfl, rfl, rfl, rfl, rfl, trivial⟩, trivial⟩
            · have H := condF hg4 H
              refine GW.region ?_
              refine GL.py (PY.move rfl) rfl rfl ?_
              refine GL.py (PY.bin rfl rfl rfl) rfl rfl ?_
              refine GL.py (PY.move rfl) rfl rfl ?_
              refine GL.lit 23 rfl hg4 ?_
              refine GL.no rfl ?_
              refine GL.no rfl ?_
              refine GL.no rfl ?_
              refine GL.py (PY.pickF rfl rfl) rfl rfl ?_
              refine GL.nil ?_
              cases H
              exact And.intro rfl ⟨⟨rfl, rfl, rfl, rfl, rfl, rfl, trivial⟩, trivial⟩
          · rintro _ s2 ⟨rfl, hs⟩
            change GW _ _ _ _ _ _
            refine GW.weak _ hs ?_
            refine GW.weak ⟨[(0, .sl (List.length dims0) (encs dims0)), (4, .val (.int .i64 (IntKind.i64.wrap (n3 * x6)))), (12, .sl (List.length dims0) (encs dims0)), (13, .val (.int .i64 (List.length dims0 : Int))), (14, .val (.int .i64 i4)), (27, .val (.bool i8))], []⟩ ⟨⟨rfl, rfl, rfl, rfl, rfl, rfl, trivial⟩, trivial⟩ ?_
            change GW _ _ _ _ _ _
            refine GW.cond rfl (fun hc5 => ?_) (fun hc5 => ?_)
            · have H := condT hc5 H
              refine GW.seq ?_
              refine GW.region ?_
              refine GL.py (PY.assign rfl) rfl rfl ?_
              refine GL.py (PY.assign rfl) rfl rfl ?_
              refine GL.nil ?_
              change GW _ _ _ _ _ _
              refine GW.ret ?_
              cases H
              exact And.intro ret_ne (And.intro rfl (RetQ.mk (.inl rfl) [.val (.int .i64 0), .val (.int .i64 5)] _ [] ⟨Res.tmp rfl, Res.tmp rfl, trivial⟩ trivial (fz_tup (fz_go rfl (fz_go rfl rfl))) ⟨rfl, rfl⟩))
            · have H := condF hc5 H
              refine GW.skip ?_
              change GW _ _ _ _ _ _
              refine GW.region ?_
              refine GL.py (PY.move rfl) rfl rfl ?_
              refine GL.py (PY.min2 rfl rfl) rfl rfl ?_
              refine GL.py (PY.assign rfl) rfl rfl ?_
              refine GL.nil ?_
              change GW _ _ _ _ _ _
              refine GW.region ?_
              refine GL.py (PY.bin rfl rfl rfl) rfl rfl ?_
              refine GL.py (PY.move rfl) rfl rfl ?_
              refine GL.nil ?_
              cases H
              exact And.intro rfl ⟨⟨rfl, rfl, rfl, rfl, rfl, trivial⟩, trivial⟩
        · have H := condF hc3 H
          refine GW.exit ?_
          cases H
          exact And.intro exit_ne (And.intro rfl ⟨⟨rfl, trivial⟩, trivial⟩)
      · cases e7 with
        | ret r2 =>
          obtain ⟨rfl, hx⟩ := hx
          have H := Hr r2 rfl
          subst H
          exact hx
        | brk b2 =>
          obtain ⟨rfl, hs⟩ := hx
          have H := Hb b2 rfl
          obtain ⟨n5, rfl⟩ : ∃ z, z = b2 := ⟨_, rfl⟩
          change GW _ _ _ _ _ _
          refine GW.weak _ hs ?_
          refine GW.weak ⟨[(4, .val (.int .i64 n5))], []⟩ ⟨⟨rfl, trivial⟩, trivial⟩ ?_
          change GW _ _ _ _ _ _
          refine GW.seq ?_
          refine GW.region ?_
          refine GL.py (PY.move rfl) rfl rfl ?_
          refine GL.py (PY.assign rfl) rfl rfl ?_
          refine GL.py (PY.assign rfl) rfl rfl ?_
          refine GL.nil ?_
          change GW _ _ _ _ _ _
          refine GW.ret ?_
          have H := Option.some.inj H
          subst H
          exact RetQ.mk (.inl rfl) [.val (.int .i64 n5), .val (.int .i64 0)] _ [] ⟨Res.tmp rfl, Res.tmp rfl, trivial⟩ trivial (fz_tup (fz_go rfl (fz_go rfl rfl))) ⟨rfl, rfl⟩

theorem array_Wrong_ok (fu : Nat) (a0 : SArray) (r : Int) (H : F.array_Wrong fu a0 = some r) : GM Try.prog 14 [.agg [.sl (List.length a0.Dims) (encs a0.Dims), .sl (List.length a0.Data) (encs a0.Data)]] [] (fun g st => g = .val (.int .i64 r) ∧ st = []) := by
  unfold F.array_Wrong at H
  refine GM.of (N := 21) Try.func14 rfl rfl rfl (fun cx => ?_)
  change GW _ _ _ _ _ _
  refine GW.seq ?_
  refine GW.region ?_
  refine GL.e1 (W := []) (EF.box 0 rfl rfl rfl) rfl rfl ?_
  refine GL.py (PY.assign rfl) rfl rfl ?_
  refine GL.nil ?_
  change GW _ _ _ _ _ _
  refine GW.seq ?_
  obtain ⟨r1, hr1, H⟩ := bind_some H
  refine GW.region ?_
  refine GL.py (PY.field rfl rfl Try.underlying25 rfl Try.sizeOf22 (by decide)) rfl rfl ?_
  refine GL.y (YL.loadN rfl rfl rfl Try.isAgg22 rfl rfl) rfl rfl ?_
  refine GL.e (W := []) (EF.call 4 Try.call41 rfl (mapO_cons rfl rfl) (view_Size_ok fu a0.Dims r1 hr1) (by rintro _ _ ⟨rfl, rfl⟩; rfl)) rfl rfl ?_
  rintro _ ⟨_, _, ⟨rfl, rfl⟩, rfl⟩
  refine GL.py (PY.move rfl) rfl rfl ?_
  refine GL.py (PY.extract rfl rfl) rfl rfl ?_
  refine GL.py (PY.extract rfl rfl) rfl rfl ?_
  refine GL.py (PY.assign rfl) rfl rfl ?_
  refine GL.py (PY.assign rfl) rfl rfl ?_
  refine GL.nil ?_
  change GW _ _ _ _ _ _
  refine GW.seq ?_
  refine GW.seq ?_
  obtain ⟨e3, he3, H⟩ := bind_some H
  obtain ⟨i3, rfl⟩ : ∃ z, z = e3 := ⟨_, rfl⟩
  refine GW.mono (Q := QB .normal (fun (q : Bool) => (⟨[(4, .val (.int .i64 r1.2)), (19, .val (.bool q))], []⟩ : St)) i3) ?_ ?_
  · have H := he3
    refine (Bool.eq_false_or_eq_true (r1.2 == 0)).elim (fun hg1 => ?_) (fun hg1 => ?_)
    · have H := condT hg1 H
      refine GW.region ?_
      refine GL.py (PY.move rfl) rfl rfl ?_
      refine GL.py (PY.bin rfl rfl rfl) rfl rfl ?_
      refine GL.py (PY.move rfl) rfl rfl ?_
      refine GL.lit 13 rfl hg1 ?_
      refine GL.py (PY.move rfl) rfl rfl ?_
      refine GL.py (PY.field rfl rfl Try.underlying25 rfl Try.sizeOf23 (by decide)) rfl rfl ?_
      refine GL.y (YL.loadN rfl rfl rfl Try.isAgg23 rfl rfl) rfl rfl ?_
      refine GL.py (PY.len rfl rfl Try.underlying23) rfl rfl ?_
      refine GL.py (PY.bin rfl rfl rfl) rfl rfl ?_
      refine GL.py (PY.pickT rfl rfl) rfl rfl ?_
      refine GL.nil ?_
      cases H
      exact And.intro rfl ⟨⟨rfl, rfl, trivial⟩, trivial⟩
    · have H := condF hg1 H
      refine GW.region ?_
      refine GL.py (PY.move rfl) rfl rfl ?_
      refine GL.py (PY.bin rfl rfl rfl) rfl rfl ?_
      refine GL.py (PY.move rfl) rfl rfl ?_
      refine GL.lit 13 rfl hg1 ?_
      refine GL.no rfl ?_
      refine GL.no rfl ?_
      refine GL.no rfl ?_
      refine GL.no rfl ?_
      refine GL.no rfl ?_
      refine GL.py (PY.pickF rfl rfl) rfl rfl ?_
      refine GL.nil ?_
      cases H
      exact And.intro rfl ⟨⟨rfl, rfl, trivial⟩, trivial⟩
  · rintro _ s2 ⟨rfl, hs⟩
    change GW _ _ _ _ _ _
    refine GW.weak _ hs ?_
    refine GW.weak ⟨[(4, .val (.int .i64 r1.2)), (19, .val (.bool i3))], []⟩ ⟨⟨rfl, rfl, trivial⟩, trivial⟩ ?_
    change GW _ _ _ _ _ _
    refine GW.cond rfl (fun hc2 => ?_) (fun hc2 => ?_)
    · have H := condT hc2 H
      refine GW.seq ?_
      refine GW.region ?_
      refine GL.py (PY.assign rfl) rfl rfl ?_
      refine GL.nil ?_
      change GW _ _ _ _ _ _
      refine GW.ret ?_
      have H := Option.some.inj H
      subst H
      exact RetQ.mk (.inl rfl) [.val (.int .i64 6)] _ [] ⟨Res.tmp rfl, trivial⟩ trivial rfl ⟨rfl, rfl⟩
    · have H := condF hc2 H
      refine GW.skip ?_
      change GW _ _ _ _ _ _
      refine GW.seq ?_
      refine GW.region ?_
      refine GL.py (PY.move rfl) rfl rfl ?_
      refine GL.py (PY.assign rfl) rfl rfl ?_
      refine GL.nil ?_
      change GW _ _ _ _ _ _
      refine GW.ret ?_
      have H := Option.some.inj H
      subst H
      exact RetQ.mk (.inl rfl) [.val (.int .i64 r1.2)] _ [] ⟨Res.tmp rfl, trivial⟩ trivial rfl ⟨rfl, rfl⟩

theorem slices_Equal_ok (fu : Nat) (s0 : (List Int)) (s00 : (List Int)) (r : Bool) (H : F.slices_Equal fu s0 s00 = some r) : GM Try.prog 32 [.sl (List.length s0) (encs s0), .sl (List.length s00) (encs s00)] [] (fun g st => g = .val (.bool r) ∧ st = []) := by
  unfold F.slices_Equal at H
  refine GM.of (N := 26) Try.func32 rfl rfl rfl (fun cx => ?_)
  change GW _ _ _ _ _ _
  refine GW.seq ?_
  refine GW.region ?_
  refine GL.py (PY.assign rfl) rfl rfl ?_
  refine GL.nil ?_
  change GW _ _ _ _ _ _
  refine GW.seq ?_
  refine GW.seq ?_
  refine GW.region ?_
  refine GL.py (PY.move rfl) rfl rfl ?_
  refine GL.py (PY.len rfl rfl Try.underlying22) rfl rfl ?_
  refine GL.py (PY.move rfl) rfl rfl ?_
  refine GL.py (PY.len rfl rfl Try.underlying22) rfl rfl ?_
  refine GL.py (PY.bin rfl rfl rfl) rfl rfl ?_
  refine GL.nil ?_
  change GW _ _ _ _ _ _
  refine GW.cond rfl (fun hc1 => ?_) (fun hc1 => ?_)
  · have H := condT hc1 H
    refine GW.seq ?_
    refine GW.region ?_
    refine GL.py (PY.assign rfl) rfl rfl ?_
    refine GL.nil ?_
    change GW _ _ _ _ _ _
    refine GW.ret ?_
    have H := Option.some.inj H
    subst H
    exact RetQ.mk (.inl rfl) [.val (.bool false)] _ [] ⟨Res.tmp rfl, trivial⟩ trivial rfl ⟨rfl, rfl⟩
  · have H := condF hc1 H
    refine GW.skip ?_
    change GW _ _ _ _ _ _
    refine GW.seq ?_
    refine GW.seq ?_
    refine GW.region ?_
    refine GL.py (PY.move rfl) rfl rfl ?_
    refine GL.py (PY.len rfl rfl Try.underlying22) rfl rfl ?_
    refine GL.py (PY.move rfl) rfl rfl ?_
    refine GL.nil ?_
    change GW _ _ _ _ _ _
    refine GW.block ?_
    obtain ⟨e4, he4, Hb, Hr⟩ := bindE_some H
    refine GW.weak ((fun (q : Int) => (⟨[(0, .sl (List.length s0) (encs s0)), (1, .sl (List.length s00) (encs s00)), (12, .val (.int .i64 (List.length s0 : Int))), (13, .val (.int .i64 q))], []⟩ : St)) 0) ⟨⟨rfl, rfl, rfl, rfl, trivial⟩, trivial⟩ ?_
    refine GW.loopF (fun (q : Int) => (⟨[(0, .sl (List.length s0) (encs s0)), (1, .sl (List.length s00) (encs s00)), (12, .val (.int .i64 (List.length s0 : Int))), (13, .val (.int .i64 q))], []⟩ : St)) (QJ (.exit 0) (fun (q : Unit) => (⟨[], []⟩ : St)) (fun r2 _ s2 => RetQ Try.prog Try.f32 (fun g st => g = .val (.bool r2) ∧ st = []) .ret s2)) he4 (fun x o hb => ?_) (fun ex s2 _ hx => ?_)
    · obtain ⟨i1, rfl⟩ : ∃ z, z = x := ⟨_, rfl⟩
      have H := hb
      unfold F.slices_Equal_l1 at H
      try dsimp only at H
      refine GW.weak ⟨[(0, .sl (List.length s0) (encs s0)), (1, .sl (List.length s00) (encs s00)), (12, .val (.int .i64 (List.length s0 : Int))), (13, .val (.int .i64 i1))], []⟩ ⟨⟨rfl, rfl, rfl, rfl, trivial⟩, trivial⟩ ?_
      refine GW.seq ?_
      refine GW.region ?_
      refine GL.py (PY.bin rfl rfl rfl) rfl rfl ?_
      refine GL.nil ?_
      change GW _ _ _ _ _ _
      refine GW.seq ?_
      refine GW.cond rfl (fun hc2 => ?_) (fun hc2 => ?_)
      · have H := condT hc2 H
        refine GW.skip ?_
        change GW _ _ _ _ _ _
        refine GW.seq ?_
        refine GW.block ?_
        refine GW.seq ?_
        refine GW.region ?_
        refine GL.py (PY.move rfl) rfl rfl ?_
        refine GL.py (PY.assign rfl) rfl rfl ?_
        refine GL.nil ?_
        change GW _ _ _ _ _ _
        refine GW.seq ?_
        obtain ⟨x2, hx2, H⟩ := bind_some H
        obtain ⟨x3, hx3, H⟩ := bind_some H
        refine GW.draws [] mixed ?_
        change GH1 _ _ _ _ _ _ 9 _ _
        refine GH1.take 0 rfl (by decide +kernel) (by decide +kernel) (by decide +kernel) rfl rfl (by decide) ((PY.move rfl).yield _) ?_
        refine GH1.take 1 rfl (by decide +kernel) (by decide +kernel) (by decide +kernel) rfl rfl (by decide) ((PY.move rfl).yield _) ?_
        refine GH1.take 2 rfl (by decide +kernel) (by decide +kernel) (by decide +kernel) rfl rfl (by decide) ((PY.index rfl rfl rfl (idx_spec hx2).1 (idx_spec hx2).2.1 Try.underlying22 Try.sizeOf3).yield _) ?_
        refine GH1.take 3 rfl (by decide +kernel) (by decide +kernel) (by decide +kernel) rfl rfl (by decide) (YT.elt (α := Int) rfl hx2 rfl Try.isAgg3) ?_
        refine GH1.take 4 rfl (by decide +kernel) (by decide +kernel) (by decide +kernel) rfl rfl (by decide) ((PY.move rfl).yield _) ?_
        refine GH1.take 5 rfl (by decide +kernel) (by decide +kernel) (by decide +kernel) rfl rfl (by decide) ((PY.move rfl).yield _) ?_
        refine GH1.take 6 rfl (by decide +kernel) (by decide +kernel) (by decide +kernel) rfl rfl (by decide) ((PY.index rfl rfl rfl (idx_spec hx3).1 (idx_spec hx3).2.1 Try.underlying22 Try.sizeOf3).yield _) ?_
        refine GH1.take 7 rfl (by decide +kernel) (by decide +kernel) (by decide +kernel) rfl rfl (by decide) (YT.elt (α := Int) rfl hx3 rfl Try.isAgg3) ?_
        refine GH1.take 8 rfl (by decide +kernel) (by decide +kernel) (by decide +kernel) rfl rfl (by decide) ((PY.bin rfl rfl rfl).yield _) ?_
        refine GH1.done (by decide +kernel) ?_
        change GW _ _ _ _ _ _
        refine GW.cond rfl (fun hc3 => ?_) (fun hc3 => ?_)
        · have H := condT hc3 H
          refine GW.seq ?_
          refine GW.region ?_
          refine GL.py (PY.assign rfl) rfl rfl ?_
          refine GL.nil ?_
          change GW _ _ _ _ _ _
          refine GW.ret ?_
          cases H
          exact And.intro ret_ne (And.intro rfl (RetQ.mk (.inl rfl) [.val (.bool false)] _ [] ⟨Res.tmp rfl, trivial⟩ trivial rfl ⟨rfl, rfl⟩))
        · have H := condF hc3 H
          refine GW.skip ?_
          change GW _ _ _ _ _ _
          refine GW.region ?_
          refine GL.py (PY.bin rfl rfl rfl) rfl rfl ?_
          refine GL.py (PY.move rfl) rfl rfl ?_
          refine GL.nil ?_
          cases H
          exact And.intro rfl ⟨⟨rfl, rfl, rfl, rfl, trivial⟩, trivial⟩
      · have H := condF hc2 H
        refine GW.exit ?_
        cases H
        exact And.intro exit_ne (And.intro rfl ⟨trivial, trivial⟩)
    · cases e4 with
      | ret r2 =>
        obtain ⟨rfl, hx⟩ := hx
        have H := Hr r2 rfl
        subst H
        exact hx
      | brk b2 =>
        obtain ⟨rfl, hs⟩ := hx
        have H := Hb b2 rfl
        change GW _ _ _ _ _ _
        refine GW.weak _ hs ?_
        refine GW.weak ⟨[], []⟩ ⟨trivial, trivial⟩ ?_
        change GW _ _ _ _ _ _
        refine GW.seq ?_
        refine GW.region ?_
        refine GL.py (PY.assign rfl) rfl rfl ?_
        refine GL.nil ?_
        change GW _ _ _ _ _ _
        refine GW.ret ?_
        have H := Option.some.inj H
        subst H
        exact RetQ.mk (.inl rfl) [.val (.bool true)] _ [] ⟨Res.tmp rfl, trivial⟩ trivial rfl ⟨rfl, rfl⟩

theorem array_Inner_ok (fu : Nat) (a0 : SArray) (b0 : SArray) (r : (Int × Int)) (H : F.array_Inner fu a0 b0 = some r) : GM Try.prog 9 [.agg [.sl (List.length a0.Dims) (encs a0.Dims), .sl (List.length a0.Data) (encs a0.Data)], .agg [.sl (List.length b0.Dims) (encs b0.Dims), .sl (List.length b0.Data) (encs b0.Data)]] [] (fun g st => g = .tup [.val (.int .i64 r.1), .val (.int .i64 r.2)] ∧ st = []) := by
  unfold F.array_Inner at H
  refine GM.of (N := 46) Try.func9 rfl rfl rfl (fun cx => ?_)
  change GW _ _ _ _ _ _
  refine GW.seq ?_
  refine GW.region ?_
  refine GL.e1 (W := []) (EF.box 0 rfl rfl rfl) rfl rfl ?_
  refine GL.e1 (W := []) (EF.box 1 rfl rfl rfl) rfl rfl ?_
  refine GL.py (PY.assign rfl) rfl rfl ?_
  refine GL.py (PY.assign rfl) rfl rfl ?_
  refine GL.nil ?_
  change GW _ _ _ _ _ _
  refine GW.seq ?_
  refine GW.seq ?_
  obtain ⟨r1, hr1, H⟩ := bind_some H
  refine GW.region ?_
  refine GL.y (YL.loadAgg rfl rfl rfl Try.isAgg25 Try.sizeOf25 (Nat.le_of_ble_eq_true rfl) rfl) rfl rfl ?_
  refine GL.e (W := []) (EF.call 4 Try.call14 rfl (mapO_cons rfl rfl) (array_Wrong_ok fu a0 r1 hr1) (by rintro _ _ ⟨rfl, rfl⟩; rfl)) rfl rfl ?_
  rintro _ ⟨_, _, ⟨rfl, rfl⟩, rfl⟩
  refine GL.py (PY.assign rfl) rfl rfl ?_
  refine GL.nil ?_
  change GW _ _ _ _ _ _
  refine GW.seq ?_
  refine GW.region ?_
  refine GL.py (PY.move rfl) rfl rfl ?_
  refine GL.py (PY.bin rfl rfl rfl) rfl rfl ?_
  refine GL.nil ?_
  change GW _ _ _ _ _ _
  refine GW.cond rfl (fun hc1 => ?_) (fun hc1 => ?_)
  · have H := condT hc1 H
    refine GW.seq ?_
    refine GW.region ?_
    refine GL.py (PY.move rfl) rfl rfl ?_
    refine GL.py (PY.assign rfl) rfl rfl ?_
    refine GL.py (PY.assign rfl) rfl rfl ?_
    refine GL.nil ?_
    change GW _ _ _ _ _ _
    refine GW.ret ?_
    have H := Option.some.inj H
    subst H
    exact RetQ.mk (.inl rfl) [.val (.int .i64 0), .val (.int .i64 r1)] _ [] ⟨Res.tmp rfl, Res.tmp rfl, trivial⟩ trivial (fz_tup (fz_go rfl (fz_go rfl rfl))) ⟨rfl, rfl⟩
  · have H := condF hc1 H
    refine GW.skip ?_
    change GW _ _ _ _ _ _
    refine GW.seq ?_
    refine GW.seq ?_
    obtain ⟨r3, hr3, H⟩ := bind_some H
    refine GW.region ?_
    refine GL.y (YL.loadAgg rfl rfl rfl Try.isAgg25 Try.sizeOf25 (Nat.le_of_ble_eq_true rfl) rfl) rfl rfl ?_
    refine GL.e (W := []) (EF.call 4 Try.call14 rfl (mapO_cons rfl rfl) (array_Wrong_ok fu b0 r3 hr3) (by rintro _ _ ⟨rfl, rfl⟩; rfl)) rfl rfl ?_
    rintro _ ⟨_, _, ⟨rfl, rfl⟩, rfl⟩
    refine GL.py (PY.assign rfl) rfl rfl ?_
    refine GL.nil ?_
    change GW _ _ _ _ _ _
    refine GW.seq ?_
    refine GW.region ?_
    refine GL.py (PY.move rfl) rfl rfl ?_
    refine GL.py (PY.bin rfl rfl rfl) rfl rfl ?_
    refine GL.nil ?_
    change GW _ _ _ _ _ _
    refine GW.cond rfl (fun hc2 => ?_) (fun hc2 => ?_)
    · have H := condT hc2 H
      refine GW.seq ?_
      refine GW.region ?_
      refine GL.py (PY.move rfl) rfl rfl ?_
      refine GL.py (PY.assign rfl) rfl rfl ?_
      refine GL.py (PY.assign rfl) rfl rfl ?_
      refine GL.nil ?_
      change GW _ _ _ _ _ _
      refine GW.ret ?_
      have H := Option.some.inj H
      subst H
      exact RetQ.mk (.inl rfl) [.val (.int .i64 0), .val (.int .i64 r3)] _ [] ⟨Res.tmp rfl, Res.tmp rfl, trivial⟩ trivial (fz_tup (fz_go rfl (fz_go rfl rfl))) ⟨rfl, rfl⟩
    · have H := condF hc2 H
      refine GW.skip ?_
      change GW _ _ _ _ _ _
      refine GW.seq ?_
      refine GW.seq ?_
      obtain ⟨r5, hr5, H⟩ := bind_some H
      refine GW.region ?_
      refine GL.py (PY.field rfl rfl Try.underlying25 rfl Try.sizeOf22 (by decide)) rfl rfl ?_
      refine GL.y (YL.loadN rfl rfl rfl Try.isAgg22 rfl rfl) rfl rfl ?_
      refine GL.py (PY.field rfl rfl Try.underlying25 rfl Try.sizeOf22 (by decide)) rfl rfl ?_
      refine GL.y (YL.loadN rfl rfl rfl Try.isAgg22 rfl rfl) rfl rfl ?_
      refine GL.e (W := []) (EF.call 4 Try.call32 rfl (mapO_cons rfl (mapO_cons rfl rfl)) (slices_Equal_ok fu a0.Dims b0.Dims r5 hr5) (by rintro _ _ ⟨rfl, rfl⟩; rfl)) rfl rfl ?_
      rintro _ ⟨_, _, ⟨rfl, rfl⟩, rfl⟩
      refine GL.py (PY.un rfl rfl) rfl rfl ?_
      refine GL.nil ?_
      change GW _ _ _ _ _ _
      refine GW.cond rfl (fun hc3 => ?_) (fun hc3 => ?_)
      · have H := condT hc3 H
        refine GW.seq ?_
        refine GW.region ?_
        refine GL.py (PY.assign rfl) rfl rfl ?_
        refine GL.py (PY.assign rfl) rfl rfl ?_
        refine GL.nil ?_
        change GW _ _ _ _ _ _
        refine GW.ret ?_
        have H := Option.some.inj H
        subst H
        exact RetQ.mk (.inl rfl) [.val (.int .i64 0), .val (.int .i64 6)] _ [] ⟨Res.tmp rfl, Res.tmp rfl, trivial⟩ trivial (fz_tup (fz_go rfl (fz_go rfl rfl))) ⟨rfl, rfl⟩
      · have H := condF hc3 H
        refine GW.skip ?_
        change GW _ _ _ _ _ _
        refine GW.seq ?_
        refine GW.region ?_
        refine GL.py (PY.assign rfl) rfl rfl ?_
        refine GL.nil ?_
        change GW _ _ _ _ _ _
        refine GW.seq ?_
        refine GW.seq ?_
        refine GW.region ?_
        refine GL.py (PY.field rfl rfl Try.underlying25 rfl Try.sizeOf23 (by decide)) rfl rfl ?_
        refine GL.y (YL.loadN rfl rfl rfl Try.isAgg23 rfl rfl) rfl rfl ?_
        refine GL.py (PY.len rfl rfl Try.underlying23) rfl rfl ?_
        refine GL.py (PY.move rfl) rfl rfl ?_
        refine GL.nil ?_
        change GW _ _ _ _ _ _
        refine GW.block ?_
        obtain ⟨e5, he5, H⟩ := bind_some H
        refine GW.weak ((fun (q : Int × Int) => (⟨[(3, .loc 1 0), (8, .val (.int .i64 q.1)), (28, .sl (List.length a0.Data) (encs a0.Data)), (29, .val (.int .i64 (List.length a0.Data : Int))), (30, .val (.int .i64 q.2))], [(1, ⟨25, false, true, false, 0, [.sl (List.length b0.Dims) (encs b0.Dims), .sl (List.length b0.Data) (encs b0.Data)]⟩)]⟩ : St)) (0, 0)) ⟨⟨rfl, rfl, rfl, rfl, rfl, trivial⟩, ⟨rfl, trivial⟩⟩ ?_
        refine GW.loopF (fun (q : Int × Int) => (⟨[(3, .loc 1 0), (8, .val (.int .i64 q.1)), (28, .sl (List.length a0.Data) (encs a0.Data)), (29, .val (.int .i64 (List.length a0.Data : Int))), (30, .val (.int .i64 q.2))], [(1, ⟨25, false, true, false, 0, [.sl (List.length b0.Dims) (encs b0.Dims), .sl (List.length b0.Data) (encs b0.Data)]⟩)]⟩ : St)) (QB (.exit 0) (fun (q : Int) => (⟨[(8, .val (.int .i64 q))], []⟩ : St))) he5 (fun x o hb => ?_) (fun ex s2 _ hx => ?_)
        · obtain ⟨s7, i8⟩ := x
          have H := hb
          unfold F.array_Inner_l1 at H
          try dsimp only at H
          refine GW.weak ⟨[(3, .loc 1 0), (8, .val (.int .i64 s7)), (28, .sl (List.length a0.Data) (encs a0.Data)), (29, .val (.int .i64 (List.length a0.Data : Int))), (30, .val (.int .i64 i8))], [(1, ⟨25, false, true, false, 0, [.sl (List.length b0.Dims) (encs b0.Dims), .sl (List.length b0.Data) (encs b0.Data)]⟩)]⟩ ⟨⟨rfl, rfl, rfl, rfl, rfl, trivial⟩, ⟨rfl, trivial⟩⟩ ?_
          refine GW.seq ?_
          refine GW.region ?_
          refine GL.py (PY.bin rfl rfl rfl) rfl rfl ?_
          refine GL.nil ?_
          change GW _ _ _ _ _ _
          refine GW.seq ?_
          refine GW.cond rfl (fun hc4 => ?_) (fun hc4 => ?_)
          · have H := condT hc4 H
            refine GW.skip ?_
            change GW _ _ _ _ _ _
            refine GW.seq ?_
            refine GW.block ?_
            refine GW.seq ?_
            obtain ⟨x10, hx10, H⟩ := bind_some H
            refine GW.region ?_
            refine GL.py (PY.move rfl) rfl rfl ?_
            refine GL.py (PY.index rfl rfl rfl (idx_spec hx10).1 (idx_spec hx10).2.1 Try.underlying23 Try.sizeOf2) rfl rfl ?_
            refine GL.y (YT.elt (α := Int) rfl hx10 rfl Try.isAgg2) rfl rfl ?_
            refine GL.py (PY.assign rfl) rfl rfl ?_
            refine GL.py (PY.assign rfl) rfl rfl ?_
            refine GL.nil ?_
            change GW _ _ _ _ _ _
            obtain ⟨x11, hx11, H⟩ := bind_some H
            refine GW.region ?_
            refine GL.py (PY.move rfl) rfl rfl ?_
            refine GL.py (PY.move rfl) rfl rfl ?_
            refine GL.py (PY.field rfl rfl Try.underlying25 rfl Try.sizeOf23 (by decide)) rfl rfl ?_
            refine GL.y (YL.loadN rfl rfl rfl Try.isAgg23 rfl rfl) rfl rfl ?_
            refine GL.py (PY.move rfl) rfl rfl ?_
            refine GL.py (PY.index rfl rfl rfl (idx_spec hx11).1 (idx_spec hx11).2.1 Try.underlying23 Try.sizeOf2) rfl rfl ?_
            refine GL.y (YT.elt (α := Int) rfl hx11 rfl Try.isAgg2) rfl rfl ?_
            refine GL.py (PY.bin rfl rfl rfl) rfl rfl ?_
            refine GL.py (PY.bin rfl rfl rfl) rfl rfl ?_
            refine GL.py (PY.assign rfl) rfl rfl ?_
            refine GL.nil ?_
            change GW _ _ _ _ _ _
            refine GW.region ?_
            refine GL.py (PY.bin rfl rfl rfl) rfl rfl ?_
            refine GL.py (PY.move rfl) rfl rfl ?_
            refine GL.nil ?_
            cases H
            exact And.intro rfl ⟨⟨rfl, rfl, rfl, rfl, rfl, trivial⟩, ⟨rfl, trivial⟩⟩
          · have H := condF hc4 H
            refine GW.exit ?_
            cases H
            exact And.intro exit_ne (And.intro rfl ⟨⟨rfl, trivial⟩, trivial⟩)
        · obtain ⟨rfl, hs⟩ := hx
          obtain ⟨s9, rfl⟩ : ∃ z, z = e5 := ⟨_, rfl⟩
          change GW _ _ _ _ _ _
          refine GW.weak _ hs ?_
          refine GW.weak ⟨[(8, .val (.int .i64 s9))], []⟩ ⟨⟨rfl, trivial⟩, trivial⟩ ?_
          change GW _ _ _ _ _ _
          refine GW.seq ?_
          refine GW.region ?_
          refine GL.py (PY.move rfl) rfl rfl ?_
          refine GL.py (PY.assign rfl) rfl rfl ?_
          refine GL.py (PY.assign rfl) rfl rfl ?_
          refine GL.nil ?_
          change GW _ _ _ _ _ _
          refine GW.ret ?_
          have H := Option.some.inj H
          subst H
          exact RetQ.mk (.inl rfl) [.val (.int .i64 s9), .val (.int .i64 0)] _ [] ⟨Res.tmp rfl, Res.tmp rfl, trivial⟩ trivial (fz_tup (fz_go rfl (fz_go rfl rfl))) ⟨rfl, rfl⟩

theorem adjointref1_Size_ok (fu : Nat) (dims0 : (List Int)) (r : (Int × Int)) (H : F.adjointref1_Size fu dims0 = some r) : GM Try.prog 43 [.sl (List.length dims0) (encs dims0)] [] (fun g st => g = .tup [.val (.int .i64 r.1), .val (.int .i64 r.2)] ∧ st = []) := by
  unfold F.adjointref1_Size at H
  refine GM.of (N := 42) Try.func43 rfl rfl rfl (fun cx => ?_)
  change GW _ _ _ _ _ _
  refine GW.seq ?_
  refine GW.region ?_
  refine GL.py (PY.assign rfl) rfl rfl ?_
  refine GL.py (PY.assign rfl) rfl rfl ?_
  refine GL.nil ?_
  change GW _ _ _ _ _ _
  refine GW.seq ?_
  refine GW.seq ?_
  refine GW.region ?_
  refine GL.py (PY.move rfl) rfl rfl ?_
  refine GL.py (PY.len rfl rfl Try.underlying22) rfl rfl ?_
  refine GL.py (PY.bin rfl rfl rfl) rfl rfl ?_
  refine GL.nil ?_
  change GW _ _ _ _ _ _
  refine GW.cond rfl (fun hc1 => ?_) (fun hc1 => ?_)
  · have H := condT hc1 H
    refine GW.seq ?_
    refine GW.region ?_
    refine GL.py (PY.assign rfl) rfl rfl ?_
    refine GL.py (PY.assign rfl) rfl rfl ?_
    refine GL.nil ?_
    change GW _ _ _ _ _ _
    refine GW.ret ?_
    have H := Option.some.inj H
    subst H
    exact RetQ.mk (.inl rfl) [.val (.int .i64 0), .val (.int .i64 3)] _ [] ⟨Res.tmp rfl, Res.tmp rfl, trivial⟩ trivial (fz_tup (fz_go rfl (fz_go rfl rfl))) ⟨rfl, rfl⟩
  · have H := condF hc1 H
    refine GW.skip ?_
    change GW _ _ _ _ _ _
    refine GW.seq ?_
    refine GW.region ?_
    refine GL.py (PY.assign rfl) rfl rfl ?_
    refine GL.nil ?_
    change GW _ _ _ _ _ _
    refine GW.seq ?_
    refine GW.seq ?_
    refine GW.region ?_
    refine GL.py (PY.move rfl) rfl rfl ?_
    refine GL.py (PY.len rfl rfl Try.underlying22) rfl rfl ?_
    refine GL.py (PY.move rfl) rfl rfl ?_
    refine GL.nil ?_
    change GW _ _ _ _ _ _
    refine GW.block ?_
    obtain ⟨e7, he7, Hb, Hr⟩ := bindE_some H
    refine GW.weak ((fun (q : Bool × Int) => (⟨[(0, .sl (List.length dims0) (encs dims0)), (4, .val (.bool q.1)), (13, .sl (List.length dims0) (encs dims0)), (14, .val (.int .i64 (List.length dims0 : Int))), (15, .val (.int .i64 q.2))], []⟩ : St)) (false, 0)) ⟨⟨rfl, rfl, rfl, rfl, rfl, trivial⟩, trivial⟩ ?_
    refine GW.loopF (fun (q : Bool × Int) => (⟨[(0, .sl (List.length dims0) (encs dims0)), (4, .val (.bool q.1)), (13, .sl (List.length dims0) (encs dims0)), (14, .val (.int .i64 (List.length dims0 : Int))), (15, .val (.int .i64 q.2))], []⟩ : St)) (QJ (.exit 0) (fun (q : Bool) => (⟨[(0, .sl (List.length dims0) (encs dims0)), (4, .val (.bool q))], []⟩ : St)) (fun r2 _ s2 => RetQ Try.prog Try.f43 (fun g st => g = .tup [.val (.int .i64 r2.1), .val (.int .i64 r2.2)] ∧ st = []) .ret s2)) he7 (fun x o hb => ?_) (fun ex s2 _ hx => ?_)
    · obtain ⟨none1, i2⟩ := x
      have H := hb
      unfold F.adjointref1_Size_l1 at H
      try dsimp only at H
      refine GW.weak ⟨[(0, .sl (List.length dims0) (encs dims0)), (4, .val (.bool none1)), (13, .sl (List.length dims0) (encs dims0)), (14, .val (.int .i64 (List.length dims0 : Int))), (15, .val (.int .i64 i2))], []⟩ ⟨⟨rfl, rfl, rfl, rfl, rfl, trivial⟩, trivial⟩ ?_
      refine GW.seq ?_
      refine GW.region ?_
      refine GL.py (PY.bin rfl rfl rfl) rfl rfl ?_
      refine GL.nil ?_
      change GW _ _ _ _ _ _
      refine GW.seq ?_
      refine GW.cond rfl (fun hc2 => ?_) (fun hc2 => ?_)
      · have H := condT hc2 H
        refine GW.skip ?_
        change GW _ _ _ _ _ _
        refine GW.seq ?_
        refine GW.block ?_
        refine GW.seq ?_
        obtain ⟨x4, hx4, H⟩ := bind_some H
        refine GW.region ?_
        refine GL.py (PY.index rfl rfl rfl (idx_spec hx4).1 (idx_spec hx4).2.1 Try.underlying22 Try.sizeOf3) rfl rfl ?_
        refine GL.y (YT.elt (α := Int) rfl hx4 rfl Try.isAgg3) rfl rfl ?_
        refine GL.py (PY.assign rfl) rfl rfl ?_
        refine GL.nil ?_
        change GW _ _ _ _ _ _
        refine GW.seq ?_
        refine GW.seq ?_
        obtain ⟨e6, he6, H⟩ := bind_some H
        obtain ⟨i5, rfl⟩ : ∃ z, z = e6 := ⟨_, rfl⟩
        refine GW.mono (Q := QB .normal (fun (q : Bool) => (⟨[(0, .sl (List.length dims0) (encs dims0)), (4, .val (.bool none1)), (6, .val (.int .i64 x4)), (13, .sl (List.length dims0) (encs dims0)), (14, .val (.int .i64 (List.length dims0 : Int))), (15, .val (.int .i64 i2)), (24, .val (.bool q))], []⟩ : St)) i5) ?_ ?_
        · have H := he6
          refine (Bool.eq_false_or_eq_true (decide (x4 < 0))).elim (fun hg3 => ?_) (fun hg3 => ?_)
          · have H := condT hg3 H
            refine GW.region ?_
            refine GL.py (PY.move rfl) rfl rfl ?_
            refine GL.py (PY.bin rfl rfl rfl) rfl rfl ?_
            refine GL.py (PY.move rfl) rfl rfl ?_
            refine GL.lit 21 rfl hg3 ?_
            refine GL.no rfl ?_
            refine GL.no rfl ?_
            refine GL.py (PY.pickT rfl rfl) rfl rfl ?_
            refine GL.nil ?_
            cases H
            exact And.intro rfl ⟨⟨rfl, rfl, rfl, rfl, rfl, rfl, rfl, trivial⟩, trivial⟩
          · have H := condF hg3 H
            refine GW.region ?_
            refine GL.py (PY.move rfl) rfl rfl ?_
            refine GL.py (PY.bin rfl rfl rfl) rfl rfl ?_
            refine GL.py (PY.move rfl) rfl rfl ?_
            refine GL.lit 21 rfl hg3 ?_
            refine GL.py (PY.move rfl) rfl rfl ?_
            refine GL.py (PY.bin rfl rfl rfl) rfl rfl ?_
            refine GL.py (PY.pickF rfl rfl) rfl rfl ?_
            refine GL.nil ?_
            cases H
            exact And.intro rfl ⟨⟨rfl, rfl, rfl, rfl, rfl, rfl, rfl, trivial⟩, trivial⟩
        · rintro _ s2 ⟨rfl, hs⟩
          change GW _ _ _ _ _ _
          refine GW.weak _ hs ?_
          refine GW.weak ⟨[(0, .sl (List.length dims0) (encs dims0)), (4, .val (.bool none1)), (6, .val (.int .i64 x4)), (13, .sl (List.length dims0) (encs dims0)), (14, .val (.int .i64 (List.length dims0 : Int))), (15, .val (.int .i64 i2)), (24, .val (.bool i5))], []⟩ ⟨⟨rfl, rfl, rfl, rfl, rfl, rfl, rfl, trivial⟩, trivial⟩ ?_
          change GW _ _ _ _ _ _
          refine GW.cond rfl (fun hc4 => ?_) (fun hc4 => ?_)
          · have H := condT hc4 H
            refine GW.seq ?_
            refine GW.region ?_
            refine GL.py (PY.assign rfl) rfl rfl ?_
            refine GL.py (PY.assign rfl) rfl rfl ?_
            refine GL.nil ?_
            change GW _ _ _ _ _ _
            refine GW.ret ?_
            cases H
            exact And.intro ret_ne (And.intro rfl (RetQ.mk (.inl rfl) [.val (.int .i64 0), .val (.int .i64 4)] _ [] ⟨Res.tmp rfl, Res.tmp rfl, trivial⟩ trivial (fz_tup (fz_go rfl (fz_go rfl rfl))) ⟨rfl, rfl⟩))
          · have H := condF hc4 H
            refine GW.skip ?_
            change GW _ _ _ _ _ _
            refine GW.seq ?_
            refine GW.region ?_
            refine GL.py (PY.move rfl) rfl rfl ?_
            refine GL.py (PY.bin rfl rfl rfl) rfl rfl ?_
            refine GL.nil ?_
            change GW _ _ _ _ _ _
            refine GW.cond rfl (fun hc5 => ?_) (fun hc5 => ?_)
            · have H := condT hc5 H
              refine GW.region ?_
              refine GL.py (PY.assign rfl) rfl rfl ?_
              refine GL.nil ?_
              change GW _ _ _ _ _ _
              refine GW.region ?_
              refine GL.py (PY.bin rfl rfl rfl) rfl rfl ?_
              refine GL.py (PY.move rfl) rfl rfl ?_
              refine GL.nil ?_
              cases H
              exact And.intro rfl ⟨⟨rfl, rfl, rfl, rfl, rfl, trivial⟩, trivial⟩
            · have H := condF hc5 H
              refine GW.skip ?_
              change GW _ _ _ _ _ _
              refine GW.region ?_
              refine GL.py (PY.bin rfl rfl rfl) rfl rfl ?_
              refine GL.py (PY.move rfl) rfl rfl ?_
              refine GL.nil ?_
              cases H
              exact And.intro rfl ⟨⟨rfl, rfl, rfl, rfl, rfl, trivial⟩, trivial⟩
      · have H := condF hc2 H
        refine GW.exit ?_
        cases H
        exact And.intro exit_ne (And.intro rfl ⟨⟨rfl, rfl, trivial⟩, trivial⟩)
    · cases e7 with
      | ret r2 =>
        obtain ⟨rfl, hx⟩ := hx
        have H := Hr r2 rfl
        subst H
        exact hx
      | brk b2 =>
        obtain ⟨rfl, hs⟩ := hx
        have H := Hb b2 rfl
        obtain ⟨none3, rfl⟩ : ∃ z, z = b2 := ⟨_, rfl⟩
        change GW _ _ _ _ _ _
        refine GW.weak _ hs ?_
        refine GW.weak ⟨[(0, .sl (List.length dims0) (encs dims0)), (4, .val (.bool none3))], []⟩ ⟨⟨rfl, rfl, trivial⟩, trivial⟩ ?_
        change GW _ _ _ _ _ _
        refine GW.seq ?_
        refine GW.seq ?_
        refine GW.region ?_
        refine GL.py (PY.move rfl) rfl rfl ?_
        refine GL.nil ?_
        change GW _ _ _ _ _ _
        refine GW.cond rfl (fun hc8 => ?_) (fun hc8 => ?_)
        · have H := condT hc8 H
          refine GW.seq ?_
          refine GW.region ?_
          refine GL.py (PY.assign rfl) rfl rfl ?_
          refine GL.py (PY.assign rfl) rfl rfl ?_
          refine GL.nil ?_
          change GW _ _ _ _ _ _
          refine GW.ret ?_
          have H := Option.some.inj H
          subst H
          exact RetQ.mk (.inl rfl) [.val (.int .i64 0), .val (.int .i64 0)] _ [] ⟨Res.tmp rfl, Res.tmp rfl, trivial⟩ trivial (fz_tup (fz_go rfl (fz_go rfl rfl))) ⟨rfl, rfl⟩
        · have H := condF hc8 H
          refine GW.skip ?_
          change GW _ _ _ _ _ _
          refine GW.seq ?_
          refine GW.region ?_
          refine GL.py (PY.assign rfl) rfl rfl ?_
          refine GL.nil ?_
          change GW _ _ _ _ _ _
          refine GW.seq ?_
          refine GW.seq ?_
          refine GW.region ?_
          refine GL.py (PY.move rfl) rfl rfl ?_
          refine GL.py (PY.len rfl rfl Try.underlying22) rfl rfl ?_
          refine GL.py (PY.move rfl) rfl rfl ?_
          refine GL.nil ?_
          change GW _ _ _ _ _ _
          refine GW.block ?_
          obtain ⟨e11, he11, Hb, Hr⟩ := bindE_some H
          refine GW.weak ((fun (q : Int × Int) => (⟨[(7, .val (.int .i64 q.1)), (29, .sl (List.length dims0) (encs dims0)), (30, .val (.int .i64 (List.length dims0 : Int))), (31, .val (.int .i64 q.2))], []⟩ : St)) (1, 0)) ⟨⟨rfl, rfl, rfl, rfl, trivial⟩, trivial⟩ ?_
          refine GW.loopF (fun (q : Int × Int) => (⟨[(7, .val (.int .i64 q.1)), (29, .sl (List.length dims0) (encs dims0)), (30, .val (.int .i64 (List.length dims0 : Int))), (31, .val (.int .i64 q.2))], []⟩ : St)) (QJ (.exit 2) (fun (q : Int) => (⟨[(7, .val (.int .i64 q))], []⟩ : St)) (fun r2 _ s2 => RetQ Try.prog Try.f43 (fun g st => g = .tup [.val (.int .i64 r2.1), .val (.int .i64 r2.2)] ∧ st = []) .ret s2)) he11 (fun x o hb => ?_) (fun ex s2 _ hx => ?_)
          · obtain ⟨n6, i7⟩ := x
            have H := hb
            unfold F.adjointref1_Size_l2 at H
            try dsimp only at H
            refine GW.weak ⟨[(7, .val (.int .i64 n6)), (29, .sl (List.length dims0) (encs dims0)), (30, .val (.int .i64 (List.length dims0 : Int))), (31, .val (.int .i64 i7))], []⟩ ⟨⟨rfl, rfl, rfl, rfl, trivial⟩, trivial⟩ ?_
            refine GW.seq ?_
            refine GW.region ?_
            refine GL.py (PY.bin rfl rfl rfl) rfl rfl ?_
            refine GL.nil ?_
            change GW _ _ _ _ _ _
            refine GW.seq ?_
            refine GW.cond rfl (fun hc9 => ?_) (fun hc9 => ?_)
            · have H := condT hc9 H
              refine GW.skip ?_
              change GW _ _ _ _ _ _
              refine GW.seq ?_
              refine GW.block ?_
              refine GW.seq ?_
              obtain ⟨x9, hx9, H⟩ := bind_some H
              refine GW.region ?_
              refine GL.py (PY.index rfl rfl rfl (idx_spec hx9).1 (idx_spec hx9).2.1 Try.underlying22 Try.sizeOf3) rfl rfl ?_
              refine GL.y (YT.elt (α := Int) rfl hx9 rfl Try.isAgg3) rfl rfl ?_
              refine GL.py (PY.assign rfl) rfl rfl ?_
              refine GL.nil ?_
              change GW _ _ _ _ _ _
              refine GW.seq ?_
              refine GW.region ?_
              refine GL.py (PY.move rfl) rfl rfl ?_
              refine GL.py (PY.move rfl) rfl rfl ?_
              refine GL.py (PY.bin rfl rfl rfl) rfl rfl ?_
              refine GL.py (PY.assign rfl) rfl rfl ?_
              refine GL.nil ?_
              change GW _ _ _ _ _ _
              refine GW.seq ?_
              refine GW.region ?_
              refine GL.py (PY.move rfl) rfl rfl ?_
              refine GL.py (PY.bin rfl rfl rfl) rfl rfl ?_
              refine GL.nil ?_
              change GW _ _ _ _ _ _
              refine GW.cond rfl (fun hc10 => ?_) (fun hc10 => ?_)
              · have H := condT hc10 H
                refine GW.seq ?_
                refine GW.region ?_
                refine GL.py (PY.assign rfl) rfl rfl ?_
                refine GL.py (PY.assign rfl) rfl rfl ?_
                refine GL.nil ?_
                change GW _ _ _ _ _ _
                refine GW.ret ?_
                cases H
                exact And.intro ret_ne (And.intro rfl (RetQ.mk (.inl rfl) [.val (.int .i64 0), .val (.int .i64 5)] _ [] ⟨Res.tmp rfl, Res.tmp rfl, trivial⟩ trivial (fz_tup (fz_go rfl (fz_go rfl rfl))) ⟨rfl, rfl⟩))
              · have H := condF hc10 H
                refine GW.skip ?_
                change GW _ _ _ _ _ _
                refine GW.region ?_
                refine GL.py (PY.bin rfl rfl rfl) rfl rfl ?_
                refine GL.py (PY.move rfl) rfl rfl ?_
                refine GL.nil ?_
                cases H
                exact And.intro rfl ⟨⟨rfl, rfl, rfl, rfl, trivial⟩, trivial⟩
            · have H := condF hc9 H
              refine GW.exit ?_
              cases H
              exact And.intro exit_ne (And.intro rfl ⟨⟨rfl, trivial⟩, trivial⟩)
          · cases e11 with
            | ret r2 =>
              obtain ⟨rfl, hx⟩ := hx
              have H := Hr r2 rfl
              subst H
              exact hx
            | brk b2 =>
              obtain ⟨rfl, hs⟩ := hx
              have H := Hb b2 rfl
              obtain ⟨n8, rfl⟩ : ∃ z, z = b2 := ⟨_, rfl⟩
              change GW _ _ _ _ _ _
              refine GW.weak _ hs ?_
              refine GW.weak ⟨[(7, .val (.int .i64 n8))], []⟩ ⟨⟨rfl, trivial⟩, trivial⟩ ?_
              change GW _ _ _ _ _ _
              refine GW.seq ?_
              refine GW.region ?_
              refine GL.py (PY.move rfl) rfl rfl ?_
              refine GL.py (PY.assign rfl) rfl rfl ?_
              refine GL.py (PY.assign rfl) rfl rfl ?_
              refine GL.nil ?_
              change GW _ _ _ _ _ _
              refine GW.ret ?_
              have H := Option.some.inj H
              subst H
              exact RetQ.mk (.inl rfl) [.val (.int .i64 n8), .val (.int .i64 0)] _ [] ⟨Res.tmp rfl, Res.tmp rfl, trivial⟩ trivial (fz_tup (fz_go rfl (fz_go rfl rfl))) ⟨rfl, rfl⟩

theorem adjointref2_Wrong_ok (fu : Nat) (a0 : SArray) (r : Int) (H : F.adjointref2_Wrong fu a0 = some r) : GM Try.prog 15 [.agg [.sl (List.length a0.Dims) (encs a0.Dims), .sl (List.length a0.Data) (encs a0.Data)]] [] (fun g st => g = .val (.int .i64 r) ∧ st = []) := by
  unfold F.adjointref2_Wrong at H
  refine GM.of (N := 19) Try.func15 rfl rfl rfl (fun cx => ?_)
  change GW _ _ _ _ _ _
  refine GW.seq ?_
  refine GW.region ?_
  refine GL.e1 (W := []) (EF.box 0 rfl rfl rfl) rfl rfl ?_
  refine GL.py (PY.assign rfl) rfl rfl ?_
  refine GL.nil ?_
  change GW _ _ _ _ _ _
  refine GW.seq ?_
  obtain ⟨r1, hr1, H⟩ := bind_some H
  refine GW.region ?_
  refine GL.py (PY.field rfl rfl Try.underlying25 rfl Try.sizeOf22 (by decide)) rfl rfl ?_
  refine GL.y (YL.loadN rfl rfl rfl Try.isAgg22 rfl rfl) rfl rfl ?_
  refine GL.e (W := []) (EF.call 4 Try.call43 rfl (mapO_cons rfl rfl) (adjointref1_Size_ok fu a0.Dims r1 hr1) (by rintro _ _ ⟨rfl, rfl⟩; rfl)) rfl rfl ?_
  rintro _ ⟨_, _, ⟨rfl, rfl⟩, rfl⟩
  refine GL.py (PY.move rfl) rfl rfl ?_
  refine GL.py (PY.extract rfl rfl) rfl rfl ?_
  refine GL.py (PY.extract rfl rfl) rfl rfl ?_
  refine GL.py (PY.assign rfl) rfl rfl ?_
  refine GL.py (PY.assign rfl) rfl rfl ?_
  refine GL.nil ?_
  change GW _ _ _ _ _ _
  refine GW.seq ?_
  refine GW.seq ?_
  refine GW.region ?_
  refine GL.py (PY.move rfl) rfl rfl ?_
  refine GL.py (PY.bin rfl rfl rfl) rfl rfl ?_
  refine GL.nil ?_
  change GW _ _ _ _ _ _
  refine GW.cond rfl (fun hc1 => ?_) (fun hc1 => ?_)
  · have H := condT hc1 H
    refine GW.seq ?_
    refine GW.region ?_
    refine GL.py (PY.move rfl) rfl rfl ?_
    refine GL.py (PY.assign rfl) rfl rfl ?_
    refine GL.nil ?_
    change GW _ _ _ _ _ _
    refine GW.ret ?_
    have H := Option.some.inj H
    subst H
    exact RetQ.mk (.inl rfl) [.val (.int .i64 r1.2)] _ [] ⟨Res.tmp rfl, trivial⟩ trivial rfl ⟨rfl, rfl⟩
  · have H := condF hc1 H
    refine GW.skip ?_
    change GW _ _ _ _ _ _
    refine GW.seq ?_
    refine GW.seq ?_
    refine GW.region ?_
    refine GL.py (PY.field rfl rfl Try.underlying25 rfl Try.sizeOf23 (by decide)) rfl rfl ?_
    refine GL.y (YL.loadN rfl rfl rfl Try.isAgg23 rfl rfl) rfl rfl ?_
    refine GL.py (PY.len rfl rfl Try.underlying23) rfl rfl ?_
    refine GL.py (PY.move rfl) rfl rfl ?_
    refine GL.py (PY.bin rfl rfl rfl) rfl rfl ?_
    refine GL.nil ?_
    change GW _ _ _ _ _ _
    refine GW.cond rfl (fun hc2 => ?_) (fun hc2 => ?_)
    · have H := condT hc2 H
      refine GW.seq ?_
      refine GW.region ?_
      refine GL.py (PY.assign rfl) rfl rfl ?_
      refine GL.nil ?_
      change GW _ _ _ _ _ _
      refine GW.ret ?_
      have H := Option.some.inj H
      subst H
      exact RetQ.mk (.inl rfl) [.val (.int .i64 6)] _ [] ⟨Res.tmp rfl, trivial⟩ trivial rfl ⟨rfl, rfl⟩
    · have H := condF hc2 H
      refine GW.skip ?_
      change GW _ _ _ _ _ _
      refine GW.seq ?_
      refine GW.region ?_
      refine GL.py (PY.assign rfl) rfl rfl ?_
      refine GL.nil ?_
      change GW _ _ _ _ _ _
      refine GW.ret ?_
      have H := Option.some.inj H
      subst H
      exact RetQ.mk (.inl rfl) [.val (.int .i64 0)] _ [] ⟨Res.tmp rfl, trivial⟩ trivial rfl ⟨rfl, rfl⟩

theorem adjointref2_SameList_ok (fu : Nat) (a0 : (List Int)) (b0 : (List Int)) (r : Bool) (H : F.adjointref2_SameList fu a0 b0 = some r) : GM Try.prog 13 [.sl (List.length a0) (encs a0), .sl (List.length b0) (encs b0)] [] (fun g st => g = .val (.bool r) ∧ st = []) := by
  unfold F.adjointref2_SameList at H
  refine GM.of (N := 26) Try.func13 rfl rfl rfl (fun cx => ?_)
  change GW _ _ _ _ _ _
  refine GW.seq ?_
  refine GW.region ?_
  refine GL.py (PY.assign rfl) rfl rfl ?_
  refine GL.nil ?_
  change GW _ _ _ _ _ _
  refine GW.seq ?_
  refine GW.seq ?_
  refine GW.region ?_
  refine GL.py (PY.move rfl) rfl rfl ?_
  refine GL.py (PY.len rfl rfl Try.underlying22) rfl rfl ?_
  refine GL.py (PY.move rfl) rfl rfl ?_
  refine GL.py (PY.len rfl rfl Try.underlying22) rfl rfl ?_
  refine GL.py (PY.bin rfl rfl rfl) rfl rfl ?_
  refine GL.nil ?_
  change GW _ _ _ _ _ _
  refine GW.cond rfl (fun hc1 => ?_) (fun hc1 => ?_)
  · have H := condT hc1 H
    refine GW.seq ?_
    refine GW.region ?_
    refine GL.py (PY.assign rfl) rfl rfl ?_
    refine GL.nil ?_
    change GW _ _ _ _ _ _
    refine GW.ret ?_
    have H := Option.some.inj H
    subst H
    exact RetQ.mk (.inl rfl) [.val (.bool false)] _ [] ⟨Res.tmp rfl, trivial⟩ trivial rfl ⟨rfl, rfl⟩
  · have H := condF hc1 H
    refine GW.skip ?_
    change GW _ _ _ _ _ _
    refine GW.seq ?_
    refine GW.seq ?_
    refine GW.region ?_
    refine GL.py (PY.move rfl) rfl rfl ?_
    refine GL.py (PY.len rfl rfl Try.underlying22) rfl rfl ?_
    refine GL.py (PY.move rfl) rfl rfl ?_
    refine GL.nil ?_
    change GW _ _ _ _ _ _
    refine GW.block ?_
    obtain ⟨e4, he4, Hb, Hr⟩ := bindE_some H
    refine GW.weak ((fun (q : Int) => (⟨[(0, .sl (List.length a0) (encs a0)), (1, .sl (List.length b0) (encs b0)), (12, .val (.int .i64 (List.length a0 : Int))), (13, .val (.int .i64 q))], []⟩ : St)) 0) ⟨⟨rfl, rfl, rfl, rfl, trivial⟩, trivial⟩ ?_
    refine GW.loopF (fun (q : Int) => (⟨[(0, .sl (List.length a0) (encs a0)), (1, .sl (List.length b0) (encs b0)), (12, .val (.int .i64 (List.length a0 : Int))), (13, .val (.int .i64 q))], []⟩ : St)) (QJ (.exit 0) (fun (q : Unit) => (⟨[], []⟩ : St)) (fun r2 _ s2 => RetQ Try.prog Try.f13 (fun g st => g = .val (.bool r2) ∧ st = []) .ret s2)) he4 (fun x o hb => ?_) (fun ex s2 _ hx => ?_)
    · obtain ⟨i1, rfl⟩ : ∃ z, z = x := ⟨_, rfl⟩
      have H := hb
      unfold F.adjointref2_SameList_l1 at H
      try dsimp only at H
      refine GW.weak ⟨[(0, .sl (List.length a0) (encs a0)), (1, .sl (List.length b0) (encs b0)), (12, .val (.int .i64 (List.length a0 : Int))), (13, .val (.int .i64 i1))], []⟩ ⟨⟨rfl, rfl, rfl, rfl, trivial⟩, trivial⟩ ?_
      refine GW.seq ?_
      refine GW.region ?_
      refine GL.py (PY.bin rfl rfl rfl) rfl rfl ?_
      refine GL.nil ?_
      change GW _ _ _ _ _ _
      refine GW.seq ?_
      refine GW.cond rfl (fun hc2 => ?_) (fun hc2 => ?_)
      · have H := condT hc2 H
        refine GW.skip ?_
        change GW _ _ _ _ _ _
        refine GW.seq ?_
        refine GW.block ?_
        refine GW.seq ?_
        refine GW.region ?_
        refine GL.py (PY.move rfl) rfl rfl ?_
        refine GL.py (PY.assign rfl) rfl rfl ?_
        refine GL.nil ?_
        change GW _ _ _ _ _ _
        refine GW.seq ?_
        obtain ⟨x2, hx2, H⟩ := bind_some H
        obtain ⟨x3, hx3, H⟩ := bind_some H
        refine GW.draws [] mixed ?_
        change GH1 _ _ _ _ _ _ 9 _ _
        refine GH1.take 0 rfl (by decide +kernel) (by decide +kernel) (by decide +kernel) rfl rfl (by decide) ((PY.move rfl).yield _) ?_
        refine GH1.take 1 rfl (by decide +kernel) (by decide +kernel) (by decide +kernel) rfl rfl (by decide) ((PY.move rfl).yield _) ?_
        refine GH1.take 2 rfl (by decide +kernel) (by decide +kernel) (by decide +kernel) rfl rfl (by decide) ((PY.index rfl rfl rfl (idx_spec hx2).1 (idx_spec hx2).2.1 Try.underlying22 Try.sizeOf3).yield _) ?_
        refine GH1.take 3 rfl (by decide +kernel) (by decide +kernel) (by decide +kernel) rfl rfl (by decide) (YT.elt (α := Int) rfl hx2 rfl Try.isAgg3) ?_
        refine GH1.take 4 rfl (by decide +kernel) (by decide +kernel) (by decide +kernel) rfl rfl (by decide) ((PY.move rfl).yield _) ?_
        refine GH1.take 5 rfl (by decide +kernel) (by decide +kernel) (by decide +kernel) rfl rfl (by decide) ((PY.move rfl).yield _) ?_
        refine GH1.take 6 rfl (by decide +kernel) (by decide +kernel) (by decide +kernel) rfl rfl (by decide) ((PY.index rfl rfl rfl (idx_spec hx3).1 (idx_spec hx3).2.1 Try.underlying22 Try.sizeOf3).yield _) ?_
        refine GH1.take 7 rfl (by decide +kernel) (by decide +kernel) (by decide +kernel) rfl rfl (by decide) (YT.elt (α := Int) rfl hx3 rfl Try.isAgg3) ?_
        refine GH1.take 8 rfl (by decide +kernel) (by decide +kernel) (by decide +kernel) rfl rfl (by decide) ((PY.bin rfl rfl rfl).yield _) ?_
        refine GH1.done (by decide +kernel) ?_
        change GW _ _ _ _ _ _
        refine GW.cond rfl (fun hc3 => ?_) (fun hc3 => ?_)
        · have H := condT hc3 H
          refine GW.seq ?_
          refine GW.region ?_
          refine GL.py (PY.assign rfl) rfl rfl ?_
          refine GL.nil ?_
          change GW _ _ _ _ _ _
          refine GW.ret ?_
          cases H
          exact And.intro ret_ne (And.intro rfl (RetQ.mk (.inl rfl) [.val (.bool false)] _ [] ⟨Res.tmp rfl, trivial⟩ trivial rfl ⟨rfl, rfl⟩))
        · have H := condF hc3 H
          refine GW.skip ?_
          change GW _ _ _ _ _ _
          refine GW.region ?_
          refine GL.py (PY.bin rfl rfl rfl) rfl rfl ?_
          refine GL.py (PY.move rfl) rfl rfl ?_
          refine GL.nil ?_
          cases H
          exact And.intro rfl ⟨⟨rfl, rfl, rfl, rfl, trivial⟩, trivial⟩
      · have H := condF hc2 H
        refine GW.exit ?_
        cases H
        exact And.intro exit_ne (And.intro rfl ⟨trivial, trivial⟩)
    · cases e4 with
      | ret r2 =>
        obtain ⟨rfl, hx⟩ := hx
        have H := Hr r2 rfl
        subst H
        exact hx
      | brk b2 =>
        obtain ⟨rfl, hs⟩ := hx
        have H := Hb b2 rfl
        change GW _ _ _ _ _ _
        refine GW.weak _ hs ?_
        refine GW.weak ⟨[], []⟩ ⟨trivial, trivial⟩ ?_
        change GW _ _ _ _ _ _
        refine GW.seq ?_
        refine GW.region ?_
        refine GL.py (PY.assign rfl) rfl rfl ?_
        refine GL.nil ?_
        change GW _ _ _ _ _ _
        refine GW.ret ?_
        have H := Option.some.inj H
        subst H
        exact RetQ.mk (.inl rfl) [.val (.bool true)] _ [] ⟨Res.tmp rfl, trivial⟩ trivial rfl ⟨rfl, rfl⟩

theorem adjointref2_Inner_ok (fu : Nat) (a0 : SArray) (b0 : SArray) (r : (Int × Int)) (H : F.adjointref2_Inner fu a0 b0 = some r) : GM Try.prog 10 [.agg [.sl (List.length a0.Dims) (encs a0.Dims), .sl (List.length a0.Data) (encs a0.Data)], .agg [.sl (List.length b0.Dims) (encs b0.Dims), .sl (List.length b0.Data) (encs b0.Data)]] [] (fun g st => g = .tup [.val (.int .i64 r.1), .val (.int .i64 r.2)] ∧ st = []) := by
  unfold F.adjointref2_Inner at H
  refine GM.of (N := 47) Try.func10 rfl rfl rfl (fun cx => ?_)
  change GW _ _ _ _ _ _
  refine GW.seq ?_
  refine GW.region ?_
  refine GL.e1 (W := []) (EF.box 0 rfl rfl rfl) rfl rfl ?_
  refine GL.e1 (W := []) (EF.box 1 rfl rfl rfl) rfl rfl ?_
  refine GL.py (PY.assign rfl) rfl rfl ?_
  refine GL.py (PY.assign rfl) rfl rfl ?_
  refine GL.nil ?_
  change GW _ _ _ _ _ _
  refine GW.seq ?_
  refine GW.seq ?_
  obtain ⟨r1, hr1, H⟩ := bind_some H
  refine GW.region ?_
  refine GL.y (YL.loadAgg rfl rfl rfl Try.isAgg25 Try.sizeOf25 (Nat.le_of_ble_eq_true rfl) rfl) rfl rfl ?_
  refine GL.e (W := []) (EF.call 4 Try.call15 rfl (mapO_cons rfl rfl) (adjointref2_Wrong_ok fu a0 r1 hr1) (by rintro _ _ ⟨rfl, rfl⟩; rfl)) rfl rfl ?_
  rintro _ ⟨_, _, ⟨rfl, rfl⟩, rfl⟩
  refine GL.py (PY.assign rfl) rfl rfl ?_
  refine GL.nil ?_
  change GW _ _ _ _ _ _
  refine GW.seq ?_
  refine GW.region ?_
  refine GL.py (PY.move rfl) rfl rfl ?_
  refine GL.py (PY.bin rfl rfl rfl) rfl rfl ?_
  refine GL.nil ?_
  change GW _ _ _ _ _ _
  refine GW.cond rfl (fun hc1 => ?_) (fun hc1 => ?_)
  · have H := condT hc1 H
    refine GW.seq ?_
    refine GW.region ?_
    refine GL.py (PY.move rfl) rfl rfl ?_
    refine GL.py (PY.assign rfl) rfl rfl ?_
    refine GL.py (PY.assign rfl) rfl rfl ?_
    refine GL.nil ?_
    change GW _ _ _ _ _ _
    refine GW.ret ?_
    have H := Option.some.inj H
    subst H
    exact RetQ.mk (.inl rfl) [.val (.int .i64 0), .val (.int .i64 r1)] _ [] ⟨Res.tmp rfl, Res.tmp rfl, trivial⟩ trivial (fz_tup (fz_go rfl (fz_go rfl rfl))) ⟨rfl, rfl⟩
  · have H := condF hc1 H
    refine GW.skip ?_
    change GW _ _ _ _ _ _
    refine GW.seq ?_
    refine GW.seq ?_
    obtain ⟨r3, hr3, H⟩ := bind_some H
    refine GW.region ?_
    refine GL.y (YL.loadAgg rfl rfl rfl Try.isAgg25 Try.sizeOf25 (Nat.le_of_ble_eq_true rfl) rfl) rfl rfl ?_
    refine GL.e (W := []) (EF.call 4 Try.call15 rfl (mapO_cons rfl rfl) (adjointref2_Wrong_ok fu b0 r3 hr3) (by rintro _ _ ⟨rfl, rfl⟩; rfl)) rfl rfl ?_
    rintro _ ⟨_, _, ⟨rfl, rfl⟩, rfl⟩
    refine GL.py (PY.assign rfl) rfl rfl ?_
    refine GL.nil ?_
    change GW _ _ _ _ _ _
    refine GW.seq ?_
    refine GW.region ?_
    refine GL.py (PY.move rfl) rfl rfl ?_
    refine GL.py (PY.bin rfl rfl rfl) rfl rfl ?_
    refine GL.nil ?_
    change GW _ _ _ _ _ _
    refine GW.cond rfl (fun hc2 => ?_) (fun hc2 => ?_)
    · have H := condT hc2 H
      refine GW.seq ?_
      refine GW.region ?_
      refine GL.py (PY.move rfl) rfl rfl ?_
      refine GL.py (PY.assign rfl) rfl rfl ?_
      refine GL.py (PY.assign rfl) rfl rfl ?_
      refine GL.nil ?_
      change GW _ _ _ _ _ _
      refine GW.ret ?_
      have H := Option.some.inj H
      subst H
      exact RetQ.mk (.inl rfl) [.val (.int .i64 0), .val (.int .i64 r3)] _ [] ⟨Res.tmp rfl, Res.tmp rfl, trivial⟩ trivial (fz_tup (fz_go rfl (fz_go rfl rfl))) ⟨rfl, rfl⟩
    · have H := condF hc2 H
      refine GW.skip ?_
      change GW _ _ _ _ _ _
      refine GW.seq ?_
      refine GW.seq ?_
      obtain ⟨r5, hr5, H⟩ := bind_some H
      refine GW.region ?_
      refine GL.py (PY.field rfl rfl Try.underlying25 rfl Try.sizeOf22 (by decide)) rfl rfl ?_
      refine GL.y (YL.loadN rfl rfl rfl Try.isAgg22 rfl rfl) rfl rfl ?_
      refine GL.py (PY.field rfl rfl Try.underlying25 rfl Try.sizeOf22 (by decide)) rfl rfl ?_
      refine GL.y (YL.loadN rfl rfl rfl Try.isAgg22 rfl rfl) rfl rfl ?_
      refine GL.e (W := []) (EF.call 4 Try.call13 rfl (mapO_cons rfl (mapO_cons rfl rfl)) (adjointref2_SameList_ok fu a0.Dims b0.Dims r5 hr5) (by rintro _ _ ⟨rfl, rfl⟩; rfl)) rfl rfl ?_
      rintro _ ⟨_, _, ⟨rfl, rfl⟩, rfl⟩
      refine GL.py (PY.un rfl rfl) rfl rfl ?_
      refine GL.nil ?_
      change GW _ _ _ _ _ _
      refine GW.cond rfl (fun hc3 => ?_) (fun hc3 => ?_)
      · have H := condT hc3 H
        refine GW.seq ?_
        refine GW.region ?_
        refine GL.py (PY.assign rfl) rfl rfl ?_
        refine GL.py (PY.assign rfl) rfl rfl ?_
        refine GL.nil ?_
        change GW _ _ _ _ _ _
        refine GW.ret ?_
        have H := Option.some.inj H
        subst H
        exact RetQ.mk (.inl rfl) [.val (.int .i64 0), .val (.int .i64 6)] _ [] ⟨Res.tmp rfl, Res.tmp rfl, trivial⟩ trivial (fz_tup (fz_go rfl (fz_go rfl rfl))) ⟨rfl, rfl⟩
      · have H := condF hc3 H
        refine GW.skip ?_
        change GW _ _ _ _ _ _
        refine GW.seq ?_
        refine GW.region ?_
        refine GL.py (PY.assign rfl) rfl rfl ?_
        refine GL.nil ?_
        change GW _ _ _ _ _ _
        refine GW.seq ?_
        refine GW.seq ?_
        refine GW.region ?_
        refine GL.py (PY.field rfl rfl Try.underlying25 rfl Try.sizeOf23 (by decide)) rfl rfl ?_
        refine GL.y (YL.loadN rfl rfl rfl Try.isAgg23 rfl rfl) rfl rfl ?_
        refine GL.py (PY.len rfl rfl Try.underlying23) rfl rfl ?_
        refine GL.py (PY.move rfl) rfl rfl ?_
        refine GL.nil ?_
        change GW _ _ _ _ _ _
        refine GW.block ?_
        obtain ⟨e5, he5, H⟩ := bind_some H
        refine GW.weak ((fun (q : Int × Int) => (⟨[(2, .loc 0 0), (3, .loc 1 0), (8, .val (.int .i64 q.1)), (28, .val (.int .i64 (List.length a0.Data : Int))), (29, .val (.int .i64 q.2))], [(0, ⟨25, false, true, false, 0, [.sl (List.length a0.Dims) (encs a0.Dims), .sl (List.length a0.Data) (encs a0.Data)]⟩), (1, ⟨25, false, true, false, 0, [.sl (List.length b0.Dims) (encs b0.Dims), .sl (List.length b0.Data) (encs b0.Data)]⟩)]⟩ : St)) (0, 0)) ⟨⟨rfl, rfl, rfl, rfl, rfl, trivial⟩, ⟨rfl, rfl, trivial⟩⟩ ?_
        refine GW.loopF (fun (q : Int × Int) => (⟨[(2, .loc 0 0), (3, .loc 1 0), (8, .val (.int .i64 q.1)), (28, .val (.int .i64 (List.length a0.Data : Int))), (29, .val (.int .i64 q.2))], [(0, ⟨25, false, true, false, 0, [.sl (List.length a0.Dims) (encs a0.Dims), .sl (List.length a0.Data) (encs a0.Data)]⟩), (1, ⟨25, false, true, false, 0, [.sl (List.length b0.Dims) (encs b0.Dims), .sl (List.length b0.Data) (encs b0.Data)]⟩)]⟩ : St)) (QB (.exit 0) (fun (q : Int) => (⟨[(8, .val (.int .i64 q))], []⟩ : St))) he5 (fun x o hb => ?_) (fun ex s2 _ hx => ?_)
        · obtain ⟨s7, i8⟩ := x
          have H := hb
          unfold F.adjointref2_Inner_l1 at H
          try dsimp only at H
          refine GW.weak ⟨[(2, .loc 0 0), (3, .loc 1 0), (8, .val (.int .i64 s7)), (28, .val (.int .i64 (List.length a0.Data : Int))), (29, .val (.int .i64 i8))], [(0, ⟨25, false, true, false, 0, [.sl (List.length a0.Dims) (encs a0.Dims), .sl (List.length a0.Data) (encs a0.Data)]⟩), (1, ⟨25, false, true, false, 0, [.sl (List.length b0.Dims) (encs b0.Dims), .sl (List.length b0.Data) (encs b0.Data)]⟩)]⟩ ⟨⟨rfl, rfl, rfl, rfl, rfl, trivial⟩, ⟨rfl, rfl, trivial⟩⟩ ?_
          refine GW.seq ?_
          refine GW.region ?_
          refine GL.py (PY.bin rfl rfl rfl) rfl rfl ?_
          refine GL.nil ?_
          change GW _ _ _ _ _ _
          refine GW.seq ?_
          refine GW.cond rfl (fun hc4 => ?_) (fun hc4 => ?_)
          · have H := condT hc4 H
            refine GW.skip ?_
            change GW _ _ _ _ _ _
            refine GW.seq ?_
            refine GW.block ?_
            refine GW.seq ?_
            refine GW.region ?_
            refine GL.py (PY.move rfl) rfl rfl ?_
            refine GL.py (PY.assign rfl) rfl rfl ?_
            refine GL.nil ?_
            change GW _ _ _ _ _ _
            obtain ⟨x10, hx10, H⟩ := bind_some H
            obtain ⟨x11, hx11, H⟩ := bind_some H
            refine GW.draws [] mixed ?_
            change GH1 _ _ _ _ _ _ 14 _ _
            refine GH1.take 0 rfl (by decide +kernel) (by decide +kernel) (by decide +kernel) rfl rfl (by decide) ((PY.move rfl).yield _) ?_
            refine GH1.take 1 rfl (by decide +kernel) (by decide +kernel) (by decide +kernel) rfl rfl (by decide) ((PY.field rfl rfl Try.underlying25 rfl Try.sizeOf23 (by decide)).yield _) ?_
            refine GH1.take 2 rfl (by decide +kernel) (by decide +kernel) (by decide +kernel) rfl rfl (by decide) (YL.loadN rfl rfl rfl Try.isAgg23 rfl rfl) ?_
            refine GH1.take 3 rfl (by decide +kernel) (by decide +kernel) (by decide +kernel) rfl rfl (by decide) ((PY.move rfl).yield _) ?_
            refine GH1.take 4 rfl (by decide +kernel) (by decide +kernel) (by decide +kernel) rfl rfl (by decide) ((PY.index rfl rfl rfl (idx_spec hx10).1 (idx_spec hx10).2.1 Try.underlying23 Try.sizeOf2).yield _) ?_
            refine GH1.take 5 rfl (by decide +kernel) (by decide +kernel) (by decide +kernel) rfl rfl (by decide) (YT.elt (α := Int) rfl hx10 rfl Try.isAgg2) ?_
            refine GH1.take 6 rfl (by decide +kernel) (by decide +kernel) (by decide +kernel) rfl rfl (by decide) ((PY.field rfl rfl Try.underlying25 rfl Try.sizeOf23 (by decide)).yield _) ?_
            refine GH1.take 7 rfl (by decide +kernel) (by decide +kernel) (by decide +kernel) rfl rfl (by decide) (YL.loadN rfl rfl rfl Try.isAgg23 rfl rfl) ?_
            refine GH1.take 8 rfl (by decide +kernel) (by decide +kernel) (by decide +kernel) rfl rfl (by decide) ((PY.move rfl).yield _) ?_
            refine GH1.take 9 rfl (by decide +kernel) (by decide +kernel) (by decide +kernel) rfl rfl (by decide) ((PY.index rfl rfl rfl (idx_spec hx11).1 (idx_spec hx11).2.1 Try.underlying23 Try.sizeOf2).yield _) ?_
            refine GH1.take 10 rfl (by decide +kernel) (by decide +kernel) (by decide +kernel) rfl rfl (by decide) (YT.elt (α := Int) rfl hx11 rfl Try.isAgg2) ?_
            refine GH1.take 11 rfl (by decide +kernel) (by decide +kernel) (by decide +kernel) rfl rfl (by decide) ((PY.bin rfl rfl rfl).yield _) ?_
            refine GH1.take 12 rfl (by decide +kernel) (by decide +kernel) (by decide +kernel) rfl rfl (by decide) ((PY.bin rfl rfl rfl).yield _) ?_
            refine GH1.take 13 rfl (by decide +kernel) (by decide +kernel) (by decide +kernel) rfl rfl (by decide) ((PY.assign rfl).yield _) ?_
            refine GH1.done (by decide +kernel) ?_
            change GW _ _ _ _ _ _
            refine GW.region ?_
            refine GL.py (PY.bin rfl rfl rfl) rfl rfl ?_
            refine GL.py (PY.move rfl) rfl rfl ?_
            refine GL.nil ?_
            cases H
            exact And.intro rfl ⟨⟨rfl, rfl, rfl, rfl, rfl, trivial⟩, ⟨rfl, rfl, trivial⟩⟩
          · have H := condF hc4 H
            refine GW.exit ?_
            cases H
            exact And.intro exit_ne (And.intro rfl ⟨⟨rfl, trivial⟩, trivial⟩)
        · obtain ⟨rfl, hs⟩ := hx
          obtain ⟨s9, rfl⟩ : ∃ z, z = e5 := ⟨_, rfl⟩
          change GW _ _ _ _ _ _
          refine GW.weak _ hs ?_
          refine GW.weak ⟨[(8, .val (.int .i64 s9))], []⟩ ⟨⟨rfl, trivial⟩, trivial⟩ ?_
          change GW _ _ _ _ _ _
          refine GW.seq ?_
          refine GW.region ?_
          refine GL.py (PY.move rfl) rfl rfl ?_
          refine GL.py (PY.assign rfl) rfl rfl ?_
          refine GL.py (PY.assign rfl) rfl rfl ?_
          refine GL.nil ?_
          change GW _ _ _ _ _ _
          refine GW.ret ?_
          have H := Option.some.inj H
          subst H
          exact RetQ.mk (.inl rfl) [.val (.int .i64 s9), .val (.int .i64 0)] _ [] ⟨Res.tmp rfl, Res.tmp rfl, trivial⟩ trivial (fz_tup (fz_go rfl (fz_go rfl rfl))) ⟨rfl, rfl⟩

theorem adjointlaw2_ArrayInner_ok (fu : Nat) (a0 : SArray) (b0 : SArray) (r : Bool) (H : F.adjointlaw2_ArrayInner fu a0 b0 = some r) : GM Try.prog 3 [.agg [.sl (List.length a0.Dims) (encs a0.Dims), .sl (List.length a0.Data) (encs a0.Data)], .agg [.sl (List.length b0.Dims) (encs b0.Dims), .sl (List.length b0.Data) (encs b0.Data)]] [] (fun g st => g = .val (.bool r) ∧ st = []) := by
  unfold F.adjointlaw2_ArrayInner at H
  refine GM.of (N := 29) Try.func3 rfl rfl rfl (fun cx => ?_)
  change GW _ _ _ _ _ _
  refine GW.seq ?_
  refine GW.region ?_
  refine GL.e1 (W := []) (EF.box 0 rfl rfl rfl) rfl rfl ?_
  refine GL.e1 (W := []) (EF.box 1 rfl rfl rfl) rfl rfl ?_
  refine GL.py (PY.assign rfl) rfl rfl ?_
  refine GL.nil ?_
  change GW _ _ _ _ _ _
  refine GW.seq ?_
  obtain ⟨r1, hr1, H⟩ := bind_some H
  refine GW.region ?_
  refine GL.y (YL.loadAgg rfl rfl rfl Try.isAgg25 Try.sizeOf25 (Nat.le_of_ble_eq_true rfl) rfl) rfl rfl ?_
  refine GL.y (YL.loadAgg rfl rfl rfl Try.isAgg25 Try.sizeOf25 (Nat.le_of_ble_eq_true rfl) rfl) rfl rfl ?_
  refine GL.e (W := []) (EF.call 4 Try.call9 rfl (mapO_cons rfl (mapO_cons rfl rfl)) (array_Inner_ok fu a0 b0 r1 hr1) (by rintro _ _ ⟨rfl, rfl⟩; rfl)) rfl rfl ?_
  rintro _ ⟨_, _, ⟨rfl, rfl⟩, rfl⟩
  refine GL.py (PY.move rfl) rfl rfl ?_
  refine GL.py (PY.extract rfl rfl) rfl rfl ?_
  refine GL.py (PY.extract rfl rfl) rfl rfl ?_
  refine GL.py (PY.assign rfl) rfl rfl ?_
  refine GL.py (PY.assign rfl) rfl rfl ?_
  refine GL.nil ?_
  change GW _ _ _ _ _ _
  refine GW.seq ?_
  obtain ⟨r3, hr3, H⟩ := bind_some H
  refine GW.region ?_
  refine GL.y (YL.loadAgg rfl rfl rfl Try.isAgg25 Try.sizeOf25 (Nat.le_of_ble_eq_true rfl) rfl) rfl rfl ?_
  refine GL.y (YL.loadAgg rfl rfl rfl Try.isAgg25 Try.sizeOf25 (Nat.le_of_ble_eq_true rfl) rfl) rfl rfl ?_
  refine GL.e (W := []) (EF.call 4 Try.call10 rfl (mapO_cons rfl (mapO_cons rfl rfl)) (adjointref2_Inner_ok fu a0 b0 r3 hr3) (by rintro _ _ ⟨rfl, rfl⟩; rfl)) rfl rfl ?_
  rintro _ ⟨_, _, ⟨rfl, rfl⟩, rfl⟩
  refine GL.py (PY.move rfl) rfl rfl ?_
  refine GL.py (PY.extract rfl rfl) rfl rfl ?_
  refine GL.py (PY.extract rfl rfl) rfl rfl ?_
  refine GL.py (PY.assign rfl) rfl rfl ?_
  refine GL.py (PY.assign rfl) rfl rfl ?_
  refine GL.nil ?_
  change GW _ _ _ _ _ _
  refine GW.seq ?_
  obtain ⟨e2, he2, H⟩ := bind_some H
  obtain ⟨i5, rfl⟩ : ∃ z, z = e2 := ⟨_, rfl⟩
  refine GW.mono (Q := QB .normal (fun (q : Bool) => (⟨[(4, .val (.bool q))], []⟩ : St)) i5) ?_ ?_
  · have H := he2
    refine (Bool.eq_false_or_eq_true (r1.1 == r3.1)).elim (fun hg1 => ?_) (fun hg1 => ?_)
    · have H := condT hg1 H
      refine GW.region ?_
      refine GL.py (PY.move rfl) rfl rfl ?_
      refine GL.py (PY.move rfl) rfl rfl ?_
      refine GL.py (PY.bin rfl rfl rfl) rfl rfl ?_
      refine GL.py (PY.move rfl) rfl rfl ?_
      refine GL.lit 24 rfl hg1 ?_
      refine GL.py (PY.move rfl) rfl rfl ?_
      refine GL.py (PY.move rfl) rfl rfl ?_
      refine GL.py (PY.bin rfl rfl rfl) rfl rfl ?_
      refine GL.py (PY.pickT rfl rfl) rfl rfl ?_
      refine GL.py (PY.assign rfl) rfl rfl ?_
      refine GL.nil ?_
      cases H
      exact And.intro rfl ⟨⟨rfl, trivial⟩, trivial⟩
    · have H := condF hg1 H
      refine GW.region ?_
      refine GL.py (PY.move rfl) rfl rfl ?_
      refine GL.py (PY.move rfl) rfl rfl ?_
      refine GL.py (PY.bin rfl rfl rfl) rfl rfl ?_
      refine GL.py (PY.move rfl) rfl rfl ?_
      refine GL.lit 24 rfl hg1 ?_
      refine GL.no rfl ?_
      refine GL.no rfl ?_
      refine GL.no rfl ?_
      refine GL.py (PY.pickF rfl rfl) rfl rfl ?_
      refine GL.py (PY.assign rfl) rfl rfl ?_
      refine GL.nil ?_
      cases H
      exact And.intro rfl ⟨⟨rfl, trivial⟩, trivial⟩
  · rintro _ s2 ⟨rfl, hs⟩
    change GW _ _ _ _ _ _
    refine GW.weak _ hs ?_
    refine GW.weak ⟨[(4, .val (.bool i5))], []⟩ ⟨⟨rfl, trivial⟩, trivial⟩ ?_
    change GW _ _ _ _ _ _
    refine GW.ret ?_
    have H := Option.some.inj H
    subst H
    exact RetQ.mk (.inl rfl) [.val (.bool i5)] _ [] ⟨Res.tmp rfl, trivial⟩ trivial rfl ⟨rfl, rfl⟩


end Go.Proofs.Ytcbaolgciiieeaa
