/-
  Each function returns what its partial function of plain data says, where that says something (printed by wip/tools/gen.py).
-/
import Derived.Test.YtcbaolgciiieeaaCcF
import Derived.Test.YtcbaolgciiieeaaProg
set_option linter.unusedSectionVars false
set_option linter.unusedSimpArgs false
namespace Go.Proofs.Ytcbaolgciiieeaa
open Go.AM
set_option maxHeartbeats 4000000
set_option maxRecDepth 20000
set_option linter.unusedVariables false
theorem mixed : Try.prog.follows .mixedOrders = true := by kernel_rfl
theorem info3 : (Try.prog.info? 3).map (fun i => (i.zero, i.size, i.bytes)) = some (some (.int .i64 0), 1, 8) := by kernel_rfl
theorem info111 : (Try.prog.info? 111).map (fun i => (i.zero, i.size, i.bytes)) = some (some (.agg #[.int .i64 0, .int .i64 0]), 2, 16) := by kernel_rfl
theorem build67 : (Try.prog.info? 67).map (·.zero) = some (some (.agg #[.int .i64 0, .slice none 0 0, .slice none 0 0])) ∧ ∀ fs, Try.prog.underlying 67 = some (.struct fs) → fs.toList.mapM (fun f : Field => (Try.prog.info? f.type).map fun i => (f.offset, i.size)) = some [(0, 1), (1, 1), (2, 1)] := ⟨by kernel_rfl, fun fs h => by rw [Try.underlying67] at h; cases h; kernel_rfl⟩
theorem build111 : (Try.prog.info? 111).map (·.zero) = some (some (.agg #[.int .i64 0, .int .i64 0])) ∧ ∀ fs, Try.prog.underlying 111 = some (.struct fs) → fs.toList.mapM (fun f : Field => (Try.prog.info? f.type).map fun i => (f.offset, i.size)) = some [(0, 1), (1, 1)] := ⟨by kernel_rfl, fun fs h => by rw [Try.underlying111] at h; cases h; kernel_rfl⟩
theorem view_Size_1_ok (fu : Nat) (d0 : Int) (r : Bool) (H : F.view_Size_1 fu d0 = some r) : GM Try.prog 63 [.val (.int .i64 d0)] [] (fun g st => g = .val (.bool r) ∧ st = []) := by
  unfold F.view_Size_1 at H
  refine GM.of (N := 9) Try.func63 rfl rfl rfl (fun cx hro => ?_)
  apply GW.seq
  apply GW.region
  refine GL.py (PY.assign rfl) rfl rfl ?_
  apply GL.nil
  apply GW.seq
  obtain ⟨e2, he2, H⟩ := bind_some H
  obtain ⟨i1, rfl⟩ : ∃ z, z = e2 := ⟨_, rfl⟩
  refine GW.mono (Q := QB .normal (fun (q : Bool) => (⟨[(2, .val (.bool q))], [], []⟩ : St)) i1) ?_ ?_
  · have H := he2
    apply GW.region
    refine GL.py (PY.move rfl) rfl rfl ?_
    refine GL.py (PY.bin rfl rfl rfl) rfl rfl ?_
    refine GL.py (PY.move rfl) rfl rfl ?_
    refine (Bool.eq_false_or_eq_true (decide (d0 < 0))).elim (fun hg1 => ?_) (fun hg1 => ?_)
    · have H := condT hg1 H
      refine GL.lit 5 rfl hg1 ?_
      refine GL.nou rfl rfl ?_
      refine GL.nou rfl rfl ?_
      refine GL.py (PY.pickT rfl rfl) rfl rfl ?_
      refine GL.py (PY.assign rfl) rfl rfl ?_
      apply GL.nil
      cases H
      exact And.intro rfl ⟨⟨rfl, trivial⟩, trivial, rfl⟩
    · have H := condF hg1 H
      refine GL.lit 5 rfl hg1 ?_
      refine GL.py (PY.move rfl) rfl rfl ?_
      refine GL.py (PY.bin rfl rfl rfl) rfl rfl ?_
      refine GL.py (PY.pickF rfl rfl) rfl rfl ?_
      refine GL.py (PY.assign rfl) rfl rfl ?_
      apply GL.nil
      cases H
      exact And.intro rfl ⟨⟨rfl, trivial⟩, trivial, rfl⟩
  · rintro _ s2 ⟨rfl, hs⟩
    refine GW.weak _ hs ?_
    refine GW.weak ⟨[(2, .val (.bool i1))], [], []⟩ ⟨⟨rfl, trivial⟩, trivial, rfl⟩ ?_
    refine GW.ret ?_
    have H := Option.some.inj H
    subst H
    exact RetQ.mk (.inl rfl) [.val (.bool i1)] _ [] ⟨Res.tmp rfl, trivial⟩ trivial rfl ⟨rfl, rfl⟩
theorem slices_IndexFunc_ok (fu : Nat) (s0 : (List Int)) (r : Int) (H : F.slices_IndexFunc fu s0 = some r) : GM Try.prog 89 [.sl (List.length s0) (encs s0), .clo 63 []] [] (fun g st => g = .val (.int .i64 r) ∧ st = []) := by
  unfold F.slices_IndexFunc at H
  refine GM.of (N := 19) Try.func89 rfl rfl rfl (fun cx hro => ?_)
  apply GW.seq
  apply GW.region
  refine GL.py (PY.assign rfl) rfl rfl ?_
  apply GL.nil
  apply GW.seq
  apply GW.seq
  apply GW.region
  refine GL.py (PY.move rfl) rfl rfl ?_
  refine GL.py (PY.len rfl rfl Try.underlying22) rfl rfl ?_
  refine GL.py (PY.move rfl) rfl rfl ?_
  apply GL.nil
  apply GW.block
  obtain ⟨e3, he3, Hb, Hr⟩ := bindE_some H
  refine GW.weak ((fun (q : Int) => (⟨[(0, .sl (List.length s0) (encs s0)), (1, .clo 63 []), (7, .val (.int .i64 (List.length s0 : Int))), (8, .val (.int .i64 q))], [], []⟩ : St)) 0) ⟨⟨rfl, rfl, rfl, rfl, trivial⟩, trivial, rfl⟩ ?_
  refine GW.loopF (fun (q : Int) => (⟨[(0, .sl (List.length s0) (encs s0)), (1, .clo 63 []), (7, .val (.int .i64 (List.length s0 : Int))), (8, .val (.int .i64 q))], [], []⟩ : St)) (QJ (.exit 0) (fun (q : Unit) => (⟨[], [], []⟩ : St)) (fun r2 _ s2 => RetQ Try.prog Try.f89 (fun g st => g = .val (.int .i64 r2) ∧ st = []) .ret s2)) he3 (fun x o hb => ?_) (fun ex s2 _ hx => ?_)
  · obtain ⟨i1, rfl⟩ : ∃ z, z = x := ⟨_, rfl⟩
    have H := hb
    unfold F.slices_IndexFunc_l1 at H
    try dsimp only at H
    refine GW.weak ⟨[(0, .sl (List.length s0) (encs s0)), (1, .clo 63 []), (7, .val (.int .i64 (List.length s0 : Int))), (8, .val (.int .i64 i1))], [], []⟩ ⟨⟨rfl, rfl, rfl, rfl, trivial⟩, trivial, rfl⟩ ?_
    apply GW.seq
    apply GW.region
    refine GL.py (PY.bin rfl rfl rfl) rfl rfl ?_
    apply GL.nil
    apply GW.seq
    refine GW.cond rfl (fun hc1 => ?_) (fun hc1 => ?_)
    · have H := condT hc1 H
      apply GW.skip
      apply GW.seq
      apply GW.block
      apply GW.seq
      apply GW.region
      refine GL.py (PY.move rfl) rfl rfl ?_
      refine GL.py (PY.assign rfl) rfl rfl ?_
      apply GL.nil
      apply GW.seq
      obtain ⟨x2, hx2, H⟩ := bind_some H
      obtain ⟨r3, hr3, H⟩ := bind_some H
      apply GW.region
      refine GL.py (PY.move rfl) rfl rfl ?_
      refine GL.py (PY.move rfl) rfl rfl ?_
      refine GL.py (PY.move rfl) rfl rfl ?_
      refine GL.py (PY.index rfl rfl rfl (idx_spec hx2).1 (idx_spec hx2).2.1 Try.underlying22 Try.sizeOf3) rfl rfl ?_
      refine GL.y (YT.elt (α := Int) rfl hx2 rfl Try.isAgg3) rfl rfl ?_
      refine GL.e (W := []) (EF.callV 4 Try.call63 rfl rfl (mapO_cons rfl rfl) (view_Size_1_ok fu x2 r3 hr3) (by rintro _ _ ⟨rfl, rfl⟩; rfl)) rfl rfl ?_
      rintro _ ⟨_, _, ⟨rfl, rfl⟩, rfl⟩
      apply GL.nil
      refine GW.cond rfl (fun hc2 => ?_) (fun hc2 => ?_)
      · have H := condT hc2 H
        apply GW.seq
        apply GW.region
        refine GL.py (PY.move rfl) rfl rfl ?_
        refine GL.py (PY.assign rfl) rfl rfl ?_
        apply GL.nil
        refine GW.ret ?_
        cases H
        exact And.intro ret_ne (And.intro rfl (RetQ.mk (.inl rfl) [.val (.int .i64 i1)] _ [] ⟨Res.tmp rfl, trivial⟩ trivial rfl ⟨rfl, rfl⟩))
      · have H := condF hc2 H
        apply GW.skip
        apply GW.region
        refine GL.py (PY.bin rfl rfl rfl) rfl rfl ?_
        refine GL.py (PY.move rfl) rfl rfl ?_
        apply GL.nil
        cases H
        exact And.intro rfl ⟨⟨rfl, rfl, rfl, rfl, trivial⟩, trivial, rfl⟩
    · have H := condF hc1 H
      refine GW.exit ?_
      cases H
      exact And.intro exit_ne (And.intro rfl ⟨trivial, trivial, rfl⟩)
  · cases e3 with
    | ret r2 =>
      obtain ⟨rfl, hx⟩ := hx
      have H := Hr r2 rfl
      subst H
      exact hx
    | brk b2 =>
      obtain ⟨rfl, hs⟩ := hx
      have H := Hb b2 rfl
      refine GW.weak _ hs ?_
      refine GW.weak ⟨[], [], []⟩ ⟨trivial, trivial, rfl⟩ ?_
      apply GW.seq
      apply GW.region
      refine GL.py (PY.assign rfl) rfl rfl ?_
      apply GL.nil
      refine GW.ret ?_
      have H := Option.some.inj H
      subst H
      exact RetQ.mk (.inl rfl) [.val (.int .i64 (-1))] _ [] ⟨Res.tmp rfl, trivial⟩ trivial rfl ⟨rfl, rfl⟩
theorem slices_ContainsFunc_ok (fu : Nat) (s0 : (List Int)) (r : Bool) (H : F.slices_ContainsFunc fu s0 = some r) : GM Try.prog 62 [.sl (List.length s0) (encs s0), .clo 63 []] [] (fun g st => g = .val (.bool r) ∧ st = []) := by
 unfold F.slices_ContainsFunc at H
 refine GM.of (N := 9) Try.func62 rfl rfl rfl (fun cx hro => ?_)
 apply GW.seq
 apply GW.region
 refine GL.py (PY.assign rfl) rfl rfl ?_
 apply GL.nil
 apply GW.seq
 obtain ⟨r1, hr1, H⟩ := bind_some H
 apply GW.region
 refine GL.py (PY.move rfl) rfl rfl ?_
 refine GL.py (PY.move rfl) rfl rfl ?_
 refine GL.e (W := []) (EF.call 4 Try.call89 rfl (mapO_cons rfl (mapO_cons rfl rfl)) (slices_IndexFunc_ok fu s0 r1 hr1) (by rintro _ _ ⟨rfl, rfl⟩; rfl)) rfl rfl ?_
 rintro _ ⟨_, _, ⟨rfl, rfl⟩, rfl⟩
 refine GL.py (PY.bin rfl rfl rfl) rfl rfl ?_
 refine GL.py (PY.assign rfl) rfl rfl ?_
 apply GL.nil
 refine GW.ret ?_
 have H := Option.some.inj H
 subst H
 exact RetQ.mk (.inl rfl) [.val (.bool (decide (r1 ≥ 0)))] _ [] ⟨Res.tmp rfl, trivial⟩ trivial rfl ⟨rfl, rfl⟩
theorem slices_Index_ok (fu : Nat) (s0 : (List Int)) (v0 : Int) (r : Int) (H : F.slices_Index fu s0 v0 = some r) : GM Try.prog 82 [.sl (List.length s0) (encs s0), .val (.int .i64 v0)] [] (fun g st => g = .val (.int .i64 r) ∧ st = []) := by
  unfold F.slices_Index at H
  refine GM.of (N := 19) Try.func82 rfl rfl rfl (fun cx hro => ?_)
  apply GW.seq
  apply GW.region
  refine GL.py (PY.assign rfl) rfl rfl ?_
  apply GL.nil
  apply GW.seq
  apply GW.seq
  apply GW.region
  refine GL.py (PY.move rfl) rfl rfl ?_
  refine GL.py (PY.len rfl rfl Try.underlying22) rfl rfl ?_
  refine GL.py (PY.move rfl) rfl rfl ?_
  apply GL.nil
  apply GW.block
  obtain ⟨e3, he3, Hb, Hr⟩ := bindE_some H
  refine GW.weak ((fun (q : Int) => (⟨[(0, .sl (List.length s0) (encs s0)), (1, .val (.int .i64 v0)), (7, .val (.int .i64 (List.length s0 : Int))), (8, .val (.int .i64 q))], [], []⟩ : St)) 0) ⟨⟨rfl, rfl, rfl, rfl, trivial⟩, trivial, rfl⟩ ?_
  refine GW.loopF (fun (q : Int) => (⟨[(0, .sl (List.length s0) (encs s0)), (1, .val (.int .i64 v0)), (7, .val (.int .i64 (List.length s0 : Int))), (8, .val (.int .i64 q))], [], []⟩ : St)) (QJ (.exit 0) (fun (q : Unit) => (⟨[], [], []⟩ : St)) (fun r2 _ s2 => RetQ Try.prog Try.f82 (fun g st => g = .val (.int .i64 r2) ∧ st = []) .ret s2)) he3 (fun x o hb => ?_) (fun ex s2 _ hx => ?_)
  · obtain ⟨i1, rfl⟩ : ∃ z, z = x := ⟨_, rfl⟩
    have H := hb
    unfold F.slices_Index_l1 at H
    try dsimp only at H
    refine GW.weak ⟨[(0, .sl (List.length s0) (encs s0)), (1, .val (.int .i64 v0)), (7, .val (.int .i64 (List.length s0 : Int))), (8, .val (.int .i64 i1))], [], []⟩ ⟨⟨rfl, rfl, rfl, rfl, trivial⟩, trivial, rfl⟩ ?_
    apply GW.seq
    apply GW.region
    refine GL.py (PY.bin rfl rfl rfl) rfl rfl ?_
    apply GL.nil
    apply GW.seq
    refine GW.cond rfl (fun hc1 => ?_) (fun hc1 => ?_)
    · have H := condT hc1 H
      apply GW.skip
      apply GW.seq
      apply GW.block
      apply GW.seq
      apply GW.region
      refine GL.py (PY.move rfl) rfl rfl ?_
      refine GL.py (PY.assign rfl) rfl rfl ?_
      apply GL.nil
      apply GW.seq
      obtain ⟨x2, hx2, H⟩ := bind_some H
      apply GW.region
      refine GL.py (PY.move rfl) rfl rfl ?_
      refine GL.py (PY.move rfl) rfl rfl ?_
      refine GL.py (PY.move rfl) rfl rfl ?_
      refine GL.py (PY.index rfl rfl rfl (idx_spec hx2).1 (idx_spec hx2).2.1 Try.underlying22 Try.sizeOf3) rfl rfl ?_
      refine GL.y (YT.elt (α := Int) rfl hx2 rfl Try.isAgg3) rfl rfl ?_
      refine GL.py (PY.bin rfl rfl rfl) rfl rfl ?_
      apply GL.nil
      refine GW.cond rfl (fun hc2 => ?_) (fun hc2 => ?_)
      · have H := condT hc2 H
        apply GW.seq
        apply GW.region
        refine GL.py (PY.move rfl) rfl rfl ?_
        refine GL.py (PY.assign rfl) rfl rfl ?_
        apply GL.nil
        refine GW.ret ?_
        cases H
        exact And.intro ret_ne (And.intro rfl (RetQ.mk (.inl rfl) [.val (.int .i64 i1)] _ [] ⟨Res.tmp rfl, trivial⟩ trivial rfl ⟨rfl, rfl⟩))
      · have H := condF hc2 H
        apply GW.skip
        apply GW.region
        refine GL.py (PY.bin rfl rfl rfl) rfl rfl ?_
        refine GL.py (PY.move rfl) rfl rfl ?_
        apply GL.nil
        cases H
        exact And.intro rfl ⟨⟨rfl, rfl, rfl, rfl, trivial⟩, trivial, rfl⟩
    · have H := condF hc1 H
      refine GW.exit ?_
      cases H
      exact And.intro exit_ne (And.intro rfl ⟨trivial, trivial, rfl⟩)
  · cases e3 with
    | ret r2 =>
      obtain ⟨rfl, hx⟩ := hx
      have H := Hr r2 rfl
      subst H
      exact hx
    | brk b2 =>
      obtain ⟨rfl, hs⟩ := hx
      have H := Hb b2 rfl
      refine GW.weak _ hs ?_
      refine GW.weak ⟨[], [], []⟩ ⟨trivial, trivial, rfl⟩ ?_
      apply GW.seq
      apply GW.region
      refine GL.py (PY.assign rfl) rfl rfl ?_
      apply GL.nil
      refine GW.ret ?_
      have H := Option.some.inj H
      subst H
      exact RetQ.mk (.inl rfl) [.val (.int .i64 (-1))] _ [] ⟨Res.tmp rfl, trivial⟩ trivial rfl ⟨rfl, rfl⟩
theorem slices_Contains_ok (fu : Nat) (s0 : (List Int)) (v0 : Int) (r : Bool) (H : F.slices_Contains fu s0 v0 = some r) : GM Try.prog 50 [.sl (List.length s0) (encs s0), .val (.int .i64 v0)] [] (fun g st => g = .val (.bool r) ∧ st = []) := by
 unfold F.slices_Contains at H
 refine GM.of (N := 9) Try.func50 rfl rfl rfl (fun cx hro => ?_)
 apply GW.seq
 apply GW.region
 refine GL.py (PY.assign rfl) rfl rfl ?_
 apply GL.nil
 apply GW.seq
 obtain ⟨r1, hr1, H⟩ := bind_some H
 apply GW.region
 refine GL.py (PY.move rfl) rfl rfl ?_
 refine GL.py (PY.move rfl) rfl rfl ?_
 refine GL.e (W := []) (EF.call 4 Try.call82 rfl (mapO_cons rfl (mapO_cons rfl rfl)) (slices_Index_ok fu s0 v0 r1 hr1) (by rintro _ _ ⟨rfl, rfl⟩; rfl)) rfl rfl ?_
 rintro _ ⟨_, _, ⟨rfl, rfl⟩, rfl⟩
 refine GL.py (PY.bin rfl rfl rfl) rfl rfl ?_
 refine GL.py (PY.assign rfl) rfl rfl ?_
 apply GL.nil
 refine GW.ret ?_
 have H := Option.some.inj H
 subst H
 exact RetQ.mk (.inl rfl) [.val (.bool (decide (r1 ≥ 0)))] _ [] ⟨Res.tmp rfl, trivial⟩ trivial rfl ⟨rfl, rfl⟩
theorem view_Size_ok (fu : Nat) (dims0 : (List Int)) (r : (Int × Int)) (H : F.view_Size fu dims0 = some r) : GM Try.prog 41 [.sl (List.length dims0) (encs dims0)] [] (fun g st => g = .tup [.val (.int .i64 r.1), .val (.int .i64 r.2)] ∧ st = []) := by
  unfold F.view_Size at H
  refine GM.of (N := 32) Try.func41 rfl rfl rfl (fun cx hro => ?_)
  apply GW.seq
  apply GW.region
  refine GL.py (PY.assign rfl) rfl rfl ?_
  refine GL.py (PY.assign rfl) rfl rfl ?_
  apply GL.nil
  apply GW.seq
  apply GW.seq
  apply GW.region
  refine GL.py (PY.move rfl) rfl rfl ?_
  refine GL.py (PY.len rfl rfl Try.underlying22) rfl rfl ?_
  refine GL.py (PY.bin rfl rfl rfl) rfl rfl ?_
  apply GL.nil
  refine GW.cond rfl (fun hc1 => ?_) (fun hc1 => ?_)
  · have H := condT hc1 H
    apply GW.seq
    apply GW.region
    refine GL.py (PY.assign rfl) rfl rfl ?_
    refine GL.py (PY.assign rfl) rfl rfl ?_
    apply GL.nil
    refine GW.ret ?_
    have H := Option.some.inj H
    subst H
    exact RetQ.mk (.inl rfl) [.val (.int .i64 0), .val (.int .i64 3)] _ [] ⟨Res.tmp rfl, Res.tmp rfl, trivial⟩ trivial rfl ⟨rfl, rfl⟩
  · have H := condF hc1 H
    apply GW.skip
    apply GW.seq
    apply GW.seq
    obtain ⟨r1, hr1, H⟩ := bind_some H
    apply GW.region
    refine GL.py (PY.move rfl) rfl rfl ?_
    refine GL.e (W := []) (EF.call 4 Try.call62 rfl (mapO_cons rfl (mapO_cons rfl rfl)) (slices_ContainsFunc_ok fu dims0 r1 hr1) (by rintro _ _ ⟨rfl, rfl⟩; rfl)) rfl rfl ?_
    rintro _ ⟨_, _, ⟨rfl, rfl⟩, rfl⟩
    apply GL.nil
    refine GW.cond rfl (fun hc2 => ?_) (fun hc2 => ?_)
    · have H := condT hc2 H
      apply GW.seq
      apply GW.region
      refine GL.py (PY.assign rfl) rfl rfl ?_
      refine GL.py (PY.assign rfl) rfl rfl ?_
      apply GL.nil
      refine GW.ret ?_
      have H := Option.some.inj H
      subst H
      exact RetQ.mk (.inl rfl) [.val (.int .i64 0), .val (.int .i64 4)] _ [] ⟨Res.tmp rfl, Res.tmp rfl, trivial⟩ trivial rfl ⟨rfl, rfl⟩
    · have H := condF hc2 H
      apply GW.skip
      apply GW.seq
      apply GW.region
      refine GL.py (PY.assign rfl) rfl rfl ?_
      apply GL.nil
      apply GW.seq
      apply GW.seq
      apply GW.region
      refine GL.py (PY.move rfl) rfl rfl ?_
      refine GL.py (PY.len rfl rfl Try.underlying22) rfl rfl ?_
      refine GL.py (PY.move rfl) rfl rfl ?_
      apply GL.nil
      apply GW.block
      obtain ⟨e7, he7, Hb, Hr⟩ := bindE_some H
      refine GW.weak ((fun (q : Int × Int) => (⟨[(0, .sl (List.length dims0) (encs dims0)), (4, .val (.int .i64 q.1)), (12, .sl (List.length dims0) (encs dims0)), (13, .val (.int .i64 (List.length dims0 : Int))), (14, .val (.int .i64 q.2))], [], []⟩ : St)) (1, 0)) ⟨⟨rfl, rfl, rfl, rfl, rfl, trivial⟩, trivial, rfl⟩ ?_
      refine GW.loopF (fun (q : Int × Int) => (⟨[(0, .sl (List.length dims0) (encs dims0)), (4, .val (.int .i64 q.1)), (12, .sl (List.length dims0) (encs dims0)), (13, .val (.int .i64 (List.length dims0 : Int))), (14, .val (.int .i64 q.2))], [], []⟩ : St)) (QJ (.exit 0) (fun (q : Int) => (⟨[(4, .val (.int .i64 q))], [], []⟩ : St)) (fun r2 _ s2 => RetQ Try.prog Try.f41 (fun g st => g = .tup [.val (.int .i64 r2.1), .val (.int .i64 r2.2)] ∧ st = []) .ret s2)) he7 (fun x o hb => ?_) (fun ex s2 _ hx => ?_)
      · obtain ⟨n3, i4⟩ := x
        have H := hb
        unfold F.view_Size_l1 at H
        try dsimp only at H
        refine GW.weak ⟨[(0, .sl (List.length dims0) (encs dims0)), (4, .val (.int .i64 n3)), (12, .sl (List.length dims0) (encs dims0)), (13, .val (.int .i64 (List.length dims0 : Int))), (14, .val (.int .i64 i4))], [], []⟩ ⟨⟨rfl, rfl, rfl, rfl, rfl, trivial⟩, trivial, rfl⟩ ?_
        apply GW.seq
        apply GW.region
        refine GL.py (PY.bin rfl rfl rfl) rfl rfl ?_
        apply GL.nil
        apply GW.seq
        refine GW.cond rfl (fun hc3 => ?_) (fun hc3 => ?_)
        · have H := condT hc3 H
          apply GW.skip
          apply GW.seq
          apply GW.block
          apply GW.seq
          obtain ⟨x6, hx6, H⟩ := bind_some H
          apply GW.region
          refine GL.py (PY.index rfl rfl rfl (idx_spec hx6).1 (idx_spec hx6).2.1 Try.underlying22 Try.sizeOf3) rfl rfl ?_
          refine GL.y (YT.elt (α := Int) rfl hx6 rfl Try.isAgg3) rfl rfl ?_
          refine GL.py (PY.assign rfl) rfl rfl ?_
          apply GL.nil
          apply GW.seq
          apply GW.region
          refine GL.py (PY.move rfl) rfl rfl ?_
          refine GL.py (PY.move rfl) rfl rfl ?_
          refine GL.py (PY.bin rfl rfl rfl) rfl rfl ?_
          refine GL.py (PY.assign rfl) rfl rfl ?_
          apply GL.nil
          apply GW.seq
          apply GW.seq
          obtain ⟨e6, he6, H⟩ := bind_some H
          obtain ⟨i8, rfl⟩ : ∃ z, z = e6 := ⟨_, rfl⟩
          refine GW.mono (Q := QB .normal (fun (q : Bool) => (⟨[(0, .sl (List.length dims0) (encs dims0)), (4, .val (.int .i64 (IntKind.i64.wrap (n3 * x6)))), (12, .sl (List.length dims0) (encs dims0)), (13, .val (.int .i64 (List.length dims0 : Int))), (14, .val (.int .i64 i4)), (27, .val (.bool q))], [], []⟩ : St)) i8) ?_ ?_
          · have H := he6
            apply GW.region
            refine GL.py (PY.move rfl) rfl rfl ?_
            refine GL.py (PY.bin rfl rfl rfl) rfl rfl ?_
            refine GL.py (PY.move rfl) rfl rfl ?_
            refine (Bool.eq_false_or_eq_true (decide ((IntKind.i64.wrap (n3 * x6)) > 65536))).elim (fun hg4 => ?_) (fun hg4 => ?_)
            · have H := condT hg4 H
              obtain ⟨r7, hr7, H⟩ := bind_some H
              refine GL.lit 23 rfl hg4 ?_
              refine GL.py (PY.move rfl) rfl rfl ?_
              refine GL.e (W := []) (EF.call 4 Try.call50 rfl (mapO_cons rfl (mapO_cons rfl rfl)) (slices_Contains_ok fu dims0 0 r7 hr7) (by rintro _ _ ⟨rfl, rfl⟩; rfl)) rfl rfl ?_
              rintro _ ⟨_, _, ⟨rfl, rfl⟩, rfl⟩
              refine GL.py (PY.un rfl rfl) rfl rfl ?_
              refine GL.py (PY.pickT rfl rfl) rfl rfl ?_
              apply GL.nil
              cases H
              exact And.intro rfl ⟨⟨rfl, rfl, rfl, rfl, rfl, rfl, trivial⟩, trivial, rfl⟩
            · have H := condF hg4 H
              refine GL.lit 23 rfl hg4 ?_
              refine GL.nou rfl rfl ?_
              refine GL.nou rfl rfl ?_
              refine GL.nou rfl rfl ?_
              refine GL.py (PY.pickF rfl rfl) rfl rfl ?_
              apply GL.nil
              cases H
              exact And.intro rfl ⟨⟨rfl, rfl, rfl, rfl, rfl, rfl, trivial⟩, trivial, rfl⟩
          · rintro _ s2 ⟨rfl, hs⟩
            refine GW.weak _ hs ?_
            refine GW.weak ⟨[(0, .sl (List.length dims0) (encs dims0)), (4, .val (.int .i64 (IntKind.i64.wrap (n3 * x6)))), (12, .sl (List.length dims0) (encs dims0)), (13, .val (.int .i64 (List.length dims0 : Int))), (14, .val (.int .i64 i4)), (27, .val (.bool i8))], [], []⟩ ⟨⟨rfl, rfl, rfl, rfl, rfl, rfl, trivial⟩, trivial, rfl⟩ ?_
            refine GW.cond rfl (fun hc5 => ?_) (fun hc5 => ?_)
            · have H := condT hc5 H
              apply GW.seq
              apply GW.region
              refine GL.py (PY.assign rfl) rfl rfl ?_
              refine GL.py (PY.assign rfl) rfl rfl ?_
              apply GL.nil
              refine GW.ret ?_
              cases H
              exact And.intro ret_ne (And.intro rfl (RetQ.mk (.inl rfl) [.val (.int .i64 0), .val (.int .i64 5)] _ [] ⟨Res.tmp rfl, Res.tmp rfl, trivial⟩ trivial rfl ⟨rfl, rfl⟩))
            · have H := condF hc5 H
              apply GW.skip
              apply GW.region
              refine GL.py (PY.move rfl) rfl rfl ?_
              refine GL.py (PY.min2 rfl rfl) rfl rfl ?_
              refine GL.py (PY.assign rfl) rfl rfl ?_
              apply GL.nil
              apply GW.region
              refine GL.py (PY.bin rfl rfl rfl) rfl rfl ?_
              refine GL.py (PY.move rfl) rfl rfl ?_
              apply GL.nil
              cases H
              exact And.intro rfl ⟨⟨rfl, rfl, rfl, rfl, rfl, trivial⟩, trivial, rfl⟩
        · have H := condF hc3 H
          refine GW.exit ?_
          cases H
          exact And.intro exit_ne (And.intro rfl ⟨⟨rfl, trivial⟩, trivial, rfl⟩)
      · cases e7 with
        | ret r2 =>
          obtain ⟨rfl, hx⟩ := hx
          have H := Hr r2 rfl
          subst H
          exact hx
        | brk b2 =>
          obtain ⟨rfl, hs⟩ := hx
          have H := Hb b2 rfl
          obtain ⟨n5, rfl⟩ : ∃ z, z = b2 := ⟨_, rfl⟩
          refine GW.weak _ hs ?_
          refine GW.weak ⟨[(4, .val (.int .i64 n5))], [], []⟩ ⟨⟨rfl, trivial⟩, trivial, rfl⟩ ?_
          apply GW.seq
          apply GW.region
          refine GL.py (PY.move rfl) rfl rfl ?_
          refine GL.py (PY.assign rfl) rfl rfl ?_
          refine GL.py (PY.assign rfl) rfl rfl ?_
          apply GL.nil
          refine GW.ret ?_
          have H := Option.some.inj H
          subst H
          exact RetQ.mk (.inl rfl) [.val (.int .i64 n5), .val (.int .i64 0)] _ [] ⟨Res.tmp rfl, Res.tmp rfl, trivial⟩ trivial rfl ⟨rfl, rfl⟩
theorem view_near_ok (fu : Nat) (n0 : Int) (r : Bool) (H : F.view_near fu n0 = some r) : GM Try.prog 105 [.val (.int .i64 n0)] [] (fun g st => g = .val (.bool r) ∧ st = []) := by
  unfold F.view_near at H
  refine GM.of (N := 9) Try.func105 rfl rfl rfl (fun cx hro => ?_)
  apply GW.seq
  apply GW.region
  refine GL.py (PY.assign rfl) rfl rfl ?_
  apply GL.nil
  apply GW.seq
  obtain ⟨e2, he2, H⟩ := bind_some H
  obtain ⟨i1, rfl⟩ : ∃ z, z = e2 := ⟨_, rfl⟩
  refine GW.mono (Q := QB .normal (fun (q : Bool) => (⟨[(2, .val (.bool q))], [], []⟩ : St)) i1) ?_ ?_
  · have H := he2
    apply GW.region
    refine GL.py (PY.move rfl) rfl rfl ?_
    refine GL.py (PY.bin rfl rfl rfl) rfl rfl ?_
    refine GL.py (PY.move rfl) rfl rfl ?_
    refine (Bool.eq_false_or_eq_true (decide (n0 ≥ (-1099511627776)))).elim (fun hg1 => ?_) (fun hg1 => ?_)
    · have H := condT hg1 H
      refine GL.lit 5 rfl hg1 ?_
      refine GL.py (PY.move rfl) rfl rfl ?_
      refine GL.py (PY.bin rfl rfl rfl) rfl rfl ?_
      refine GL.py (PY.pickT rfl rfl) rfl rfl ?_
      refine GL.py (PY.assign rfl) rfl rfl ?_
      apply GL.nil
      cases H
      exact And.intro rfl ⟨⟨rfl, trivial⟩, trivial, rfl⟩
    · have H := condF hg1 H
      refine GL.lit 5 rfl hg1 ?_
      refine GL.nou rfl rfl ?_
      refine GL.nou rfl rfl ?_
      refine GL.py (PY.pickF rfl rfl) rfl rfl ?_
      refine GL.py (PY.assign rfl) rfl rfl ?_
      apply GL.nil
      cases H
      exact And.intro rfl ⟨⟨rfl, trivial⟩, trivial, rfl⟩
  · rintro _ s2 ⟨rfl, hs⟩
    refine GW.weak _ hs ?_
    refine GW.weak ⟨[(2, .val (.bool i1))], [], []⟩ ⟨⟨rfl, trivial⟩, trivial, rfl⟩ ?_
    refine GW.ret ?_
    have H := Option.some.inj H
    subst H
    exact RetQ.mk (.inl rfl) [.val (.bool i1)] _ [] ⟨Res.tmp rfl, trivial⟩ trivial rfl ⟨rfl, rfl⟩
theorem view_Wrong_1_ok (fu : Nat) (s0 : Int) (r : Bool) (H : F.view_Wrong_1 fu s0 = some r) : GM Try.prog 106 [.val (.int .i64 s0)] [] (fun g st => g = .val (.bool r) ∧ st = []) := by
 unfold F.view_Wrong_1 at H
 refine GM.of (N := 6) Try.func106 rfl rfl rfl (fun cx hro => ?_)
 apply GW.seq
 apply GW.region
 refine GL.py (PY.assign rfl) rfl rfl ?_
 apply GL.nil
 apply GW.seq
 obtain ⟨r1, hr1, H⟩ := bind_some H
 apply GW.region
 refine GL.py (PY.move rfl) rfl rfl ?_
 refine GL.e (W := []) (EF.call 4 Try.call105 rfl (mapO_cons rfl rfl) (view_near_ok fu s0 r1 hr1) (by rintro _ _ ⟨rfl, rfl⟩; rfl)) rfl rfl ?_
 rintro _ ⟨_, _, ⟨rfl, rfl⟩, rfl⟩
 refine GL.py (PY.un rfl rfl) rfl rfl ?_
 refine GL.py (PY.assign rfl) rfl rfl ?_
 apply GL.nil
 refine GW.ret ?_
 have H := Option.some.inj H
 subst H
 exact RetQ.mk (.inl rfl) [.val (.bool (!r1))] _ [] ⟨Res.tmp rfl, trivial⟩ trivial rfl ⟨rfl, rfl⟩
theorem slices_IndexFunc_2_ok (fu : Nat) (s0 : (List Int)) (r : Int) (H : F.slices_IndexFunc_2 fu s0 = some r) : GM Try.prog 89 [.sl (List.length s0) (encs s0), .clo 106 []] [] (fun g st => g = .val (.int .i64 r) ∧ st = []) := by
  unfold F.slices_IndexFunc_2 at H
  refine GM.of (N := 19) Try.func89 rfl rfl rfl (fun cx hro => ?_)
  apply GW.seq
  apply GW.region
  refine GL.py (PY.assign rfl) rfl rfl ?_
  apply GL.nil
  apply GW.seq
  apply GW.seq
  apply GW.region
  refine GL.py (PY.move rfl) rfl rfl ?_
  refine GL.py (PY.len rfl rfl Try.underlying22) rfl rfl ?_
  refine GL.py (PY.move rfl) rfl rfl ?_
  apply GL.nil
  apply GW.block
  obtain ⟨e3, he3, Hb, Hr⟩ := bindE_some H
  refine GW.weak ((fun (q : Int) => (⟨[(0, .sl (List.length s0) (encs s0)), (1, .clo 106 []), (7, .val (.int .i64 (List.length s0 : Int))), (8, .val (.int .i64 q))], [], []⟩ : St)) 0) ⟨⟨rfl, rfl, rfl, rfl, trivial⟩, trivial, rfl⟩ ?_
  refine GW.loopF (fun (q : Int) => (⟨[(0, .sl (List.length s0) (encs s0)), (1, .clo 106 []), (7, .val (.int .i64 (List.length s0 : Int))), (8, .val (.int .i64 q))], [], []⟩ : St)) (QJ (.exit 0) (fun (q : Unit) => (⟨[], [], []⟩ : St)) (fun r2 _ s2 => RetQ Try.prog Try.f89 (fun g st => g = .val (.int .i64 r2) ∧ st = []) .ret s2)) he3 (fun x o hb => ?_) (fun ex s2 _ hx => ?_)
  · obtain ⟨i1, rfl⟩ : ∃ z, z = x := ⟨_, rfl⟩
    have H := hb
    unfold F.slices_IndexFunc_2_l1 at H
    try dsimp only at H
    refine GW.weak ⟨[(0, .sl (List.length s0) (encs s0)), (1, .clo 106 []), (7, .val (.int .i64 (List.length s0 : Int))), (8, .val (.int .i64 i1))], [], []⟩ ⟨⟨rfl, rfl, rfl, rfl, trivial⟩, trivial, rfl⟩ ?_
    apply GW.seq
    apply GW.region
    refine GL.py (PY.bin rfl rfl rfl) rfl rfl ?_
    apply GL.nil
    apply GW.seq
    refine GW.cond rfl (fun hc1 => ?_) (fun hc1 => ?_)
    · have H := condT hc1 H
      apply GW.skip
      apply GW.seq
      apply GW.block
      apply GW.seq
      apply GW.region
      refine GL.py (PY.move rfl) rfl rfl ?_
      refine GL.py (PY.assign rfl) rfl rfl ?_
      apply GL.nil
      apply GW.seq
      obtain ⟨x2, hx2, H⟩ := bind_some H
      obtain ⟨r3, hr3, H⟩ := bind_some H
      apply GW.region
      refine GL.py (PY.move rfl) rfl rfl ?_
      refine GL.py (PY.move rfl) rfl rfl ?_
      refine GL.py (PY.move rfl) rfl rfl ?_
      refine GL.py (PY.index rfl rfl rfl (idx_spec hx2).1 (idx_spec hx2).2.1 Try.underlying22 Try.sizeOf3) rfl rfl ?_
      refine GL.y (YT.elt (α := Int) rfl hx2 rfl Try.isAgg3) rfl rfl ?_
      refine GL.e (W := []) (EF.callV 4 Try.call106 rfl rfl (mapO_cons rfl rfl) (view_Wrong_1_ok fu x2 r3 hr3) (by rintro _ _ ⟨rfl, rfl⟩; rfl)) rfl rfl ?_
      rintro _ ⟨_, _, ⟨rfl, rfl⟩, rfl⟩
      apply GL.nil
      refine GW.cond rfl (fun hc2 => ?_) (fun hc2 => ?_)
      · have H := condT hc2 H
        apply GW.seq
        apply GW.region
        refine GL.py (PY.move rfl) rfl rfl ?_
        refine GL.py (PY.assign rfl) rfl rfl ?_
        apply GL.nil
        refine GW.ret ?_
        cases H
        exact And.intro ret_ne (And.intro rfl (RetQ.mk (.inl rfl) [.val (.int .i64 i1)] _ [] ⟨Res.tmp rfl, trivial⟩ trivial rfl ⟨rfl, rfl⟩))
      · have H := condF hc2 H
        apply GW.skip
        apply GW.region
        refine GL.py (PY.bin rfl rfl rfl) rfl rfl ?_
        refine GL.py (PY.move rfl) rfl rfl ?_
        apply GL.nil
        cases H
        exact And.intro rfl ⟨⟨rfl, rfl, rfl, rfl, trivial⟩, trivial, rfl⟩
    · have H := condF hc1 H
      refine GW.exit ?_
      cases H
      exact And.intro exit_ne (And.intro rfl ⟨trivial, trivial, rfl⟩)
  · cases e3 with
    | ret r2 =>
      obtain ⟨rfl, hx⟩ := hx
      have H := Hr r2 rfl
      subst H
      exact hx
    | brk b2 =>
      obtain ⟨rfl, hs⟩ := hx
      have H := Hb b2 rfl
      refine GW.weak _ hs ?_
      refine GW.weak ⟨[], [], []⟩ ⟨trivial, trivial, rfl⟩ ?_
      apply GW.seq
      apply GW.region
      refine GL.py (PY.assign rfl) rfl rfl ?_
      apply GL.nil
      refine GW.ret ?_
      have H := Option.some.inj H
      subst H
      exact RetQ.mk (.inl rfl) [.val (.int .i64 (-1))] _ [] ⟨Res.tmp rfl, trivial⟩ trivial rfl ⟨rfl, rfl⟩
theorem slices_ContainsFunc_2_ok (fu : Nat) (s0 : (List Int)) (r : Bool) (H : F.slices_ContainsFunc_2 fu s0 = some r) : GM Try.prog 62 [.sl (List.length s0) (encs s0), .clo 106 []] [] (fun g st => g = .val (.bool r) ∧ st = []) := by
 unfold F.slices_ContainsFunc_2 at H
 refine GM.of (N := 9) Try.func62 rfl rfl rfl (fun cx hro => ?_)
 apply GW.seq
 apply GW.region
 refine GL.py (PY.assign rfl) rfl rfl ?_
 apply GL.nil
 apply GW.seq
 obtain ⟨r1, hr1, H⟩ := bind_some H
 apply GW.region
 refine GL.py (PY.move rfl) rfl rfl ?_
 refine GL.py (PY.move rfl) rfl rfl ?_
 refine GL.e (W := []) (EF.call 4 Try.call89 rfl (mapO_cons rfl (mapO_cons rfl rfl)) (slices_IndexFunc_2_ok fu s0 r1 hr1) (by rintro _ _ ⟨rfl, rfl⟩; rfl)) rfl rfl ?_
 rintro _ ⟨_, _, ⟨rfl, rfl⟩, rfl⟩
 refine GL.py (PY.bin rfl rfl rfl) rfl rfl ?_
 refine GL.py (PY.assign rfl) rfl rfl ?_
 apply GL.nil
 refine GW.ret ?_
 have H := Option.some.inj H
 subst H
 exact RetQ.mk (.inl rfl) [.val (.bool (decide (r1 ≥ 0)))] _ [] ⟨Res.tmp rfl, trivial⟩ trivial rfl ⟨rfl, rfl⟩
theorem view_Wrong_ok (fu : Nat) (v0 : SView) (r : Int) (H : F.view_Wrong fu v0 = some r) : GM Try.prog 84 [.agg [.val (.int .i64 v0.Start), .sl (List.length v0.Dims) (encs v0.Dims), .sl (List.length v0.Steps) (encs v0.Steps)]] [] (fun g st => g = .val (.int .i64 r) ∧ st = []) := by
  unfold F.view_Wrong at H
  refine GM.of (N := 30) Try.func84 rfl rfl rfl (fun cx hro => ?_)
  apply GW.seq
  apply GW.region
  refine GL.e1 (W := []) (EF.box 0 rfl rfl rfl) rfl rfl ?_
  refine GL.py (PY.assign rfl) rfl rfl ?_
  apply GL.nil
  apply GW.seq
  apply GW.seq
  obtain ⟨r1, hr1, H⟩ := bind_some H
  apply GW.region
  refine GL.py (PY.field rfl rfl Try.underlying67 rfl Try.sizeOf22 (by decide)) rfl rfl ?_
  refine GL.y (YL.loadN rfl rfl rfl Try.isAgg22 rfl rfl) rfl rfl ?_
  refine GL.e (W := []) (EF.call 4 Try.call41 rfl (mapO_cons rfl rfl) (view_Size_ok fu v0.Dims r1 hr1) (by rintro _ _ ⟨rfl, rfl⟩; rfl)) rfl rfl ?_
  rintro _ ⟨_, _, ⟨rfl, rfl⟩, rfl⟩
  refine GL.py (PY.move rfl) rfl rfl ?_
  refine GL.py (PY.extract rfl rfl) rfl rfl ?_
  refine GL.py (PY.extract rfl rfl) rfl rfl ?_
  refine GL.py (PY.assign rfl) rfl rfl ?_
  refine GL.py (PY.assign rfl) rfl rfl ?_
  apply GL.nil
  apply GW.seq
  apply GW.region
  refine GL.py (PY.move rfl) rfl rfl ?_
  refine GL.py (PY.bin rfl rfl rfl) rfl rfl ?_
  apply GL.nil
  refine GW.cond rfl (fun hc1 => ?_) (fun hc1 => ?_)
  · have H := condT hc1 H
    apply GW.seq
    apply GW.region
    refine GL.py (PY.move rfl) rfl rfl ?_
    refine GL.py (PY.assign rfl) rfl rfl ?_
    apply GL.nil
    refine GW.ret ?_
    have H := Option.some.inj H
    subst H
    exact RetQ.mk (.inl rfl) [.val (.int .i64 r1.2)] _ [] ⟨Res.tmp rfl, trivial⟩ trivial rfl ⟨rfl, rfl⟩
  · have H := condF hc1 H
    apply GW.skip
    apply GW.seq
    apply GW.seq
    apply GW.region
    refine GL.py (PY.field rfl rfl Try.underlying67 rfl Try.sizeOf22 (by decide)) rfl rfl ?_
    refine GL.y (YL.loadN rfl rfl rfl Try.isAgg22 rfl rfl) rfl rfl ?_
    refine GL.py (PY.len rfl rfl Try.underlying22) rfl rfl ?_
    refine GL.py (PY.field rfl rfl Try.underlying67 rfl Try.sizeOf22 (by decide)) rfl rfl ?_
    refine GL.y (YL.loadN rfl rfl rfl Try.isAgg22 rfl rfl) rfl rfl ?_
    refine GL.py (PY.len rfl rfl Try.underlying22) rfl rfl ?_
    refine GL.py (PY.bin rfl rfl rfl) rfl rfl ?_
    apply GL.nil
    refine GW.cond rfl (fun hc2 => ?_) (fun hc2 => ?_)
    · have H := condT hc2 H
      apply GW.seq
      apply GW.region
      refine GL.py (PY.assign rfl) rfl rfl ?_
      apply GL.nil
      refine GW.ret ?_
      have H := Option.some.inj H
      subst H
      exact RetQ.mk (.inl rfl) [.val (.int .i64 6)] _ [] ⟨Res.tmp rfl, trivial⟩ trivial rfl ⟨rfl, rfl⟩
    · have H := condF hc2 H
      apply GW.skip
      apply GW.seq
      apply GW.seq
      obtain ⟨r3, hr3, H⟩ := bind_some H
      obtain ⟨e5, he5, H⟩ := bind_some H
      obtain ⟨i5, rfl⟩ : ∃ z, z = e5 := ⟨_, rfl⟩
      refine GW.mono (Q := QB .normal (fun (q : Bool) => (⟨[(29, .val (.bool q))], [], []⟩ : St)) i5) ?_ ?_
      · have H := he5
        apply GW.region
        refine GL.py (PY.field rfl rfl Try.underlying67 rfl Try.sizeOf3 (by decide)) rfl rfl ?_
        refine GL.y (YL.loadN rfl rfl rfl Try.isAgg3 rfl rfl) rfl rfl ?_
        refine GL.e (W := []) (EF.call 4 Try.call105 rfl (mapO_cons rfl rfl) (view_near_ok fu v0.Start r3 hr3) (by rintro _ _ ⟨rfl, rfl⟩; rfl)) rfl rfl ?_
        rintro _ ⟨_, _, ⟨rfl, rfl⟩, rfl⟩
        refine GL.py (PY.un rfl rfl) rfl rfl ?_
        refine GL.py (PY.move rfl) rfl rfl ?_
        refine (Bool.eq_false_or_eq_true (!r3)).elim (fun hg3 => ?_) (fun hg3 => ?_)
        · have H := condT hg3 H
          refine GL.lit 25 rfl hg3 ?_
          refine GL.nou rfl rfl ?_
          refine GL.nou rfl rfl ?_
          refine GL.nou rfl rfl ?_
          refine GL.py (PY.pickT rfl rfl) rfl rfl ?_
          apply GL.nil
          cases H
          exact And.intro rfl ⟨⟨rfl, trivial⟩, trivial, rfl⟩
        · have H := condF hg3 H
          obtain ⟨r4, hr4, H⟩ := bind_some H
          refine GL.lit 25 rfl hg3 ?_
          refine GL.py (PY.field rfl rfl Try.underlying67 rfl Try.sizeOf22 (by decide)) rfl rfl ?_
          refine GL.y (YL.loadN rfl rfl rfl Try.isAgg22 rfl rfl) rfl rfl ?_
          refine GL.e (W := []) (EF.call 4 Try.call62 rfl (mapO_cons rfl (mapO_cons rfl rfl)) (slices_ContainsFunc_2_ok fu v0.Steps r4 hr4) (by rintro _ _ ⟨rfl, rfl⟩; rfl)) rfl rfl ?_
          rintro _ ⟨_, _, ⟨rfl, rfl⟩, rfl⟩
          refine GL.py (PY.pickF rfl rfl) rfl rfl ?_
          apply GL.nil
          cases H
          exact And.intro rfl ⟨⟨rfl, trivial⟩, trivial, rfl⟩
      · rintro _ s2 ⟨rfl, hs⟩
        refine GW.weak _ hs ?_
        refine GW.weak ⟨[(29, .val (.bool i5))], [], []⟩ ⟨⟨rfl, trivial⟩, trivial, rfl⟩ ?_
        refine GW.cond rfl (fun hc4 => ?_) (fun hc4 => ?_)
        · have H := condT hc4 H
          apply GW.seq
          apply GW.region
          refine GL.py (PY.assign rfl) rfl rfl ?_
          apply GL.nil
          refine GW.ret ?_
          have H := Option.some.inj H
          subst H
          exact RetQ.mk (.inl rfl) [.val (.int .i64 4)] _ [] ⟨Res.tmp rfl, trivial⟩ trivial rfl ⟨rfl, rfl⟩
        · have H := condF hc4 H
          apply GW.skip
          apply GW.seq
          apply GW.region
          refine GL.py (PY.assign rfl) rfl rfl ?_
          apply GL.nil
          refine GW.ret ?_
          have H := Option.some.inj H
          subst H
          exact RetQ.mk (.inl rfl) [.val (.int .i64 0)] _ [] ⟨Res.tmp rfl, trivial⟩ trivial rfl ⟨rfl, rfl⟩
theorem slices_Clone_ok (fu : Nat) (s0 : (List Int)) (r : (List Int)) (H : F.slices_Clone fu s0 = some r) : GM Try.prog 34 [.sl (List.length s0) (encs s0)] [] (fun g st => g = .osl 600 (Enc.sz Int) 0 (List.length r) ∧ st = [(600, ⟨3, true, true, true, Enc.sz Int, encs r, none⟩)]) := by
  unfold F.slices_Clone at H
  refine GM.of (N := 8) Try.func34 rfl rfl rfl (fun cx hro => ?_)
  apply GW.seq
  apply GW.region
  refine GL.py (PY.assign rfl) rfl rfl ?_
  apply GL.nil
  apply GW.seq
  apply GW.seq
  apply GW.region
  refine GL.py (PY.move rfl) rfl rfl ?_
  refine GL.eqnil rfl rfl Try.underlying22 rfl rfl (fun b hb => ?_)
  obtain ⟨hT, hF⟩ := nilF_spec H
  cases b
  · have H := hF
    apply GL.nil
    refine GW.cond rfl (fun h => by cases h) (fun _ => ?_)
    apply GW.skip
    apply GW.seq
    obtain ⟨_, ha2, H⟩ := bind_some H
    replace ha2 := chk_spec ha2
    apply GW.region
    refine GL.e1 (W := []) (EF.buildSlice0 0 Try.underlying22 info3 rfl) rfl rfl ?_
    refine GL.py (PY.move rfl) rfl rfl ?_
    refine GL.e1 (ET.append (α := Int) (m := s0) (W := [0]) rfl rfl rfl rfl rfl rfl rfl rfl rfl Try.underlying22 info3 rfl ha2.1 ha2.2 rfl) rfl rfl ?_
    refine GL.refresh (α := Int) (l := ([] : (List Int)) ++ s0) 0 rfl rfl rfl ?_
    refine GL.py (PY.assign rfl) rfl rfl ?_
    apply GL.nil
    refine GW.move 0 600 rfl rfl ?_
    refine GW.ret ?_
    have H := Option.some.inj H
    subst H
    exact RetQ.mk (.inl rfl) [.osl 600 (Enc.sz Int) 0 (List.length (([] : (List Int)) ++ s0))] _ [(600, ⟨3, true, true, true, Enc.sz Int, encs (([] : (List Int)) ++ s0), none⟩)] ⟨Res.tmp rfl, trivial⟩ ⟨rfl, trivial⟩ rfl ⟨rfl, rfl⟩
  · have H := hT (hb rfl)
    apply GL.nil
    refine GW.cond rfl (fun _ => ?_) (fun h => by cases h)
    apply GW.seq
    apply GW.region
    refine GL.py (PY.assign rfl) rfl rfl ?_
    apply GL.nil
    refine GW.adopt 2 600 3 (Enc.sz Int) rfl rfl ?_
    refine GW.ret ?_
    have H := Option.some.inj H
    subst H
    exact RetQ.mk (.inl rfl) [.osl 600 (Enc.sz Int) 0 (List.length ([] : (List Int)))] _ [(600, ⟨3, true, true, true, Enc.sz Int, encs ([] : (List Int)), none⟩)] ⟨Res.tmp rfl, trivial⟩ ⟨rfl, trivial⟩ rfl ⟨rfl, rfl⟩
theorem view_blocks_ok (fu : Nat) (v0 : SView) (r : (List SBlock)) (H : F.view_blocks fu v0 = some r) : GM Try.prog 86 [.agg [.val (.int .i64 v0.Start), .sl (List.length v0.Dims) (encs v0.Dims), .sl (List.length v0.Steps) (encs v0.Steps)]] [] (fun g st => g = .osl 600 (Enc.sz SBlock) 0 (List.length r) ∧ st = [(600, ⟨111, true, true, true, Enc.sz SBlock, encs r, none⟩)]) := by
  unfold F.view_blocks at H
  refine GM.of (N := 67) Try.func86 rfl rfl rfl (fun cx hro => ?_)
  apply GW.seq
  apply GW.region
  refine GL.e1 (W := []) (EF.box 0 rfl rfl rfl) rfl rfl ?_
  refine GL.py (PY.assign rfl) rfl rfl ?_
  apply GL.nil
  apply GW.seq
  apply GW.region
  refine GL.py (PY.assign rfl) rfl rfl ?_
  apply GL.nil
  apply GW.seq
  apply GW.seq
  apply GW.region
  refine GL.py (PY.field rfl rfl Try.underlying67 rfl Try.sizeOf22 (by decide)) rfl rfl ?_
  refine GL.y (YL.loadN rfl rfl rfl Try.isAgg22 rfl rfl) rfl rfl ?_
  refine GL.py (PY.len rfl rfl Try.underlying22) rfl rfl ?_
  refine GL.py (PY.move rfl) rfl rfl ?_
  apply GL.nil
  apply GW.block
  refine GW.adopt 3 1 111 (Enc.sz SBlock) rfl rfl ?_
  obtain ⟨e8, he8, H⟩ := bind_some H
  refine GW.weak ((fun (q : Int × (List SBlock)) => (⟨[(1, .loc 0 0), (3, .osl 1 (Enc.sz SBlock) 0 (List.length q.2)), (8, .sl (List.length v0.Dims) (encs v0.Dims)), (9, .val (.int .i64 (List.length v0.Dims : Int))), (10, .val (.int .i64 q.1))], [(0, ⟨67, false, true, false, 0, [.val (.int .i64 v0.Start), .sl (List.length v0.Dims) (encs v0.Dims), .sl (List.length v0.Steps) (encs v0.Steps)], none⟩), (1, ⟨111, true, true, true, Enc.sz SBlock, encs q.2, none⟩)], []⟩ : St)) (0, ([] : (List SBlock)))) ⟨⟨rfl, rfl, rfl, rfl, rfl, trivial⟩, ⟨rfl, rfl, trivial⟩, rfl⟩ ?_
  refine GW.loopF (fun (q : Int × (List SBlock)) => (⟨[(1, .loc 0 0), (3, .osl 1 (Enc.sz SBlock) 0 (List.length q.2)), (8, .sl (List.length v0.Dims) (encs v0.Dims)), (9, .val (.int .i64 (List.length v0.Dims : Int))), (10, .val (.int .i64 q.1))], [(0, ⟨67, false, true, false, 0, [.val (.int .i64 v0.Start), .sl (List.length v0.Dims) (encs v0.Dims), .sl (List.length v0.Steps) (encs v0.Steps)], none⟩), (1, ⟨111, true, true, true, Enc.sz SBlock, encs q.2, none⟩)], []⟩ : St)) (QB (.exit 0) (fun (q : (List SBlock)) => (⟨[(3, .osl 1 (Enc.sz SBlock) 0 (List.length q))], [(1, ⟨111, true, true, true, Enc.sz SBlock, encs q, none⟩)], []⟩ : St))) he8 (fun x o hb => ?_) (fun ex s2 _ hx => ?_)
  · obtain ⟨i1, l2⟩ := x
    have H := hb
    unfold F.view_blocks_l1 at H
    try dsimp only at H
    refine GW.weak ⟨[(1, .loc 0 0), (3, .osl 1 (Enc.sz SBlock) 0 (List.length l2)), (8, .sl (List.length v0.Dims) (encs v0.Dims)), (9, .val (.int .i64 (List.length v0.Dims : Int))), (10, .val (.int .i64 i1))], [(0, ⟨67, false, true, false, 0, [.val (.int .i64 v0.Start), .sl (List.length v0.Dims) (encs v0.Dims), .sl (List.length v0.Steps) (encs v0.Steps)], none⟩), (1, ⟨111, true, true, true, Enc.sz SBlock, encs l2, none⟩)], []⟩ ⟨⟨rfl, rfl, rfl, rfl, rfl, trivial⟩, ⟨rfl, rfl, trivial⟩, rfl⟩ ?_
    apply GW.seq
    apply GW.region
    refine GL.py (PY.bin rfl rfl rfl) rfl rfl ?_
    apply GL.nil
    apply GW.seq
    refine GW.cond rfl (fun hc1 => ?_) (fun hc1 => ?_)
    · have H := condT hc1 H
      apply GW.skip
      apply GW.seq
      apply GW.block
      apply GW.seq
      obtain ⟨x4, hx4, H⟩ := bind_some H
      apply GW.region
      refine GL.py (PY.move rfl) rfl rfl ?_
      refine GL.py (PY.index rfl rfl rfl (idx_spec hx4).1 (idx_spec hx4).2.1 Try.underlying22 Try.sizeOf3) rfl rfl ?_
      refine GL.y (YT.elt (α := Int) rfl hx4 rfl Try.isAgg3) rfl rfl ?_
      refine GL.py (PY.assign rfl) rfl rfl ?_
      refine GL.py (PY.assign rfl) rfl rfl ?_
      apply GL.nil
      apply GW.seq
      apply GW.seq
      apply GW.region
      refine GL.py (PY.move rfl) rfl rfl ?_
      refine GL.py (PY.bin rfl rfl rfl) rfl rfl ?_
      apply GL.nil
      refine GW.cond rfl (fun hc2 => ?_) (fun hc2 => ?_)
      · have H := condT hc2 H
        refine GW.exit ?_
        apply GW.region
        refine GL.py (PY.bin rfl rfl rfl) rfl rfl ?_
        refine GL.py (PY.move rfl) rfl rfl ?_
        apply GL.nil
        cases H
        exact And.intro rfl ⟨⟨rfl, rfl, rfl, rfl, rfl, trivial⟩, ⟨rfl, rfl, trivial⟩, rfl⟩
      · have H := condF hc2 H
        apply GW.skip
        apply GW.seq
        apply GW.region
        refine GL.py (PY.move rfl) rfl rfl ?_
        refine GL.py (PY.len rfl rfl Try.underlying104) rfl rfl ?_
        refine GL.py (PY.assign rfl) rfl rfl ?_
        apply GL.nil
        apply GW.seq
        obtain ⟨e7, he7, H⟩ := bind_some H
        obtain ⟨i7, rfl⟩ : ∃ z, z = e7 := ⟨_, rfl⟩
        refine GW.mono (Q := QB .normal (fun (q : Bool) => (⟨[(1, .loc 0 0), (3, .osl 1 (Enc.sz SBlock) 0 (List.length l2)), (4, .val (.int .i64 i1)), (5, .val (.int .i64 x4)), (6, .val (.int .i64 (List.length l2 : Int))), (8, .sl (List.length v0.Dims) (encs v0.Dims)), (9, .val (.int .i64 (List.length v0.Dims : Int))), (10, .val (.int .i64 i1)), (36, .val (.bool q))], [(0, ⟨67, false, true, false, 0, [.val (.int .i64 v0.Start), .sl (List.length v0.Dims) (encs v0.Dims), .sl (List.length v0.Steps) (encs v0.Steps)], none⟩), (1, ⟨111, true, true, true, Enc.sz SBlock, encs l2, none⟩)], []⟩ : St)) i7) ?_ ?_
        · have H := he7
          refine (Bool.eq_false_or_eq_true (decide ((List.length l2 : Int) > 0))).elim (fun hg3 => ?_) (fun hg3 => ?_)
          · have H := condT hg3 H
            obtain ⟨x5, hx5, H⟩ := bind_some H
            obtain ⟨x6, hx6, H⟩ := bind_some H
            refine GW.draws [] mixed ?_
            change GH1 _ _ _ _ _ _ 18 _ _
            refine GH1.take 0 rfl (by decide +kernel) (by decide +kernel) (by decide +kernel) rfl rfl (by decide) ((PY.move rfl).yield _) ?_
            refine GH1.take 1 rfl (by decide +kernel) (by decide +kernel) (by decide +kernel) rfl rfl (by decide) ((PY.bin rfl rfl rfl).yield _) ?_
            refine GH1.take 2 rfl (by decide +kernel) (by decide +kernel) (by decide +kernel) rfl rfl (by decide) ((PY.move rfl).yield _) ?_
            refine GH1.lit 21 rfl hg3 ?_
            refine GH1.take 3 rfl (by decide +kernel) (by decide +kernel) (by decide +kernel) rfl rfl (by decide) ((PY.move rfl).yield _) ?_
            refine GH1.take 4 rfl (by decide +kernel) (by decide +kernel) (by decide +kernel) rfl rfl (by decide) ((PY.move rfl).yield _) ?_
            refine GH1.take 5 rfl (by decide +kernel) (by decide +kernel) (by decide +kernel) rfl rfl (by decide) ((PY.bin rfl rfl rfl).yield _) ?_
            refine GH1.take 6 rfl (by decide +kernel) (by decide +kernel) (by decide +kernel) rfl rfl (by decide) ((PY.index rfl rfl rfl (idx_spec hx5).1 (idx_spec hx5).2.1 Try.underlying104 Try.sizeOf111).yield _) ?_
            refine GH1.take 7 rfl (by decide +kernel) (by decide +kernel) (by decide +kernel) rfl rfl (by decide) ((PY.field rfl rfl Try.underlying111 rfl Try.sizeOf3 (by decide)).yield _) ?_
            refine GH1.take 8 rfl (by decide +kernel) (by decide +kernel) (by decide +kernel) rfl rfl (by decide) (YT.ownJ (α := SBlock) (j := 1) rfl rfl rfl hx5 rfl Try.isAgg3 rfl rfl) ?_
            refine GH1.take 9 rfl (by decide +kernel) (by decide +kernel) (by decide +kernel) rfl rfl (by decide) ((PY.move rfl).yield _) ?_
            refine GH1.take 10 rfl (by decide +kernel) (by decide +kernel) (by decide +kernel) rfl rfl (by decide) ((PY.field rfl rfl Try.underlying67 rfl Try.sizeOf22 (by decide)).yield _) ?_
            refine GH1.take 11 rfl (by decide +kernel) (by decide +kernel) (by decide +kernel) rfl rfl (by decide) (YL.loadN rfl rfl rfl Try.isAgg22 rfl rfl) ?_
            refine GH1.take 12 rfl (by decide +kernel) (by decide +kernel) (by decide +kernel) rfl rfl (by decide) ((PY.move rfl).yield _) ?_
            refine GH1.take 13 rfl (by decide +kernel) (by decide +kernel) (by decide +kernel) rfl rfl (by decide) ((PY.index rfl rfl rfl (idx_spec hx6).1 (idx_spec hx6).2.1 Try.underlying22 Try.sizeOf3).yield _) ?_
            refine GH1.take 14 rfl (by decide +kernel) (by decide +kernel) (by decide +kernel) rfl rfl (by decide) (YT.elt (α := Int) rfl hx6 rfl Try.isAgg3) ?_
            refine GH1.take 15 rfl (by decide +kernel) (by decide +kernel) (by decide +kernel) rfl rfl (by decide) ((PY.bin rfl rfl rfl).yield _) ?_
            refine GH1.take 16 rfl (by decide +kernel) (by decide +kernel) (by decide +kernel) rfl rfl (by decide) ((PY.bin rfl rfl rfl).yield _) ?_
            refine GH1.take 17 rfl (by decide +kernel) (by decide +kernel) (by decide +kernel) rfl rfl (by decide) ((PY.pickT rfl rfl).yield _) ?_
            refine GH1.done (by decide +kernel) ?_
            cases H
            exact And.intro rfl ⟨⟨rfl, rfl, rfl, rfl, rfl, rfl, rfl, rfl, rfl, trivial⟩, ⟨rfl, rfl, trivial⟩, rfl⟩
          · have H := condF hg3 H
            refine GW.draws [] mixed ?_
            change GH1 _ _ _ _ _ _ 18 _ _
            refine GH1.take 0 rfl (by decide +kernel) (by decide +kernel) (by decide +kernel) rfl rfl (by decide) ((PY.move rfl).yield _) ?_
            refine GH1.take 1 rfl (by decide +kernel) (by decide +kernel) (by decide +kernel) rfl rfl (by decide) ((PY.bin rfl rfl rfl).yield _) ?_
            refine GH1.take 2 rfl (by decide +kernel) (by decide +kernel) (by decide +kernel) rfl rfl (by decide) ((PY.move rfl).yield _) ?_
            refine GH1.lit 21 rfl hg3 ?_
            refine GH1.passu 3 rfl (by decide +kernel) (by decide +kernel) (by decide +kernel) rfl rfl (by decide) ?_
            refine GH1.passu 4 rfl (by decide +kernel) (by decide +kernel) (by decide +kernel) rfl rfl (by decide) ?_
            refine GH1.passu 5 rfl (by decide +kernel) (by decide +kernel) (by decide +kernel) rfl rfl (by decide) ?_
            refine GH1.passu 6 rfl (by decide +kernel) (by decide +kernel) (by decide +kernel) rfl rfl (by decide) ?_
            refine GH1.passu 7 rfl (by decide +kernel) (by decide +kernel) (by decide +kernel) rfl rfl (by decide) ?_
            refine GH1.passu 8 rfl (by decide +kernel) (by decide +kernel) (by decide +kernel) rfl rfl (by decide) ?_
            refine GH1.passu 9 rfl (by decide +kernel) (by decide +kernel) (by decide +kernel) rfl rfl (by decide) ?_
            refine GH1.passu 10 rfl (by decide +kernel) (by decide +kernel) (by decide +kernel) rfl rfl (by decide) ?_
            refine GH1.passu 11 rfl (by decide +kernel) (by decide +kernel) (by decide +kernel) rfl rfl (by decide) ?_
            refine GH1.passu 12 rfl (by decide +kernel) (by decide +kernel) (by decide +kernel) rfl rfl (by decide) ?_
            refine GH1.passu 13 rfl (by decide +kernel) (by decide +kernel) (by decide +kernel) rfl rfl (by decide) ?_
            refine GH1.passu 14 rfl (by decide +kernel) (by decide +kernel) (by decide +kernel) rfl rfl (by decide) ?_
            refine GH1.passu 15 rfl (by decide +kernel) (by decide +kernel) (by decide +kernel) rfl rfl (by decide) ?_
            refine GH1.passu 16 rfl (by decide +kernel) (by decide +kernel) (by decide +kernel) rfl rfl (by decide) ?_
            refine GH1.take 17 rfl (by decide +kernel) (by decide +kernel) (by decide +kernel) rfl rfl (by decide) ((PY.pickF rfl rfl).yield _) ?_
            refine GH1.done (by decide +kernel) ?_
            cases H
            exact And.intro rfl ⟨⟨rfl, rfl, rfl, rfl, rfl, rfl, rfl, rfl, rfl, trivial⟩, ⟨rfl, rfl, trivial⟩, rfl⟩
        · rintro _ s2 ⟨rfl, hs⟩
          refine GW.weak _ hs ?_
          refine GW.weak ⟨[(1, .loc 0 0), (3, .osl 1 (Enc.sz SBlock) 0 (List.length l2)), (4, .val (.int .i64 i1)), (5, .val (.int .i64 x4)), (6, .val (.int .i64 (List.length l2 : Int))), (8, .sl (List.length v0.Dims) (encs v0.Dims)), (9, .val (.int .i64 (List.length v0.Dims : Int))), (10, .val (.int .i64 i1)), (36, .val (.bool i7))], [(0, ⟨67, false, true, false, 0, [.val (.int .i64 v0.Start), .sl (List.length v0.Dims) (encs v0.Dims), .sl (List.length v0.Steps) (encs v0.Steps)], none⟩), (1, ⟨111, true, true, true, Enc.sz SBlock, encs l2, none⟩)], []⟩ ⟨⟨rfl, rfl, rfl, rfl, rfl, rfl, rfl, rfl, rfl, trivial⟩, ⟨rfl, rfl, trivial⟩, rfl⟩ ?_
          refine GW.cond rfl (fun hc4 => ?_) (fun hc4 => ?_)
          · have H := condT hc4 H
            obtain ⟨x8, hx8, H⟩ := bind_some H
            obtain ⟨x9, hx9, H⟩ := bind_some H
            refine GW.draws [1] mixed ?_
            change GH1 _ _ _ _ _ _ 19 _ _
            refine GH1.take 0 rfl (by decide +kernel) (by decide +kernel) (by decide +kernel) rfl rfl (by decide) ((PY.move rfl).yield _) ?_
            refine GH1.take 1 rfl (by decide +kernel) (by decide +kernel) (by decide +kernel) rfl rfl (by decide) ((PY.move rfl).yield _) ?_
            refine GH1.take 2 rfl (by decide +kernel) (by decide +kernel) (by decide +kernel) rfl rfl (by decide) ((PY.bin rfl rfl rfl).yield _) ?_
            refine GH1.take 3 rfl (by decide +kernel) (by decide +kernel) (by decide +kernel) rfl rfl (by decide) ((PY.move rfl).yield _) ?_
            refine GH1.take 4 rfl (by decide +kernel) (by decide +kernel) (by decide +kernel) rfl rfl (by decide) ((PY.move rfl).yield _) ?_
            refine GH1.take 5 rfl (by decide +kernel) (by decide +kernel) (by decide +kernel) rfl rfl (by decide) ((PY.bin rfl rfl rfl).yield _) ?_
            refine GH1.take 6 rfl (by decide +kernel) (by decide +kernel) (by decide +kernel) rfl rfl (by decide) ((PY.index rfl rfl rfl (idx_spec hx8).1 (idx_spec hx8).2.1 Try.underlying104 Try.sizeOf111).yield _) ?_
            refine GH1.take 7 rfl (by decide +kernel) (by decide +kernel) (by decide +kernel) rfl rfl (by decide) ((PY.field rfl rfl Try.underlying111 rfl Try.sizeOf3 (by decide)).yield _) ?_
            refine GH1.take 9 rfl (by decide +kernel) (by decide +kernel) (by decide +kernel) rfl rfl (by decide) ((PY.move rfl).yield _) ?_
            refine GH1.take 11 rfl (by decide +kernel) (by decide +kernel) (by decide +kernel) rfl rfl (by decide) ((PY.field rfl rfl Try.underlying67 rfl Try.sizeOf22 (by decide)).yield _) ?_
            refine GH1.take 12 rfl (by decide +kernel) (by decide +kernel) (by decide +kernel) rfl rfl (by decide) (YL.loadN rfl rfl rfl Try.isAgg22 rfl rfl) ?_
            refine GH1.take 13 rfl (by decide +kernel) (by decide +kernel) (by decide +kernel) rfl rfl (by decide) ((PY.move rfl).yield _) ?_
            refine GH1.take 14 rfl (by decide +kernel) (by decide +kernel) (by decide +kernel) rfl rfl (by decide) ((PY.index rfl rfl rfl (idx_spec hx9).1 (idx_spec hx9).2.1 Try.underlying22 Try.sizeOf3).yield _) ?_
            refine GH1.take 15 rfl (by decide +kernel) (by decide +kernel) (by decide +kernel) rfl rfl (by decide) (YT.elt (α := Int) rfl hx9 rfl Try.isAgg3) ?_
            refine GH1.later ?_
            refine GH2.oneY 8 (by decide +kernel) rfl rfl rfl (by decide) (YT.ownJ (α := SBlock) (j := 0) rfl rfl rfl hx8 rfl Try.isAgg3 rfl rfl) ?_
            refine GH2.take 10 rfl (by decide +kernel) (by decide +kernel) (by decide +kernel) rfl rfl (by decide) (PY.bin rfl rfl rfl) ?_
            refine GH2.take 16 rfl (by decide +kernel) (by decide +kernel) (by decide +kernel) rfl rfl (by decide) (PY.build (out := [.val (.int .i64 (IntKind.i64.wrap (x8.size * x4))), .val (.int .i64 x9)]) Try.underlying111 build111.1 (build111.2 _ Try.underlying111) rfl rfl) ?_
            refine GH2.take 17 rfl (by decide +kernel) (by decide +kernel) (by decide +kernel) rfl rfl (by decide) (PY.index rfl rfl rfl (idx_spec hx8).1 (idx_spec hx8).2.1 Try.underlying104 Try.sizeOf111) ?_
            refine GH2.one 18 (by decide +kernel) rfl rfl (fun d e => by cases e) (ET.setS (α := SBlock) (x := (⟨IntKind.i64.wrap (x8.size * x4), x9⟩ : SBlock)) rfl rfl rfl rfl rfl rfl rfl rfl rfl (idx_spec hx8).1 (idx_spec hx8).2.1 Try.sizeOf111 rfl) ?_
            rintro _ rfl
            refine GH2.resl 3 rfl (show List.length l2 = List.length (List.set l2 (Int.toNat (IntKind.i64.wrap ((List.length l2 : Int) - 1))) (⟨IntKind.i64.wrap (x8.size * x4), x9⟩ : SBlock)) from List.length_set.symm) ?_
            refine GH2.resl 37 rfl (show List.length l2 = List.length (List.set l2 (Int.toNat (IntKind.i64.wrap ((List.length l2 : Int) - 1))) (⟨IntKind.i64.wrap (x8.size * x4), x9⟩ : SBlock)) from List.length_set.symm) ?_
            refine GH2.resl 40 rfl (show List.length l2 = List.length (List.set l2 (Int.toNat (IntKind.i64.wrap ((List.length l2 : Int) - 1))) (⟨IntKind.i64.wrap (x8.size * x4), x9⟩ : SBlock)) from List.length_set.symm) ?_
            refine GH2.done (by decide +kernel) ?_
            apply GW.region
            refine GL.py (PY.bin rfl rfl rfl) rfl rfl ?_
            refine GL.py (PY.move rfl) rfl rfl ?_
            apply GL.nil
            cases H
            exact And.intro rfl ⟨⟨rfl, rfl, rfl, rfl, rfl, trivial⟩, ⟨rfl, rfl, trivial⟩, rfl⟩
          · have H := condF hc4 H
            obtain ⟨x10, hx10, H⟩ := bind_some H
            obtain ⟨_, ha5, H⟩ := bind_some H
            replace ha5 := chk_spec ha5
            apply GW.region
            refine GL.py (PY.move rfl) rfl rfl ?_
            refine GL.py (PY.move rfl) rfl rfl ?_
            refine GL.py (PY.field rfl rfl Try.underlying67 rfl Try.sizeOf22 (by decide)) rfl rfl ?_
            refine GL.y (YL.loadN rfl rfl rfl Try.isAgg22 rfl rfl) rfl rfl ?_
            refine GL.py (PY.move rfl) rfl rfl ?_
            refine GL.py (PY.index rfl rfl rfl (idx_spec hx10).1 (idx_spec hx10).2.1 Try.underlying22 Try.sizeOf3) rfl rfl ?_
            refine GL.y (YT.elt (α := Int) rfl hx10 rfl Try.isAgg3) rfl rfl ?_
            refine GL.py (PY.build (out := [.val (.int .i64 x4), .val (.int .i64 x10)]) Try.underlying111 build111.1 (build111.2 _ Try.underlying111) rfl rfl) rfl rfl ?_
            refine GL.e1 (W := []) (EF.buildSlice 19 rfl rfl Try.underlying104 info111 (by decide) (by decide) rfl rfl) rfl rfl ?_
            refine GL.purify (cs := encs (α := SBlock) [(⟨x4, x10⟩ : SBlock)]) (f := true) 19 rfl rfl rfl ?_
            refine GL.e1 (ET.append (α := SBlock) (m := [(⟨x4, x10⟩ : SBlock)]) (W := [1]) rfl rfl rfl rfl rfl rfl rfl (gsrc_vec (α := SBlock) (l := [(⟨x4, x10⟩ : SBlock)]) rfl rfl rfl) rfl Try.underlying104 info111 rfl ha5.1 ha5.2 rfl) rfl rfl ?_
            refine GL.py (PY.assign rfl) rfl rfl ?_
            apply GL.nil
            apply GW.region
            refine GL.py (PY.bin rfl rfl rfl) rfl rfl ?_
            refine GL.py (PY.move rfl) rfl rfl ?_
            apply GL.nil
            cases H
            exact And.intro rfl ⟨⟨rfl, rfl, rfl, rfl, rfl, trivial⟩, ⟨rfl, rfl, trivial⟩, rfl⟩
    · have H := condF hc1 H
      refine GW.exit ?_
      cases H
      exact And.intro exit_ne (And.intro rfl ⟨⟨rfl, trivial⟩, ⟨rfl, trivial⟩, rfl⟩)
  · obtain ⟨rfl, hs⟩ := hx
    obtain ⟨l3, rfl⟩ : ∃ z, z = e8 := ⟨_, rfl⟩
    refine GW.weak _ hs ?_
    refine GW.weak ⟨[(3, .osl 1 (Enc.sz SBlock) 0 (List.length l3))], [(1, ⟨111, true, true, true, Enc.sz SBlock, encs l3, none⟩)], []⟩ ⟨⟨rfl, trivial⟩, ⟨rfl, trivial⟩, rfl⟩ ?_
    apply GW.seq
    apply GW.region
    refine GL.py (PY.move rfl) rfl rfl ?_
    refine GL.py (PY.assign rfl) rfl rfl ?_
    apply GL.nil
    refine GW.move 1 600 rfl rfl ?_
    refine GW.ret ?_
    have H := Option.some.inj H
    subst H
    exact RetQ.mk (.inl rfl) [.osl 600 (Enc.sz SBlock) 0 (List.length l3)] _ [(600, ⟨111, true, true, true, Enc.sz SBlock, encs l3, none⟩)] ⟨Res.tmp rfl, trivial⟩ ⟨rfl, trivial⟩ rfl ⟨rfl, rfl⟩
theorem slices_Backward_ok (fu : Nat) (s0 : (List Int)) (r : (List Int)) (H : F.slices_Backward fu s0 = some r) : GM Try.prog 87 [.sl (List.length s0) (encs s0)] [] (fun g st => g = .clo 107 [.ptr [.sl (List.length r) (encs r)]] ∧ st = []) := by
 unfold F.slices_Backward at H
 refine GM.strip ?_
 refine GM.of (N := 4) Try.func87 rfl rfl rfl (fun cx hro => ?_)
 apply GW.seq
 apply GW.region
 refine GL.e1 (W := []) (EF.box 0 rfl rfl rfl) rfl rfl ?_
 refine GL.py (PY.assign rfl) rfl rfl ?_
 apply GL.nil
 apply GW.seq
 apply GW.region
 refine GL.py (PY.makeFunc (gs := [.loc 0 0]) rfl) rfl rfl ?_
 refine GL.py (PY.assign rfl) rfl rfl ?_
 apply GL.nil
 refine GW.ret ?_
 have H := Option.some.inj H
 subst H
 exact RetQ.mk (.inl rfl) [.clo 107 [.loc 0 0]] _ [] ⟨Res.tmp rfl, trivial⟩ trivial rfl ⟨rfl, rfl⟩
noncomputable def view_Reform_y1_lp (fn : FuncId) (j : Option Code) : Lp := ⟨fn, 110, [4, 5, 11, 12], #[56, 57], cAsg (cBlk (cSeqR (cSeqL (cSeqR (cSeqR (cSeqR (cSeqR (cSeqR (cSeqR (cSeqR (cSeqR (cOf Try.f59)))))))))))), cBody (cBlk (cSeqR (cSeqL (cSeqR (cSeqR (cSeqR (cSeqR (cSeqR (cSeqR (cSeqR (cSeqR (cOf Try.f59)))))))))))), j⟩
theorem view_Reform_y1_ok (fn : FuncId) (fu : Nat) (a0 : Int) (a00 : Int) (b0 : SView) (c0 : Int) (c00 : Int) (l0 : (List Int)) (l00 : (List Int)) (l000 : (List SBlock)) (r : (SView × Int × (List Int) × (List SBlock) × Jp)) (H : F.view_Reform_y1 fu a0 a00 b0 c0 c00 l0 l00 l000 = some r) : GY Try.prog (view_Reform_y1_lp fn none) [.loc 1000 0, .loc 1001 0, .loc 1002 0, .loc 1005 0] [.val (.int .i64 a0), .val (.int .i64 a00)] [(1000, ⟨67, false, false, false, 0, [.val (.int .i64 b0.Start), .sl (List.length b0.Dims) (encs b0.Dims), .sl (List.length b0.Steps) (encs b0.Steps)], none⟩), (1001, ⟨26, false, false, false, 0, [.val (.int .i64 c0)], none⟩), (1002, ⟨67, false, false, false, 0, [.val (.int .i64 c00), .osl 1003 (Enc.sz Int) 0 (List.length l0), .osl 1004 (Enc.sz Int) 0 (List.length l00)], none⟩), (1003, ⟨3, true, false, false, Enc.sz Int, encs l0, none⟩), (1004, ⟨3, true, false, false, Enc.sz Int, encs l00, none⟩), (1005, ⟨104, false, false, false, 0, [.osl 1006 (Enc.sz SBlock) 0 (List.length l000)], none⟩), (1006, ⟨111, true, false, false, Enc.sz SBlock, encs l000, none⟩)] (fun j st => j = (jmpc 0 r.2.2.2.2) ∧ st = [(1000, ⟨67, false, false, false, 0, [.val (.int .i64 r.1.Start), .sl (List.length r.1.Dims) (encs r.1.Dims), .sl (List.length r.1.Steps) (encs r.1.Steps)], none⟩), (1001, ⟨26, false, false, false, 0, [.val (.int .i64 r.2.1)], none⟩), (1002, ⟨67, false, false, false, 0, [.val (.int .i64 c00), .osl 1003 (Enc.sz Int) 0 (List.length l0), .osl 1004 (Enc.sz Int) 0 (List.length r.2.2.1)], none⟩), (1003, ⟨3, true, false, true, Enc.sz Int, encs l0, none⟩), (1004, ⟨3, true, false, true, Enc.sz Int, encs r.2.2.1, none⟩), (1005, ⟨104, false, false, false, 0, [.osl 1006 (Enc.sz SBlock) 0 (List.length r.2.2.2.1)], none⟩), (1006, ⟨111, true, false, true, Enc.sz SBlock, encs r.2.2.2.1, none⟩)]) := by
  unfold F.view_Reform_y1 at H
  refine GY.of rfl rfl (fun cx => ?_)
  change GW _ 110 _ _ _ _
  refine GW.weak ⟨[(4, .loc 1000 0), (5, .loc 1001 0), (11, .loc 1002 0), (12, .loc 1005 0), (56, .val (.int .i64 a0)), (57, .val (.int .i64 a00))], [(1000, ⟨67, false, false, false, 0, [.val (.int .i64 b0.Start), .sl (List.length b0.Dims) (encs b0.Dims), .sl (List.length b0.Steps) (encs b0.Steps)], none⟩), (1001, ⟨26, false, false, false, 0, [.val (.int .i64 c0)], none⟩), (1002, ⟨67, false, false, false, 0, [.val (.int .i64 c00), .osl 1003 (Enc.sz Int) 0 (List.length l0), .osl 1004 (Enc.sz Int) 0 (List.length l00)], none⟩), (1003, ⟨3, true, false, false, Enc.sz Int, encs l0, none⟩), (1004, ⟨3, true, false, false, Enc.sz Int, encs l00, none⟩), (1005, ⟨104, false, false, false, 0, [.osl 1006 (Enc.sz SBlock) 0 (List.length l000)], none⟩), (1006, ⟨111, true, false, false, Enc.sz SBlock, encs l000, none⟩)], []⟩ ⟨⟨rfl, rfl, rfl, rfl, rfl, rfl, trivial⟩, ⟨rfl, rfl, rfl, rfl, rfl, rfl, rfl, trivial⟩, rfl⟩ ?_
  refine GW.refresh (α := Int) (l := l0) 1003 rfl rfl rfl ?_
  refine GW.refresh (α := Int) (l := l00) 1004 rfl rfl rfl ?_
  refine GW.refresh (α := SBlock) (l := l000) 1006 rfl rfl rfl ?_
  apply GW.seq
  apply GW.region
  refine GL.py (PY.assign rfl) rfl rfl ?_
  apply GL.nil
  apply GW.region
  refine GL.py (PY.assign rfl) rfl rfl ?_
  apply GL.nil
  refine ⟨rfl, fun cx2 => ?_⟩
  change GW _ 110 _ _ _ _
  apply GW.block
  apply GW.seq
  apply GW.seq
  apply GW.region
  refine GL.py (PY.move rfl) rfl rfl ?_
  refine GL.py (PY.bin rfl rfl rfl) rfl rfl ?_
  apply GL.nil
  refine GW.cond rfl (fun hc1 => ?_) (fun hc1 => ?_)
  · have H := condT hc1 H
    refine GW.exit ?_
    have H := Option.some.inj H
    subst H
    exact ⟨rfl, [(1000, ⟨67, false, false, false, 0, [.val (.int .i64 b0.Start), .sl (List.length b0.Dims) (encs b0.Dims), .sl (List.length b0.Steps) (encs b0.Steps)], none⟩), (1001, ⟨26, false, false, false, 0, [.val (.int .i64 c0)], none⟩), (1002, ⟨67, false, false, false, 0, [.val (.int .i64 c00), .osl 1003 (Enc.sz Int) 0 (List.length l0), .osl 1004 (Enc.sz Int) 0 (List.length l00)], none⟩), (1003, ⟨3, true, false, true, Enc.sz Int, encs l0, none⟩), (1004, ⟨3, true, false, true, Enc.sz Int, encs l00, none⟩), (1005, ⟨104, false, false, false, 0, [.osl 1006 (Enc.sz SBlock) 0 (List.length l000)], none⟩), (1006, ⟨111, true, false, true, Enc.sz SBlock, encs l000, none⟩)], ⟨rfl, rfl, rfl, rfl, rfl, rfl, rfl, trivial⟩, rfl, rfl⟩
  · have H := condF hc1 H
    apply GW.skip
    apply GW.seq
    obtain ⟨x1, hx1, H⟩ := bind_some H
    apply GW.region
    refine GL.y (YL.loadN rfl rfl rfl Try.isAgg104 rfl rfl) rfl rfl ?_
    refine GL.y (YL.loadN rfl rfl rfl Try.isAgg104 rfl rfl) rfl rfl ?_
    refine GL.py (PY.len rfl rfl Try.underlying104) rfl rfl ?_
    refine GL.py (PY.bin rfl rfl rfl) rfl rfl ?_
    refine GL.py (PY.index rfl rfl rfl (idx_spec hx1).1 (idx_spec hx1).2.1 Try.underlying104 Try.sizeOf111) rfl rfl ?_
    refine GL.py (PY.assign rfl) rfl rfl ?_
    apply GL.nil
    apply GW.seq
    apply GW.seq
    obtain ⟨_, hz2, H⟩ := bind_some H
    replace hz2 := chk_spec hz2
    apply GW.region
    refine GL.py (PY.move rfl) rfl rfl ?_
    refine GL.py (PY.nilCheck rfl rfl) rfl rfl ?_
    refine GL.py (PY.field rfl rfl Try.underlying111 rfl Try.sizeOf3 (by decide)) rfl rfl ?_
    refine GL.y (YT.ownJ (α := SBlock) (j := 0) rfl rfl rfl hx1 rfl Try.isAgg3 rfl rfl) rfl rfl ?_
    refine GL.py (PY.move rfl) rfl rfl ?_
    refine GL.py (PY.rem rfl rfl hz2) rfl rfl ?_
    refine GL.py (PY.bin rfl rfl rfl) rfl rfl ?_
    apply GL.nil
    refine GW.cond rfl (fun hc4 => ?_) (fun hc4 => ?_)
    · have H := condT hc4 H
      apply GW.seq
      apply GW.region
      refine GL.py (PY.build (out := [.val (.int .i64 0), .val (.slice none 0 0), .val (.slice none 0 0)]) Try.underlying67 build67.1 (build67.2 _ Try.underlying67) rfl rfl) rfl rfl ?_
      refine GL.e0 (EF.storeN (W := [1000]) (cells' := [.val (.int .i64 0), .val (.slice none 0 0), .val (.slice none 0 0)]) rfl rfl rfl rfl rfl rfl rfl rfl Try.sizeOf67 (Nat.le_of_ble_eq_true rfl) rfl rfl) rfl ?_
      refine GL.plain 1000 rfl rfl ?_
      refine GL.e0 (EF.storeN (W := [1001]) (cells' := [.val (.int .i64 9)]) rfl rfl rfl rfl rfl rfl rfl rfl Try.sizeOf26 (Nat.le_of_ble_eq_true rfl) rfl rfl) rfl ?_
      apply GL.nil
      refine GW.ret ?_
      have H := Option.some.inj H
      subst H
      exact ⟨rfl, [(1000, ⟨67, false, false, false, 0, [.val (.int .i64 0), .sl (List.length ([] : (List Int))) (encs ([] : (List Int))), .sl (List.length ([] : (List Int))) (encs ([] : (List Int)))], none⟩), (1001, ⟨26, false, false, false, 0, [.val (.int .i64 9)], none⟩), (1002, ⟨67, false, false, false, 0, [.val (.int .i64 c00), .osl 1003 (Enc.sz Int) 0 (List.length l0), .osl 1004 (Enc.sz Int) 0 (List.length l00)], none⟩), (1003, ⟨3, true, false, true, Enc.sz Int, encs l0, none⟩), (1004, ⟨3, true, false, true, Enc.sz Int, encs l00, none⟩), (1005, ⟨104, false, false, false, 0, [.osl 1006 (Enc.sz SBlock) 0 (List.length l000)], none⟩), (1006, ⟨111, true, false, true, Enc.sz SBlock, encs l000, none⟩)], ⟨rfl, rfl, rfl, rfl, rfl, rfl, rfl, trivial⟩, rfl, rfl⟩
    · have H := condF hc4 H
      apply GW.skip
      apply GW.seq
      obtain ⟨x2, hx2, H⟩ := bind_some H
      refine GW.draws [1004] mixed ?_
      change GH1 _ _ _ _ _ _ 9 _ _
      refine GH1.take 0 rfl (by decide +kernel) (by decide +kernel) (by decide +kernel) rfl rfl (by decide) ((PY.field rfl rfl Try.underlying67 rfl Try.sizeOf22 (by decide)).yield _) ?_
      refine GH1.take 1 rfl (by decide +kernel) (by decide +kernel) (by decide +kernel) rfl rfl (by decide) (YL.loadN rfl rfl rfl Try.isAgg22 rfl rfl) ?_
      refine GH1.take 2 rfl (by decide +kernel) (by decide +kernel) (by decide +kernel) rfl rfl (by decide) ((PY.move rfl).yield _) ?_
      refine GH1.take 3 rfl (by decide +kernel) (by decide +kernel) (by decide +kernel) rfl rfl (by decide) ((PY.move rfl).yield _) ?_
      refine GH1.take 4 rfl (by decide +kernel) (by decide +kernel) (by decide +kernel) rfl rfl (by decide) ((PY.nilCheck rfl rfl).yield _) ?_
      refine GH1.take 5 rfl (by decide +kernel) (by decide +kernel) (by decide +kernel) rfl rfl (by decide) ((PY.field rfl rfl Try.underlying111 rfl Try.sizeOf3 (by decide)).yield _) ?_
      refine GH1.take 6 rfl (by decide +kernel) (by decide +kernel) (by decide +kernel) rfl rfl (by decide) (YT.ownJ (α := SBlock) (j := 1) rfl rfl rfl hx1 rfl Try.isAgg3 rfl rfl) ?_
      refine GH1.take 7 rfl (by decide +kernel) (by decide +kernel) (by decide +kernel) rfl rfl (by decide) ((PY.index rfl rfl rfl (idx_spec hx2).1 (idx_spec hx2).2.1 Try.underlying22 Try.sizeOf3).yield _) ?_
      refine GH1.later ?_
      refine GH2.one 8 (by decide +kernel) rfl rfl (fun d e => by cases e) (ET.set (α := Int) (x := x1.step) rfl rfl rfl rfl rfl rfl rfl rfl rfl (idx_spec hx2).1 (idx_spec hx2).2.1 Try.sizeOf3 rfl) ?_
      rintro _ rfl
      refine GH2.resl 74 rfl (show List.length l00 = List.length (List.set l00 (Int.toNat a0) x1.step) from List.length_set.symm) ?_
      refine GH2.resC 1002 2 rfl rfl (show List.length l00 = List.length (List.set l00 (Int.toNat a0) x1.step) from List.length_set.symm) ?_
      refine GH2.done (by decide +kernel) ?_
      apply GW.seq
      refine GW.mono (Q := QB .normal (fun (q : Unit) => (⟨[(12, .loc 1005 0), (15, .loc 1006 (0 + Int.toNat (IntKind.i64.wrap ((List.length l000 : Int) - 1)) * Enc.sz SBlock))], [(1000, ⟨67, false, false, false, 0, [.val (.int .i64 b0.Start), .sl (List.length b0.Dims) (encs b0.Dims), .sl (List.length b0.Steps) (encs b0.Steps)], none⟩), (1001, ⟨26, false, false, false, 0, [.val (.int .i64 c0)], none⟩), (1002, ⟨67, false, false, false, 0, [.val (.int .i64 c00), .osl 1003 (Enc.sz Int) 0 (List.length l0), .osl 1004 (Enc.sz Int) 0 (List.length (List.set l00 (Int.toNat a0) x1.step))], none⟩), (1003, ⟨3, true, false, true, Enc.sz Int, encs l0, none⟩), (1004, ⟨3, true, false, true, Enc.sz Int, encs (List.set l00 (Int.toNat a0) x1.step), none⟩), (1005, ⟨104, false, false, false, 0, [.osl 1006 (Enc.sz SBlock) 0 (List.length (List.set l000 (Int.toNat (IntKind.i64.wrap ((List.length l000 : Int) - 1))) (⟨IntKind.i64.wrap (Int.tdiv x1.size a00), IntKind.i64.wrap (x1.step * a00)⟩ : SBlock)))], none⟩), (1006, ⟨111, true, false, true, Enc.sz SBlock, encs (List.set l000 (Int.toNat (IntKind.i64.wrap ((List.length l000 : Int) - 1))) (⟨IntKind.i64.wrap (Int.tdiv x1.size a00), IntKind.i64.wrap (x1.step * a00)⟩ : SBlock)), none⟩)], []⟩ : St)) ()) ?_ ?_
      · refine GW.draws [1006] mixed ?_
        change GH1 _ _ _ _ _ _ 16 _ _
        refine GH1.take 0 rfl (by decide +kernel) (by decide +kernel) (by decide +kernel) rfl rfl (by decide) ((PY.move rfl).yield _) ?_
        refine GH1.take 1 rfl (by decide +kernel) (by decide +kernel) (by decide +kernel) rfl rfl (by decide) ((PY.move rfl).yield _) ?_
        refine GH1.take 2 rfl (by decide +kernel) (by decide +kernel) (by decide +kernel) rfl rfl (by decide) ((PY.nilCheck rfl rfl).yield _) ?_
        refine GH1.take 3 rfl (by decide +kernel) (by decide +kernel) (by decide +kernel) rfl rfl (by decide) ((PY.field rfl rfl Try.underlying111 rfl Try.sizeOf3 (by decide)).yield _) ?_
        refine GH1.take 5 rfl (by decide +kernel) (by decide +kernel) (by decide +kernel) rfl rfl (by decide) ((PY.move rfl).yield _) ?_
        refine GH1.take 7 rfl (by decide +kernel) (by decide +kernel) (by decide +kernel) rfl rfl (by decide) ((PY.move rfl).yield _) ?_
        refine GH1.take 8 rfl (by decide +kernel) (by decide +kernel) (by decide +kernel) rfl rfl (by decide) ((PY.nilCheck rfl rfl).yield _) ?_
        refine GH1.take 9 rfl (by decide +kernel) (by decide +kernel) (by decide +kernel) rfl rfl (by decide) ((PY.field rfl rfl Try.underlying111 rfl Try.sizeOf3 (by decide)).yield _) ?_
        refine GH1.take 11 rfl (by decide +kernel) (by decide +kernel) (by decide +kernel) rfl rfl (by decide) ((PY.move rfl).yield _) ?_
        refine GH1.later ?_
        refine GH2.any 4 [10] (by decide +kernel) ⟨Turn.y 4 rfl rfl rfl (by decide) (YT.ownJ (α := SBlock) (j := 0) rfl rfl rfl hx1 rfl Try.isAgg3 rfl rfl) ?_, Turn.y 10 rfl rfl rfl (by decide) (YT.ownJ (α := SBlock) (j := 1) rfl rfl rfl hx1 rfl Try.isAgg3 rfl rfl) ?_, trivial⟩
        · refine GH2.take 6 rfl (by decide +kernel) (by decide +kernel) (by decide +kernel) rfl rfl (by decide) (PY.quo rfl rfl hz2) ?_
          refine GH2.oneY 10 (by decide +kernel) rfl rfl rfl (by decide) (YT.ownJ (α := SBlock) (j := 1) rfl rfl rfl hx1 rfl Try.isAgg3 rfl rfl) ?_
          refine GH2.take 12 rfl (by decide +kernel) (by decide +kernel) (by decide +kernel) rfl rfl (by decide) (PY.bin rfl rfl rfl) ?_
          refine GH2.take 13 rfl (by decide +kernel) (by decide +kernel) (by decide +kernel) rfl rfl (by decide) (PY.build (out := [.val (.int .i64 (IntKind.i64.wrap (Int.tdiv x1.size a00))), .val (.int .i64 (IntKind.i64.wrap (x1.step * a00)))]) Try.underlying111 build111.1 (build111.2 _ Try.underlying111) rfl rfl) ?_
          refine GH2.take 14 rfl (by decide +kernel) (by decide +kernel) (by decide +kernel) rfl rfl (by decide) (PY.nilCheck rfl rfl) ?_
          refine GH2.one 15 (by decide +kernel) rfl rfl (fun d e => by cases e) (ET.setS (α := SBlock) (x := (⟨IntKind.i64.wrap (Int.tdiv x1.size a00), IntKind.i64.wrap (x1.step * a00)⟩ : SBlock)) rfl rfl rfl rfl rfl rfl rfl rfl rfl (idx_spec hx1).1 (idx_spec hx1).2.1 Try.sizeOf111 rfl) ?_
          rintro _ rfl
          refine GH2.resC 1005 0 rfl rfl (show List.length l000 = List.length (List.set l000 (Int.toNat (IntKind.i64.wrap ((List.length l000 : Int) - 1))) (⟨IntKind.i64.wrap (Int.tdiv x1.size a00), IntKind.i64.wrap (x1.step * a00)⟩ : SBlock)) from List.length_set.symm) ?_
          refine GH2.done (by decide +kernel) ?_
          exact And.intro rfl ⟨⟨rfl, rfl, trivial⟩, ⟨rfl, rfl, rfl, rfl, rfl, rfl, rfl, trivial⟩, rfl⟩
        · refine GH2.take 12 rfl (by decide +kernel) (by decide +kernel) (by decide +kernel) rfl rfl (by decide) (PY.bin rfl rfl rfl) ?_
          refine GH2.oneY 4 (by decide +kernel) rfl rfl rfl (by decide) (YT.ownJ (α := SBlock) (j := 0) rfl rfl rfl hx1 rfl Try.isAgg3 rfl rfl) ?_
          refine GH2.take 6 rfl (by decide +kernel) (by decide +kernel) (by decide +kernel) rfl rfl (by decide) (PY.quo rfl rfl hz2) ?_
          refine GH2.take 13 rfl (by decide +kernel) (by decide +kernel) (by decide +kernel) rfl rfl (by decide) (PY.build (out := [.val (.int .i64 (IntKind.i64.wrap (Int.tdiv x1.size a00))), .val (.int .i64 (IntKind.i64.wrap (x1.step * a00)))]) Try.underlying111 build111.1 (build111.2 _ Try.underlying111) rfl rfl) ?_
          refine GH2.take 14 rfl (by decide +kernel) (by decide +kernel) (by decide +kernel) rfl rfl (by decide) (PY.nilCheck rfl rfl) ?_
          refine GH2.one 15 (by decide +kernel) rfl rfl (fun d e => by cases e) (ET.setS (α := SBlock) (x := (⟨IntKind.i64.wrap (Int.tdiv x1.size a00), IntKind.i64.wrap (x1.step * a00)⟩ : SBlock)) rfl rfl rfl rfl rfl rfl rfl rfl rfl (idx_spec hx1).1 (idx_spec hx1).2.1 Try.sizeOf111 rfl) ?_
          rintro _ rfl
          refine GH2.resC 1005 0 rfl rfl (show List.length l000 = List.length (List.set l000 (Int.toNat (IntKind.i64.wrap ((List.length l000 : Int) - 1))) (⟨IntKind.i64.wrap (Int.tdiv x1.size a00), IntKind.i64.wrap (x1.step * a00)⟩ : SBlock)) from List.length_set.symm) ?_
          refine GH2.done (by decide +kernel) ?_
          exact And.intro rfl ⟨⟨rfl, rfl, trivial⟩, ⟨rfl, rfl, rfl, rfl, rfl, rfl, rfl, trivial⟩, rfl⟩
      · rintro _ s2 ⟨rfl, hs⟩
        refine GW.weak _ hs ?_
        refine GW.weak ⟨[(12, .loc 1005 0), (15, .loc 1006 (0 + Int.toNat (IntKind.i64.wrap ((List.length l000 : Int) - 1)) * Enc.sz SBlock))], [(1000, ⟨67, false, false, false, 0, [.val (.int .i64 b0.Start), .sl (List.length b0.Dims) (encs b0.Dims), .sl (List.length b0.Steps) (encs b0.Steps)], none⟩), (1001, ⟨26, false, false, false, 0, [.val (.int .i64 c0)], none⟩), (1002, ⟨67, false, false, false, 0, [.val (.int .i64 c00), .osl 1003 (Enc.sz Int) 0 (List.length l0), .osl 1004 (Enc.sz Int) 0 (List.length (List.set l00 (Int.toNat a0) x1.step))], none⟩), (1003, ⟨3, true, false, true, Enc.sz Int, encs l0, none⟩), (1004, ⟨3, true, false, true, Enc.sz Int, encs (List.set l00 (Int.toNat a0) x1.step), none⟩), (1005, ⟨104, false, false, false, 0, [.osl 1006 (Enc.sz SBlock) 0 (List.length (List.set l000 (Int.toNat (IntKind.i64.wrap ((List.length l000 : Int) - 1))) (⟨IntKind.i64.wrap (Int.tdiv x1.size a00), IntKind.i64.wrap (x1.step * a00)⟩ : SBlock)))], none⟩), (1006, ⟨111, true, false, true, Enc.sz SBlock, encs (List.set l000 (Int.toNat (IntKind.i64.wrap ((List.length l000 : Int) - 1))) (⟨IntKind.i64.wrap (Int.tdiv x1.size a00), IntKind.i64.wrap (x1.step * a00)⟩ : SBlock)), none⟩)], []⟩ ⟨⟨rfl, rfl, trivial⟩, ⟨rfl, rfl, rfl, rfl, rfl, rfl, rfl, trivial⟩, rfl⟩ ?_
        apply GW.seq
        obtain ⟨x3, hx3, H⟩ := bind_some H
        apply GW.region
        refine GL.py (PY.move rfl) rfl rfl ?_
        refine GL.py (PY.nilCheck rfl rfl) rfl rfl ?_
        refine GL.py (PY.field rfl rfl Try.underlying111 rfl Try.sizeOf3 (by decide)) rfl rfl ?_
        refine GL.y (YT.ownJ (α := SBlock) (j := 0) rfl rfl rfl hx3 rfl Try.isAgg3 rfl rfl) rfl rfl ?_
        refine GL.py (PY.bin rfl rfl rfl) rfl rfl ?_
        apply GL.nil
        refine GW.cond rfl (fun hc10 => ?_) (fun hc10 => ?_)
        · have H := condT hc10 H
          obtain ⟨_, hs11, H⟩ := bind_some H
          replace hs11 := chk_spec hs11
          apply GW.region
          refine GL.y (YL.loadN rfl rfl rfl Try.isAgg104 rfl rfl) rfl rfl ?_
          refine GL.y (YL.loadN rfl rfl rfl Try.isAgg104 rfl rfl) rfl rfl ?_
          refine GL.py (PY.len rfl rfl Try.underlying104) rfl rfl ?_
          refine GL.py (PY.bin rfl rfl rfl) rfl rfl ?_
          refine GL.py (PY.sliceO (α := SBlock) rfl rfl Try.underlying104 Try.sizeOf111 hs11.1 hs11.2) rfl rfl ?_
          refine GL.trunc (α := SBlock) (l := List.set l000 (Int.toNat (IntKind.i64.wrap ((List.length l000 : Int) - 1))) (⟨IntKind.i64.wrap (Int.tdiv x1.size a00), IntKind.i64.wrap (x1.step * a00)⟩ : SBlock)) 1006 rfl rfl (Int.toNat (IntKind.i64.wrap ((List.length (List.set l000 (Int.toNat (IntKind.i64.wrap ((List.length l000 : Int) - 1))) (⟨IntKind.i64.wrap (Int.tdiv x1.size a00), IntKind.i64.wrap (x1.step * a00)⟩ : SBlock)) : Int) - 1))) ?_
          refine GL.resl 105 rfl (take_len hs11.1 hs11.2) ?_
          refine GL.e0 (EF.storeN (W := [1005]) (cells' := [.osl 1006 (Enc.sz SBlock) 0 (List.length (List.take (Int.toNat (IntKind.i64.wrap ((List.length (List.set l000 (Int.toNat (IntKind.i64.wrap ((List.length l000 : Int) - 1))) (⟨IntKind.i64.wrap (Int.tdiv x1.size a00), IntKind.i64.wrap (x1.step * a00)⟩ : SBlock)) : Int) - 1))) (List.set l000 (Int.toNat (IntKind.i64.wrap ((List.length l000 : Int) - 1))) (⟨IntKind.i64.wrap (Int.tdiv x1.size a00), IntKind.i64.wrap (x1.step * a00)⟩ : SBlock))))]) rfl rfl rfl rfl rfl rfl rfl rfl Try.sizeOf104 (Nat.le_of_ble_eq_true rfl) rfl rfl) rfl ?_
          apply GL.nil
          have H := Option.some.inj H
          subst H
          exact ⟨rfl, [(1000, ⟨67, false, false, false, 0, [.val (.int .i64 b0.Start), .sl (List.length b0.Dims) (encs b0.Dims), .sl (List.length b0.Steps) (encs b0.Steps)], none⟩), (1001, ⟨26, false, false, false, 0, [.val (.int .i64 c0)], none⟩), (1002, ⟨67, false, false, false, 0, [.val (.int .i64 c00), .osl 1003 (Enc.sz Int) 0 (List.length l0), .osl 1004 (Enc.sz Int) 0 (List.length (List.set l00 (Int.toNat a0) x1.step))], none⟩), (1003, ⟨3, true, false, true, Enc.sz Int, encs l0, none⟩), (1004, ⟨3, true, false, true, Enc.sz Int, encs (List.set l00 (Int.toNat a0) x1.step), none⟩), (1005, ⟨104, false, false, false, 0, [.osl 1006 (Enc.sz SBlock) 0 (List.length (List.take (Int.toNat (IntKind.i64.wrap ((List.length (List.set l000 (Int.toNat (IntKind.i64.wrap ((List.length l000 : Int) - 1))) (⟨IntKind.i64.wrap (Int.tdiv x1.size a00), IntKind.i64.wrap (x1.step * a00)⟩ : SBlock)) : Int) - 1))) (List.set l000 (Int.toNat (IntKind.i64.wrap ((List.length l000 : Int) - 1))) (⟨IntKind.i64.wrap (Int.tdiv x1.size a00), IntKind.i64.wrap (x1.step * a00)⟩ : SBlock))))], none⟩), (1006, ⟨111, true, false, true, Enc.sz SBlock, encs (List.take (Int.toNat (IntKind.i64.wrap ((List.length (List.set l000 (Int.toNat (IntKind.i64.wrap ((List.length l000 : Int) - 1))) (⟨IntKind.i64.wrap (Int.tdiv x1.size a00), IntKind.i64.wrap (x1.step * a00)⟩ : SBlock)) : Int) - 1))) (List.set l000 (Int.toNat (IntKind.i64.wrap ((List.length l000 : Int) - 1))) (⟨IntKind.i64.wrap (Int.tdiv x1.size a00), IntKind.i64.wrap (x1.step * a00)⟩ : SBlock))), none⟩)], ⟨rfl, rfl, rfl, rfl, rfl, rfl, rfl, trivial⟩, rfl, rfl⟩
        · have H := condF hc10 H
          apply GW.skip
          have H := Option.some.inj H
          subst H
          exact ⟨rfl, [(1000, ⟨67, false, false, false, 0, [.val (.int .i64 b0.Start), .sl (List.length b0.Dims) (encs b0.Dims), .sl (List.length b0.Steps) (encs b0.Steps)], none⟩), (1001, ⟨26, false, false, false, 0, [.val (.int .i64 c0)], none⟩), (1002, ⟨67, false, false, false, 0, [.val (.int .i64 c00), .osl 1003 (Enc.sz Int) 0 (List.length l0), .osl 1004 (Enc.sz Int) 0 (List.length (List.set l00 (Int.toNat a0) x1.step))], none⟩), (1003, ⟨3, true, false, true, Enc.sz Int, encs l0, none⟩), (1004, ⟨3, true, false, true, Enc.sz Int, encs (List.set l00 (Int.toNat a0) x1.step), none⟩), (1005, ⟨104, false, false, false, 0, [.osl 1006 (Enc.sz SBlock) 0 (List.length (List.set l000 (Int.toNat (IntKind.i64.wrap ((List.length l000 : Int) - 1))) (⟨IntKind.i64.wrap (Int.tdiv x1.size a00), IntKind.i64.wrap (x1.step * a00)⟩ : SBlock)))], none⟩), (1006, ⟨111, true, false, true, Enc.sz SBlock, encs (List.set l000 (Int.toNat (IntKind.i64.wrap ((List.length l000 : Int) - 1))) (⟨IntKind.i64.wrap (Int.tdiv x1.size a00), IntKind.i64.wrap (x1.step * a00)⟩ : SBlock)), none⟩)], ⟨rfl, rfl, rfl, rfl, rfl, rfl, rfl, trivial⟩, rfl, rfl⟩
theorem slices_Backward_1_ok (fn : FuncId) (fu : Nat) (a0 : (List Int)) (b0 : SView) (c0 : Int) (c00 : Int) (l0 : (List Int)) (l00 : (List Int)) (l000 : (List SBlock)) (r : (Jp × SView × Int × (List Int) × (List SBlock))) (H : F.slices_Backward_1 fu a0 b0 c0 c00 l0 l00 l000 = some r) : GM Try.prog 107 [.yld 1000, .ptr [.sl (List.length a0) (encs a0)]] [(1000, (loopB [.loc 1001 0, .loc 1002 0, .loc 1003 0, .loc 1006 0] (view_Reform_y1_lp fn (jmpc 0 Jp.go)))), (1001, ⟨67, false, false, false, 0, [.val (.int .i64 b0.Start), .sl (List.length b0.Dims) (encs b0.Dims), .sl (List.length b0.Steps) (encs b0.Steps)], none⟩), (1002, ⟨26, false, false, false, 0, [.val (.int .i64 c0)], none⟩), (1003, ⟨67, false, false, false, 0, [.val (.int .i64 c00), .osl 1004 (Enc.sz Int) 0 (List.length l0), .osl 1005 (Enc.sz Int) 0 (List.length l00)], none⟩), (1004, ⟨3, true, false, false, Enc.sz Int, encs l0, none⟩), (1005, ⟨3, true, false, false, Enc.sz Int, encs l00, none⟩), (1006, ⟨104, false, false, false, 0, [.osl 1007 (Enc.sz SBlock) 0 (List.length l000)], none⟩), (1007, ⟨111, true, false, false, Enc.sz SBlock, encs l000, none⟩)] (fun g st => g = .tup [] ∧ st = [(1000, (loopB [.loc 1001 0, .loc 1002 0, .loc 1003 0, .loc 1006 0] (view_Reform_y1_lp fn (jmpc 0 r.1)))), (1001, ⟨67, false, false, false, 0, [.val (.int .i64 r.2.1.Start), .sl (List.length r.2.1.Dims) (encs r.2.1.Dims), .sl (List.length r.2.1.Steps) (encs r.2.1.Steps)], none⟩), (1002, ⟨26, false, false, false, 0, [.val (.int .i64 r.2.2.1)], none⟩), (1003, ⟨67, false, false, false, 0, [.val (.int .i64 c00), .osl 1004 (Enc.sz Int) 0 (List.length l0), .osl 1005 (Enc.sz Int) 0 (List.length r.2.2.2.1)], none⟩), (1004, ⟨3, true, false, true, Enc.sz Int, encs l0, none⟩), (1005, ⟨3, true, false, true, Enc.sz Int, encs r.2.2.2.1, none⟩), (1006, ⟨104, false, false, false, 0, [.osl 1007 (Enc.sz SBlock) 0 (List.length r.2.2.2.2)], none⟩), (1007, ⟨111, true, false, true, Enc.sz SBlock, encs r.2.2.2.2, none⟩)]) := by
  unfold F.slices_Backward_1 at H
  refine GM.of (N := 19) Try.func107 rfl rfl rfl (fun cx hro => ?_)
  refine GW.refresh (α := Int) (l := l0) 1004 rfl rfl rfl ?_
  refine GW.refresh (α := Int) (l := l00) 1005 rfl rfl rfl ?_
  refine GW.refresh (α := SBlock) (l := l000) 1007 rfl rfl rfl ?_
  apply GW.seq
  apply GW.region
  refine GL.y (YL.ptr rfl rfl Try.isAgg22) rfl rfl ?_
  refine GL.py (PY.len rfl rfl Try.underlying22) rfl rfl ?_
  refine GL.py (PY.bin rfl rfl rfl) rfl rfl ?_
  refine GL.py (PY.assign rfl) rfl rfl ?_
  apply GL.nil
  apply GW.block
  obtain ⟨e5, he5, Hb, Hr⟩ := bindE_some H
  refine GW.weak ((fun (q : Int × Jp × Int × (List Int) × (List Int) × Int × (List Int) × (List SBlock)) => (⟨[(0, .yld 1000), (1, .ptr [.sl (List.length a0) (encs a0)]), (3, .val (.int .i64 q.1))], [(1000, (loopB [.loc 1001 0, .loc 1002 0, .loc 1003 0, .loc 1006 0] (view_Reform_y1_lp fn (jmpc 0 q.2.1)))), (1001, ⟨67, false, false, false, 0, [.val (.int .i64 q.2.2.1), .sl (List.length q.2.2.2.1) (encs q.2.2.2.1), .sl (List.length q.2.2.2.2.1) (encs q.2.2.2.2.1)], none⟩), (1002, ⟨26, false, false, false, 0, [.val (.int .i64 q.2.2.2.2.2.1)], none⟩), (1003, ⟨67, false, false, false, 0, [.val (.int .i64 c00), .osl 1004 (Enc.sz Int) 0 (List.length l0), .osl 1005 (Enc.sz Int) 0 (List.length q.2.2.2.2.2.2.1)], none⟩), (1004, ⟨3, true, false, true, Enc.sz Int, encs l0, none⟩), (1005, ⟨3, true, false, true, Enc.sz Int, encs q.2.2.2.2.2.2.1, none⟩), (1006, ⟨104, false, false, false, 0, [.osl 1007 (Enc.sz SBlock) 0 (List.length q.2.2.2.2.2.2.2)], none⟩), (1007, ⟨111, true, false, true, Enc.sz SBlock, encs q.2.2.2.2.2.2.2, none⟩)], []⟩ : St)) (IntKind.i64.wrap ((List.length a0 : Int) - 1), Jp.go, b0.Start, b0.Dims, b0.Steps, c0, l00, l000)) ⟨⟨rfl, rfl, rfl, trivial⟩, ⟨rfl, rfl, rfl, rfl, rfl, rfl, rfl, rfl, trivial⟩, rfl⟩ ?_
  refine GW.loopF (fun (q : Int × Jp × Int × (List Int) × (List Int) × Int × (List Int) × (List SBlock)) => (⟨[(0, .yld 1000), (1, .ptr [.sl (List.length a0) (encs a0)]), (3, .val (.int .i64 q.1))], [(1000, (loopB [.loc 1001 0, .loc 1002 0, .loc 1003 0, .loc 1006 0] (view_Reform_y1_lp fn (jmpc 0 q.2.1)))), (1001, ⟨67, false, false, false, 0, [.val (.int .i64 q.2.2.1), .sl (List.length q.2.2.2.1) (encs q.2.2.2.1), .sl (List.length q.2.2.2.2.1) (encs q.2.2.2.2.1)], none⟩), (1002, ⟨26, false, false, false, 0, [.val (.int .i64 q.2.2.2.2.2.1)], none⟩), (1003, ⟨67, false, false, false, 0, [.val (.int .i64 c00), .osl 1004 (Enc.sz Int) 0 (List.length l0), .osl 1005 (Enc.sz Int) 0 (List.length q.2.2.2.2.2.2.1)], none⟩), (1004, ⟨3, true, false, true, Enc.sz Int, encs l0, none⟩), (1005, ⟨3, true, false, true, Enc.sz Int, encs q.2.2.2.2.2.2.1, none⟩), (1006, ⟨104, false, false, false, 0, [.osl 1007 (Enc.sz SBlock) 0 (List.length q.2.2.2.2.2.2.2)], none⟩), (1007, ⟨111, true, false, true, Enc.sz SBlock, encs q.2.2.2.2.2.2.2, none⟩)], []⟩ : St)) (QJ (.exit 0) (fun (q : Jp × Int × (List Int) × (List Int) × Int × (List Int) × (List SBlock)) => (⟨[], [(1000, (loopB [.loc 1001 0, .loc 1002 0, .loc 1003 0, .loc 1006 0] (view_Reform_y1_lp fn (jmpc 0 q.1)))), (1001, ⟨67, false, false, false, 0, [.val (.int .i64 q.2.1), .sl (List.length q.2.2.1) (encs q.2.2.1), .sl (List.length q.2.2.2.1) (encs q.2.2.2.1)], none⟩), (1002, ⟨26, false, false, false, 0, [.val (.int .i64 q.2.2.2.2.1)], none⟩), (1003, ⟨67, false, false, false, 0, [.val (.int .i64 c00), .osl 1004 (Enc.sz Int) 0 (List.length l0), .osl 1005 (Enc.sz Int) 0 (List.length q.2.2.2.2.2.1)], none⟩), (1004, ⟨3, true, false, true, Enc.sz Int, encs l0, none⟩), (1005, ⟨3, true, false, true, Enc.sz Int, encs q.2.2.2.2.2.1, none⟩), (1006, ⟨104, false, false, false, 0, [.osl 1007 (Enc.sz SBlock) 0 (List.length q.2.2.2.2.2.2)], none⟩), (1007, ⟨111, true, false, true, Enc.sz SBlock, encs q.2.2.2.2.2.2, none⟩)], []⟩ : St)) (fun r2 _ s2 => RetQ Try.prog Try.f107 (fun g st => g = .tup [] ∧ st = [(1000, (loopB [.loc 1001 0, .loc 1002 0, .loc 1003 0, .loc 1006 0] (view_Reform_y1_lp fn (jmpc 0 r2.1)))), (1001, ⟨67, false, false, false, 0, [.val (.int .i64 r2.2.1.Start), .sl (List.length r2.2.1.Dims) (encs r2.2.1.Dims), .sl (List.length r2.2.1.Steps) (encs r2.2.1.Steps)], none⟩), (1002, ⟨26, false, false, false, 0, [.val (.int .i64 r2.2.2.1)], none⟩), (1003, ⟨67, false, false, false, 0, [.val (.int .i64 c00), .osl 1004 (Enc.sz Int) 0 (List.length l0), .osl 1005 (Enc.sz Int) 0 (List.length r2.2.2.2.1)], none⟩), (1004, ⟨3, true, false, true, Enc.sz Int, encs l0, none⟩), (1005, ⟨3, true, false, true, Enc.sz Int, encs r2.2.2.2.1, none⟩), (1006, ⟨104, false, false, false, 0, [.osl 1007 (Enc.sz SBlock) 0 (List.length r2.2.2.2.2)], none⟩), (1007, ⟨111, true, false, true, Enc.sz SBlock, encs r2.2.2.2.2, none⟩)]) .ret s2)) he5 (fun x o hb => ?_) (fun ex s2 _ hx => ?_)
  · obtain ⟨i1, j2, c3, c4, c5, c6, l7, l8⟩ := x
    have H := hb
    unfold F.slices_Backward_1_l1 at H
    try dsimp only at H
    refine GW.weak ⟨[(0, .yld 1000), (1, .ptr [.sl (List.length a0) (encs a0)]), (3, .val (.int .i64 i1))], [(1000, (loopB [.loc 1001 0, .loc 1002 0, .loc 1003 0, .loc 1006 0] (view_Reform_y1_lp fn (jmpc 0 j2)))), (1001, ⟨67, false, false, false, 0, [.val (.int .i64 c3), .sl (List.length c4) (encs c4), .sl (List.length c5) (encs c5)], none⟩), (1002, ⟨26, false, false, false, 0, [.val (.int .i64 c6)], none⟩), (1003, ⟨67, false, false, false, 0, [.val (.int .i64 c00), .osl 1004 (Enc.sz Int) 0 (List.length l0), .osl 1005 (Enc.sz Int) 0 (List.length l7)], none⟩), (1004, ⟨3, true, false, true, Enc.sz Int, encs l0, none⟩), (1005, ⟨3, true, false, true, Enc.sz Int, encs l7, none⟩), (1006, ⟨104, false, false, false, 0, [.osl 1007 (Enc.sz SBlock) 0 (List.length l8)], none⟩), (1007, ⟨111, true, false, true, Enc.sz SBlock, encs l8, none⟩)], []⟩ ⟨⟨rfl, rfl, rfl, trivial⟩, ⟨rfl, rfl, rfl, rfl, rfl, rfl, rfl, rfl, trivial⟩, rfl⟩ ?_
    apply GW.seq
    apply GW.seq
    apply GW.region
    refine GL.py (PY.move rfl) rfl rfl ?_
    refine GL.py (PY.bin rfl rfl rfl) rfl rfl ?_
    apply GL.nil
    refine GW.cond rfl (fun hc1 => ?_) (fun hc1 => ?_)
    · have H := condT hc1 H
      apply GW.skip
      apply GW.seq
      apply GW.block
      apply GW.seq
      obtain ⟨x16, hx16, H⟩ := bind_some H
      obtain ⟨_, hj2, H⟩ := bind_some H
      replace hj2 := chk_spec hj2
      obtain ⟨r22, hr22, H⟩ := bind_some H
      obtain ⟨o17, o18, o19, o20, o21⟩ := r22
      apply GW.region
      refine GL.py (PY.move rfl) rfl rfl ?_
      refine GL.py (PY.move rfl) rfl rfl ?_
      refine GL.y (YL.ptr rfl rfl Try.isAgg22) rfl rfl ?_
      refine GL.py (PY.move rfl) rfl rfl ?_
      refine GL.py (PY.index rfl rfl rfl (idx_spec hx16).1 (idx_spec hx16).2.1 Try.underlying22 Try.sizeOf3) rfl rfl ?_
      refine GL.y (YT.elt (α := Int) rfl hx16 rfl Try.isAgg3) rfl rfl ?_
      refine GL.pend 1000 rfl rfl (jmpc_none hj2) ?_
      refine GL.yld [1001, 1002, 1003, 1004, 1005, 1006, 1007] [1001, 1002, 1003, 1004, 1005, 1006, 1007] rfl rfl rfl rfl rfl rfl rfl rfl rfl rfl rfl rfl rfl (view_Reform_y1_ok fn fu i1 x16 (⟨c3, c4, c5⟩ : SView) c6 c00 l0 l7 l8 (o17, o18, o19, o20, o21) hr22) rfl rfl ?_
      rintro _ _ ⟨rfl, rfl⟩
      refine ⟨_, rfl, _, rfl, rfl, _, (jmpc_go _), ?_⟩
      refine GL.weak ⟨[(0, .yld 1000), (1, .ptr [.sl (List.length a0) (encs a0)]), (3, .val (.int .i64 i1)), (17, .val (.bool (Jp.isGo o21)))], [(1000, (loopB [.loc 1001 0, .loc 1002 0, .loc 1003 0, .loc 1006 0] (view_Reform_y1_lp fn (jmpc 0 o21)))), (1001, ⟨67, false, false, false, 0, [.val (.int .i64 o17.Start), .sl (List.length o17.Dims) (encs o17.Dims), .sl (List.length o17.Steps) (encs o17.Steps)], none⟩), (1002, ⟨26, false, false, false, 0, [.val (.int .i64 o18)], none⟩), (1003, ⟨67, false, false, false, 0, [.val (.int .i64 c00), .osl 1004 (Enc.sz Int) 0 (List.length l0), .osl 1005 (Enc.sz Int) 0 (List.length o19)], none⟩), (1004, ⟨3, true, false, true, Enc.sz Int, encs l0, none⟩), (1005, ⟨3, true, false, true, Enc.sz Int, encs o19, none⟩), (1006, ⟨104, false, false, false, 0, [.osl 1007 (Enc.sz SBlock) 0 (List.length o20)], none⟩), (1007, ⟨111, true, false, true, Enc.sz SBlock, encs o20, none⟩)], []⟩ ⟨⟨rfl, rfl, rfl, rfl, trivial⟩, ⟨rfl, rfl, rfl, rfl, rfl, rfl, rfl, rfl, trivial⟩, rfl⟩ ?_
      refine GL.py (PY.un rfl rfl) rfl rfl ?_
      apply GL.nil
      refine GW.cond rfl (fun hc4 => ?_) (fun hc4 => ?_)
      · have H := condT hc4 H
        refine GW.ret ?_
        cases H
        exact And.intro ret_ne (And.intro rfl (RetQ.mk (.inl rfl) [] _ [(1000, (loopB [.loc 1001 0, .loc 1002 0, .loc 1003 0, .loc 1006 0] (view_Reform_y1_lp fn (jmpc 0 o21)))), (1001, ⟨67, false, false, false, 0, [.val (.int .i64 o17.Start), .sl (List.length o17.Dims) (encs o17.Dims), .sl (List.length o17.Steps) (encs o17.Steps)], none⟩), (1002, ⟨26, false, false, false, 0, [.val (.int .i64 o18)], none⟩), (1003, ⟨67, false, false, false, 0, [.val (.int .i64 c00), .osl 1004 (Enc.sz Int) 0 (List.length l0), .osl 1005 (Enc.sz Int) 0 (List.length o19)], none⟩), (1004, ⟨3, true, false, true, Enc.sz Int, encs l0, none⟩), (1005, ⟨3, true, false, true, Enc.sz Int, encs o19, none⟩), (1006, ⟨104, false, false, false, 0, [.osl 1007 (Enc.sz SBlock) 0 (List.length o20)], none⟩), (1007, ⟨111, true, false, true, Enc.sz SBlock, encs o20, none⟩)] trivial ⟨rfl, rfl, rfl, rfl, rfl, rfl, rfl, rfl, trivial⟩ rfl ⟨rfl, rfl⟩))
      · have H := condF hc4 H
        apply GW.skip
        apply GW.region
        refine GL.py (PY.move rfl) rfl rfl ?_
        refine GL.py (PY.bin rfl rfl rfl) rfl rfl ?_
        refine GL.py (PY.assign rfl) rfl rfl ?_
        apply GL.nil
        cases H
        exact And.intro rfl ⟨⟨rfl, rfl, rfl, trivial⟩, ⟨rfl, rfl, rfl, rfl, rfl, rfl, rfl, rfl, trivial⟩, rfl⟩
    · have H := condF hc1 H
      refine GW.exit ?_
      cases H
      exact And.intro exit_ne (And.intro rfl ⟨trivial, ⟨rfl, rfl, rfl, rfl, rfl, rfl, rfl, rfl, trivial⟩, rfl⟩)
  · cases e5 with
    | ret r2 =>
      obtain ⟨rfl, hx⟩ := hx
      have H := Hr r2 rfl
      subst H
      exact hx
    | brk b2 =>
      obtain ⟨rfl, hs⟩ := hx
      have H := Hb b2 rfl
      obtain ⟨j9, c10, c11, c12, c13, l14, l15⟩ := b2
      refine Eblock_hit ?_
      refine RetQ.weak0 hs rfl ?_
      refine RetQ.weak0 (s' := ⟨[], [(1000, (loopB [.loc 1001 0, .loc 1002 0, .loc 1003 0, .loc 1006 0] (view_Reform_y1_lp fn (jmpc 0 j9)))), (1001, ⟨67, false, false, false, 0, [.val (.int .i64 c10), .sl (List.length c11) (encs c11), .sl (List.length c12) (encs c12)], none⟩), (1002, ⟨26, false, false, false, 0, [.val (.int .i64 c13)], none⟩), (1003, ⟨67, false, false, false, 0, [.val (.int .i64 c00), .osl 1004 (Enc.sz Int) 0 (List.length l0), .osl 1005 (Enc.sz Int) 0 (List.length l14)], none⟩), (1004, ⟨3, true, false, true, Enc.sz Int, encs l0, none⟩), (1005, ⟨3, true, false, true, Enc.sz Int, encs l14, none⟩), (1006, ⟨104, false, false, false, 0, [.osl 1007 (Enc.sz SBlock) 0 (List.length l15)], none⟩), (1007, ⟨111, true, false, true, Enc.sz SBlock, encs l15, none⟩)], []⟩) ⟨trivial, ⟨rfl, rfl, rfl, rfl, rfl, rfl, rfl, rfl, trivial⟩, rfl⟩ rfl ?_
      have H := Option.some.inj H
      subst H
      exact RetQ.mk (.inr rfl) [] _ [(1000, (loopB [.loc 1001 0, .loc 1002 0, .loc 1003 0, .loc 1006 0] (view_Reform_y1_lp fn (jmpc 0 j9)))), (1001, ⟨67, false, false, false, 0, [.val (.int .i64 c10), .sl (List.length c11) (encs c11), .sl (List.length c12) (encs c12)], none⟩), (1002, ⟨26, false, false, false, 0, [.val (.int .i64 c13)], none⟩), (1003, ⟨67, false, false, false, 0, [.val (.int .i64 c00), .osl 1004 (Enc.sz Int) 0 (List.length l0), .osl 1005 (Enc.sz Int) 0 (List.length l14)], none⟩), (1004, ⟨3, true, false, true, Enc.sz Int, encs l0, none⟩), (1005, ⟨3, true, false, true, Enc.sz Int, encs l14, none⟩), (1006, ⟨104, false, false, false, 0, [.osl 1007 (Enc.sz SBlock) 0 (List.length l15)], none⟩), (1007, ⟨111, true, false, true, Enc.sz SBlock, encs l15, none⟩)] trivial ⟨rfl, rfl, rfl, rfl, rfl, rfl, rfl, rfl, trivial⟩ rfl ⟨rfl, rfl⟩
theorem view_done_ok (fu : Nat) (v0 : SView) (r : (SView × Int)) (H : F.view_done fu v0 = some r) : GM Try.prog 88 [.agg [.val (.int .i64 v0.Start), .sl (List.length v0.Dims) (encs v0.Dims), .sl (List.length v0.Steps) (encs v0.Steps)]] [] (fun g st => g = .tup [.agg [.val (.int .i64 r.1.Start), .sl (List.length r.1.Dims) (encs r.1.Dims), .sl (List.length r.1.Steps) (encs r.1.Steps)], .val (.int .i64 r.2)] ∧ st = []) := by
  unfold F.view_done at H
  refine GM.strip ?_
  refine GM.of (N := 9) Try.func88 rfl rfl rfl (fun cx hro => ?_)
  apply GW.seq
  apply GW.region
  refine GL.e1 (W := []) (EF.box 0 rfl rfl rfl) rfl rfl ?_
  refine GL.e1 (W := []) (EF.alloc 1 Try.zeroValue67 rfl) rfl rfl ?_
  refine GL.py (PY.assign rfl) rfl rfl ?_
  apply GL.nil
  apply GW.seq
  apply GW.seq
  obtain ⟨r1, hr1, H⟩ := bind_some H
  apply GW.region
  refine GL.y (YL.loadAgg rfl rfl rfl Try.isAgg67 Try.sizeOf67 (Nat.le_of_ble_eq_true rfl) rfl) rfl rfl ?_
  refine GL.e (W := []) (EF.call 4 Try.call84 rfl (mapO_cons rfl rfl) (view_Wrong_ok fu v0 r1 hr1) (by rintro _ _ ⟨rfl, rfl⟩; rfl)) rfl rfl ?_
  rintro _ ⟨_, _, ⟨rfl, rfl⟩, rfl⟩
  refine GL.py (PY.bin rfl rfl rfl) rfl rfl ?_
  apply GL.nil
  refine GW.cond rfl (fun hc1 => ?_) (fun hc1 => ?_)
  · have H := condT hc1 H
    apply GW.seq
    apply GW.region
    refine GL.py (PY.build (out := [.val (.int .i64 0), .val (.slice none 0 0), .val (.slice none 0 0)]) Try.underlying67 build67.1 (build67.2 _ Try.underlying67) rfl rfl) rfl rfl ?_
    refine GL.e0 (EF.storeN (W := [1]) (cells' := [.val (.int .i64 0), .val (.slice none 0 0), .val (.slice none 0 0)]) rfl rfl rfl rfl rfl rfl rfl rfl Try.sizeOf67 (Nat.le_of_ble_eq_true rfl) rfl rfl) rfl ?_
    refine GL.py (PY.assign rfl) rfl rfl ?_
    apply GL.nil
    refine GW.ret ?_
    have H := Option.some.inj H
    subst H
    exact RetQ.mk (.inl rfl) [.agg [.val (.int .i64 0), .val (.slice none 0 0), .val (.slice none 0 0)], .val (.int .i64 5)] _ [] ⟨Res.cellA rfl rfl rfl Try.isAgg67 Try.sizeOf67 rfl rfl, Res.tmp rfl, trivial⟩ trivial (fz_tup (fz_go (fz_agg (fz_go rfl (fz_go rfl (fz_go rfl rfl)))) (fz_go rfl rfl))) ⟨rfl, rfl⟩
  · have H := condF hc1 H
    apply GW.skip
    apply GW.seq
    apply GW.region
    refine GL.y (YL.loadAgg rfl rfl rfl Try.isAgg67 Try.sizeOf67 (Nat.le_of_ble_eq_true rfl) rfl) rfl rfl ?_
    refine GL.e0 (EF.storeN (W := [1]) (cells' := [.val (.int .i64 v0.Start), .sl (List.length v0.Dims) (encs v0.Dims), .sl (List.length v0.Steps) (encs v0.Steps)]) rfl rfl rfl rfl rfl rfl rfl rfl Try.sizeOf67 (Nat.le_of_ble_eq_true rfl) rfl rfl) rfl ?_
    refine GL.py (PY.assign rfl) rfl rfl ?_
    apply GL.nil
    refine GW.ret ?_
    have H := Option.some.inj H
    subst H
    exact RetQ.mk (.inl rfl) [.agg [.val (.int .i64 v0.Start), .sl (List.length v0.Dims) (encs v0.Dims), .sl (List.length v0.Steps) (encs v0.Steps)], .val (.int .i64 0)] _ [] ⟨Res.cellA rfl rfl rfl Try.isAgg67 Try.sizeOf67 rfl rfl, Res.tmp rfl, trivial⟩ trivial (fz_tup (fz_go (fz_agg (fz_go rfl (fz_go rfl (fz_go rfl rfl)))) (fz_go rfl rfl))) ⟨rfl, rfl⟩
theorem view_Reform_ok (fu : Nat) (v0 : SView) (dims0 : (List Int)) (r : (SView × Int)) (H : F.view_Reform fu v0 dims0 = some r) : GM Try.prog 59 [.agg [.val (.int .i64 v0.Start), .sl (List.length v0.Dims) (encs v0.Dims), .sl (List.length v0.Steps) (encs v0.Steps)], .sl (List.length dims0) (encs dims0)] [] (fun g st => g = .tup [.agg [.val (.int .i64 r.1.Start), .sl (List.length r.1.Dims) (encs r.1.Dims), .sl (List.length r.1.Steps) (encs r.1.Steps)], .val (.int .i64 r.2)] ∧ st = []) := by
  unfold F.view_Reform at H
  refine GM.strip ?_
  refine GM.of (N := 110) Try.func59 rfl rfl rfl (fun cx hro => ?_)
  apply GW.seq
  apply GW.region
  refine GL.e1 (W := []) (EF.box 0 rfl rfl rfl) rfl rfl ?_
  refine GL.e1 (W := []) (EF.alloc 1 Try.zeroValue67 rfl) rfl rfl ?_
  refine GL.e1 (W := []) (EF.alloc 2 Try.zeroValue26 rfl) rfl rfl ?_
  apply GL.nil
  apply GW.seq
  apply GW.seq
  obtain ⟨r1, hr1, H⟩ := bind_some H
  apply GW.region
  refine GL.y (YL.loadAgg rfl rfl rfl Try.isAgg67 Try.sizeOf67 (Nat.le_of_ble_eq_true rfl) rfl) rfl rfl ?_
  refine GL.e (W := []) (EF.call 4 Try.call84 rfl (mapO_cons rfl rfl) (view_Wrong_ok fu v0 r1 hr1) (by rintro _ _ ⟨rfl, rfl⟩; rfl)) rfl rfl ?_
  rintro _ ⟨_, _, ⟨rfl, rfl⟩, rfl⟩
  refine GL.py (PY.assign rfl) rfl rfl ?_
  apply GL.nil
  apply GW.seq
  apply GW.region
  refine GL.py (PY.move rfl) rfl rfl ?_
  refine GL.py (PY.bin rfl rfl rfl) rfl rfl ?_
  apply GL.nil
  refine GW.cond rfl (fun hc1 => ?_) (fun hc1 => ?_)
  · have H := condT hc1 H
    apply GW.seq
    apply GW.region
    refine GL.py (PY.build (out := [.val (.int .i64 0), .val (.slice none 0 0), .val (.slice none 0 0)]) Try.underlying67 build67.1 (build67.2 _ Try.underlying67) rfl rfl) rfl rfl ?_
    refine GL.py (PY.move rfl) rfl rfl ?_
    refine GL.e0 (EF.storeN (W := [1]) (cells' := [.val (.int .i64 0), .val (.slice none 0 0), .val (.slice none 0 0)]) rfl rfl rfl rfl rfl rfl rfl rfl Try.sizeOf67 (Nat.le_of_ble_eq_true rfl) rfl rfl) rfl ?_
    refine GL.e0 (EF.storeN (W := [2]) (cells' := [.val (.int .i64 r1)]) rfl rfl rfl rfl rfl rfl rfl rfl Try.sizeOf26 (Nat.le_of_ble_eq_true rfl) rfl rfl) rfl ?_
    apply GL.nil
    refine GW.ret ?_
    have H := Option.some.inj H
    subst H
    exact RetQ.mk (.inl rfl) [.agg [.val (.int .i64 0), .val (.slice none 0 0), .val (.slice none 0 0)], .val (.int .i64 r1)] _ [] ⟨Res.cellA rfl rfl rfl Try.isAgg67 Try.sizeOf67 rfl rfl, Res.cell rfl rfl rfl Try.isAgg26 rfl, trivial⟩ trivial (fz_tup (fz_go (fz_agg (fz_go rfl (fz_go rfl (fz_go rfl rfl)))) (fz_go rfl rfl))) ⟨rfl, rfl⟩
  · have H := condF hc1 H
    apply GW.skip
    apply GW.seq
    obtain ⟨r3, hr3, H⟩ := bind_some H
    apply GW.region
    refine GL.py (PY.move rfl) rfl rfl ?_
    refine GL.e (W := []) (EF.call 4 Try.call41 rfl (mapO_cons rfl rfl) (view_Size_ok fu dims0 r3 hr3) (by rintro _ _ ⟨rfl, rfl⟩; rfl)) rfl rfl ?_
    rintro _ ⟨_, _, ⟨rfl, rfl⟩, rfl⟩
    refine GL.py (PY.move rfl) rfl rfl ?_
    refine GL.py (PY.extract rfl rfl) rfl rfl ?_
    refine GL.py (PY.extract rfl rfl) rfl rfl ?_
    refine GL.py (PY.assign rfl) rfl rfl ?_
    refine GL.py (PY.assign rfl) rfl rfl ?_
    apply GL.nil
    apply GW.seq
    apply GW.seq
    apply GW.region
    refine GL.py (PY.move rfl) rfl rfl ?_
    refine GL.py (PY.bin rfl rfl rfl) rfl rfl ?_
    apply GL.nil
    refine GW.cond rfl (fun hc2 => ?_) (fun hc2 => ?_)
    · have H := condT hc2 H
      apply GW.seq
      apply GW.region
      refine GL.py (PY.build (out := [.val (.int .i64 0), .val (.slice none 0 0), .val (.slice none 0 0)]) Try.underlying67 build67.1 (build67.2 _ Try.underlying67) rfl rfl) rfl rfl ?_
      refine GL.py (PY.move rfl) rfl rfl ?_
      refine GL.e0 (EF.storeN (W := [1]) (cells' := [.val (.int .i64 0), .val (.slice none 0 0), .val (.slice none 0 0)]) rfl rfl rfl rfl rfl rfl rfl rfl Try.sizeOf67 (Nat.le_of_ble_eq_true rfl) rfl rfl) rfl ?_
      refine GL.e0 (EF.storeN (W := [2]) (cells' := [.val (.int .i64 r3.2)]) rfl rfl rfl rfl rfl rfl rfl rfl Try.sizeOf26 (Nat.le_of_ble_eq_true rfl) rfl rfl) rfl ?_
      apply GL.nil
      refine GW.ret ?_
      have H := Option.some.inj H
      subst H
      exact RetQ.mk (.inl rfl) [.agg [.val (.int .i64 0), .val (.slice none 0 0), .val (.slice none 0 0)], .val (.int .i64 r3.2)] _ [] ⟨Res.cellA rfl rfl rfl Try.isAgg67 Try.sizeOf67 rfl rfl, Res.cell rfl rfl rfl Try.isAgg26 rfl, trivial⟩ trivial (fz_tup (fz_go (fz_agg (fz_go rfl (fz_go rfl (fz_go rfl rfl)))) (fz_go rfl rfl))) ⟨rfl, rfl⟩
    · have H := condF hc2 H
      apply GW.skip
      apply GW.seq
      apply GW.seq
      obtain ⟨r5, hr5, H⟩ := bind_some H
      apply GW.region
      refine GL.py (PY.field rfl rfl Try.underlying67 rfl Try.sizeOf22 (by decide)) rfl rfl ?_
      refine GL.y (YL.loadN rfl rfl rfl Try.isAgg22 rfl rfl) rfl rfl ?_
      refine GL.e (W := []) (EF.call 4 Try.call41 rfl (mapO_cons rfl rfl) (view_Size_ok fu v0.Dims r5 hr5) (by rintro _ _ ⟨rfl, rfl⟩; rfl)) rfl rfl ?_
      rintro _ ⟨_, _, ⟨rfl, rfl⟩, rfl⟩
      refine GL.py (PY.move rfl) rfl rfl ?_
      refine GL.py (PY.extract rfl rfl) rfl rfl ?_
      refine GL.py (PY.extract rfl rfl) rfl rfl ?_
      refine GL.py (PY.assign rfl) rfl rfl ?_
      refine GL.py (PY.assign rfl) rfl rfl ?_
      apply GL.nil
      apply GW.seq
      apply GW.region
      refine GL.py (PY.move rfl) rfl rfl ?_
      refine GL.py (PY.move rfl) rfl rfl ?_
      refine GL.py (PY.bin rfl rfl rfl) rfl rfl ?_
      apply GL.nil
      refine GW.cond rfl (fun hc3 => ?_) (fun hc3 => ?_)
      · have H := condT hc3 H
        apply GW.seq
        apply GW.region
        refine GL.py (PY.build (out := [.val (.int .i64 0), .val (.slice none 0 0), .val (.slice none 0 0)]) Try.underlying67 build67.1 (build67.2 _ Try.underlying67) rfl rfl) rfl rfl ?_
        refine GL.e0 (EF.storeN (W := [1]) (cells' := [.val (.int .i64 0), .val (.slice none 0 0), .val (.slice none 0 0)]) rfl rfl rfl rfl rfl rfl rfl rfl Try.sizeOf67 (Nat.le_of_ble_eq_true rfl) rfl rfl) rfl ?_
        refine GL.e0 (EF.storeN (W := [2]) (cells' := [.val (.int .i64 6)]) rfl rfl rfl rfl rfl rfl rfl rfl Try.sizeOf26 (Nat.le_of_ble_eq_true rfl) rfl rfl) rfl ?_
        apply GL.nil
        refine GW.ret ?_
        have H := Option.some.inj H
        subst H
        exact RetQ.mk (.inl rfl) [.agg [.val (.int .i64 0), .val (.slice none 0 0), .val (.slice none 0 0)], .val (.int .i64 6)] _ [] ⟨Res.cellA rfl rfl rfl Try.isAgg67 Try.sizeOf67 rfl rfl, Res.cell rfl rfl rfl Try.isAgg26 rfl, trivial⟩ trivial (fz_tup (fz_go (fz_agg (fz_go rfl (fz_go rfl (fz_go rfl rfl)))) (fz_go rfl rfl))) ⟨rfl, rfl⟩
      · have H := condF hc3 H
        apply GW.skip
        apply GW.seq
        obtain ⟨r7, hr7, H⟩ := bind_some H
        obtain ⟨_, hm4, H⟩ := bind_some H
        replace hm4 := chk_spec hm4
        refine GW.mono (Q := QB .normal (fun (q : Unit) => (⟨[(1, .sl (List.length dims0) (encs dims0)), (2, .loc 0 0), (4, .loc 1 0), (5, .loc 2 0), (7, .val (.int .i64 r3.1)), (11, .loc 11 0)], [(0, ⟨67, false, true, false, 0, [.val (.int .i64 v0.Start), .sl (List.length v0.Dims) (encs v0.Dims), .sl (List.length v0.Steps) (encs v0.Steps)], none⟩), (1, ⟨67, false, true, false, 0, [.val (.int .i64 0), .val (.slice none 0 0), .val (.slice none 0 0)], none⟩), (2, ⟨26, false, true, false, 0, [.val (.int .i64 0)], none⟩), (9, ⟨3, true, true, true, Enc.sz Int, encs (List.replicate (Int.toNat (List.length dims0 : Int)) (0 : Int)), none⟩), (11, ⟨67, false, true, false, 0, [.val (.int .i64 v0.Start), .osl 206 (Enc.sz Int) 0 (List.length r7), .osl 9 (Enc.sz Int) 0 (List.length (List.replicate (Int.toNat (List.length dims0 : Int)) (0 : Int)))], none⟩), (206, ⟨3, true, true, true, Enc.sz Int, encs r7, none⟩)], []⟩ : St)) ()) ?_ ?_
        · refine GW.draws [11] mixed ?_
          change GH1 _ _ _ _ _ _ 10 _ _
          refine GH1.take 0 rfl (by decide +kernel) (by decide +kernel) (by decide +kernel) rfl rfl (by decide) ((PY.field rfl rfl Try.underlying67 rfl Try.sizeOf3 (by decide)).yield _) ?_
          refine GH1.take 1 rfl (by decide +kernel) (by decide +kernel) (by decide +kernel) rfl rfl (by decide) (YL.loadN rfl rfl rfl Try.isAgg3 rfl rfl) ?_
          refine GH1.take 2 rfl (by decide +kernel) (by decide +kernel) (by decide +kernel) rfl rfl (by decide) ((PY.move rfl).yield _) ?_
          refine GH1.take 4 rfl (by decide +kernel) (by decide +kernel) (by decide +kernel) rfl rfl (by decide) ((PY.move rfl).yield _) ?_
          refine GH1.take 5 rfl (by decide +kernel) (by decide +kernel) (by decide +kernel) rfl rfl (by decide) ((PY.len rfl rfl Try.underlying22).yield _) ?_
          refine GH1.later ?_
          refine GH2.any 3 [6, 8] (by decide +kernel) ⟨Turn.e 3 rfl rfl (fun d e => by cases e; decide) (EF.lend (s1 := ⟨[(0, .agg [.val (.int .i64 v0.Start), .sl (List.length v0.Dims) (encs v0.Dims), .sl (List.length v0.Steps) (encs v0.Steps)]), (1, .sl (List.length dims0) (encs dims0)), (2, .loc 0 0), (4, .loc 1 0), (5, .loc 2 0), (6, .val (.int .i64 r1)), (7, .val (.int .i64 r3.1)), (8, .val (.int .i64 r3.2)), (9, .val (.int .i64 r5.1)), (10, .val (.int .i64 r5.2)), (16, .agg [.val (.int .i64 v0.Start), .sl (List.length v0.Dims) (encs v0.Dims), .sl (List.length v0.Steps) (encs v0.Steps)]), (17, .val (.int .i64 r1)), (18, .val (.int .i64 r1)), (19, .val (.bool (r1 != 0))), (22, .tup [.val (.int .i64 r3.1), .val (.int .i64 r3.2)]), (23, .sl (List.length dims0) (encs dims0)), (24, .tup [.val (.int .i64 r3.1), .val (.int .i64 r3.2)]), (25, .val (.int .i64 r3.1)), (26, .val (.int .i64 r3.2)), (27, .val (.int .i64 r3.2)), (28, .val (.bool (r3.2 != 0))), (31, .tup [.val (.int .i64 r5.1), .val (.int .i64 r5.2)]), (32, .loc 0 1), (33, .sl (List.length v0.Dims) (encs v0.Dims)), (34, .tup [.val (.int .i64 r5.1), .val (.int .i64 r5.2)]), (35, .val (.int .i64 r5.1)), (36, .val (.int .i64 r5.2)), (37, .val (.int .i64 r5.1)), (38, .val (.int .i64 r3.1)), (39, .val (.bool (r5.1 != r3.1))), (41, .loc 0 0), (42, .val (.int .i64 v0.Start)), (43, .sl (List.length dims0) (encs dims0)), (44, .osl 206 (Enc.sz Int) 0 (List.length r7)), (45, .sl (List.length dims0) (encs dims0)), (46, .val (.int .i64 (List.length dims0 : Int)))], [(0, ⟨67, false, true, false, 0, [.val (.int .i64 v0.Start), .sl (List.length v0.Dims) (encs v0.Dims), .sl (List.length v0.Steps) (encs v0.Steps)], none⟩), (1, ⟨67, false, true, false, 0, [.val (.int .i64 0), .val (.slice none 0 0), .val (.slice none 0 0)], none⟩), (2, ⟨26, false, true, false, 0, [.val (.int .i64 0)], none⟩), (206, ⟨3, true, true, true, Enc.sz Int, encs r7, none⟩)], []⟩) [] false [206] Try.call34 rfl rfl rfl rfl (slices_Clone_ok fu dims0 r7 hr7) (by rintro _ _ ⟨rfl, rfl⟩; exact ⟨_, _, rfl, rfl, ⟨⟨rfl, rfl, rfl, rfl, rfl, rfl, rfl, rfl, rfl, rfl, rfl, rfl, rfl, rfl, rfl, rfl, rfl, rfl, rfl, rfl, rfl, rfl, rfl, rfl, rfl, rfl, rfl, rfl, rfl, rfl, rfl, rfl, rfl, rfl, rfl, rfl, trivial⟩, ⟨rfl, rfl, rfl, rfl, trivial⟩, rfl⟩⟩) rfl) ?_, Turn.e 6 rfl rfl (fun d e => by cases e; decide) (ET.make (α := Int) (x := (0 : Int)) 9 rfl rfl Try.underlying22 info3 rfl rfl hm4.1 hm4.2.1 hm4.2.2 rfl) ?_, Turn.e 8 rfl rfl (fun d e => by cases e; decide) (EF.alloc 11 Try.zeroValue67 rfl) ?_, trivial⟩
          · rintro _ rfl
            refine GH2.any 6 [8] (by decide +kernel) ⟨Turn.e 6 rfl rfl (fun d e => by cases e; decide) (ET.make (α := Int) (x := (0 : Int)) 9 rfl rfl Try.underlying22 info3 rfl rfl hm4.1 hm4.2.1 hm4.2.2 rfl) ?_, Turn.e 8 rfl rfl (fun d e => by cases e; decide) (EF.alloc 11 Try.zeroValue67 rfl) ?_, trivial⟩
            · rintro _ rfl
              refine GH2.take 7 rfl (by decide +kernel) (by decide +kernel) (by decide +kernel) rfl rfl (by decide) (PY.build (out := [.val (.int .i64 v0.Start), .osl 206 (Enc.sz Int) 0 (List.length r7), .osl 9 (Enc.sz Int) 0 (List.length (List.replicate (Int.toNat (List.length dims0 : Int)) (0 : Int)))]) Try.underlying67 build67.1 (build67.2 _ Try.underlying67) rfl rfl) ?_
              refine GH2.one 8 (by decide +kernel) rfl rfl (fun d e => by cases e; decide) (EF.alloc 11 Try.zeroValue67 rfl) ?_
              rintro _ rfl
              refine GH2.one 9 (by decide +kernel) rfl rfl (fun d e => by cases e) (EF.storeN (cells' := [.val (.int .i64 v0.Start), .osl 206 (Enc.sz Int) 0 (List.length r7), .osl 9 (Enc.sz Int) 0 (List.length (List.replicate (Int.toNat (List.length dims0 : Int)) (0 : Int)))]) rfl rfl rfl rfl rfl rfl rfl rfl Try.sizeOf67 (Nat.le_of_ble_eq_true rfl) rfl rfl) ?_
              rintro _ rfl
              refine GH2.done (by decide +kernel) ?_
              exact And.intro rfl ⟨⟨rfl, rfl, rfl, rfl, rfl, rfl, trivial⟩, ⟨rfl, rfl, rfl, rfl, rfl, rfl, trivial⟩, rfl⟩
            · rintro _ rfl
              refine GH2.one 6 (by decide +kernel) rfl rfl (fun d e => by cases e; decide) (ET.make (α := Int) (x := (0 : Int)) 9 rfl rfl Try.underlying22 info3 rfl rfl hm4.1 hm4.2.1 hm4.2.2 rfl) ?_
              rintro _ rfl
              refine GH2.take 7 rfl (by decide +kernel) (by decide +kernel) (by decide +kernel) rfl rfl (by decide) (PY.build (out := [.val (.int .i64 v0.Start), .osl 206 (Enc.sz Int) 0 (List.length r7), .osl 9 (Enc.sz Int) 0 (List.length (List.replicate (Int.toNat (List.length dims0 : Int)) (0 : Int)))]) Try.underlying67 build67.1 (build67.2 _ Try.underlying67) rfl rfl) ?_
              refine GH2.one 9 (by decide +kernel) rfl rfl (fun d e => by cases e) (EF.storeN (cells' := [.val (.int .i64 v0.Start), .osl 206 (Enc.sz Int) 0 (List.length r7), .osl 9 (Enc.sz Int) 0 (List.length (List.replicate (Int.toNat (List.length dims0 : Int)) (0 : Int)))]) rfl rfl rfl rfl rfl rfl rfl rfl Try.sizeOf67 (Nat.le_of_ble_eq_true rfl) rfl rfl) ?_
              rintro _ rfl
              refine GH2.done (by decide +kernel) ?_
              exact And.intro rfl ⟨⟨rfl, rfl, rfl, rfl, rfl, rfl, trivial⟩, ⟨rfl, rfl, rfl, rfl, rfl, rfl, trivial⟩, rfl⟩
          · rintro _ rfl
            refine GH2.any 3 [8] (by decide +kernel) ⟨Turn.e 3 rfl rfl (fun d e => by cases e; decide) (EF.lend (s1 := ⟨[(0, .agg [.val (.int .i64 v0.Start), .sl (List.length v0.Dims) (encs v0.Dims), .sl (List.length v0.Steps) (encs v0.Steps)]), (1, .sl (List.length dims0) (encs dims0)), (2, .loc 0 0), (4, .loc 1 0), (5, .loc 2 0), (6, .val (.int .i64 r1)), (7, .val (.int .i64 r3.1)), (8, .val (.int .i64 r3.2)), (9, .val (.int .i64 r5.1)), (10, .val (.int .i64 r5.2)), (16, .agg [.val (.int .i64 v0.Start), .sl (List.length v0.Dims) (encs v0.Dims), .sl (List.length v0.Steps) (encs v0.Steps)]), (17, .val (.int .i64 r1)), (18, .val (.int .i64 r1)), (19, .val (.bool (r1 != 0))), (22, .tup [.val (.int .i64 r3.1), .val (.int .i64 r3.2)]), (23, .sl (List.length dims0) (encs dims0)), (24, .tup [.val (.int .i64 r3.1), .val (.int .i64 r3.2)]), (25, .val (.int .i64 r3.1)), (26, .val (.int .i64 r3.2)), (27, .val (.int .i64 r3.2)), (28, .val (.bool (r3.2 != 0))), (31, .tup [.val (.int .i64 r5.1), .val (.int .i64 r5.2)]), (32, .loc 0 1), (33, .sl (List.length v0.Dims) (encs v0.Dims)), (34, .tup [.val (.int .i64 r5.1), .val (.int .i64 r5.2)]), (35, .val (.int .i64 r5.1)), (36, .val (.int .i64 r5.2)), (37, .val (.int .i64 r5.1)), (38, .val (.int .i64 r3.1)), (39, .val (.bool (r5.1 != r3.1))), (41, .loc 0 0), (42, .val (.int .i64 v0.Start)), (43, .sl (List.length dims0) (encs dims0)), (44, .osl 206 (Enc.sz Int) 0 (List.length r7)), (45, .sl (List.length dims0) (encs dims0)), (46, .val (.int .i64 (List.length dims0 : Int))), (47, .osl 9 (Enc.sz Int) 0 (List.length (List.replicate (Int.toNat (List.length dims0 : Int)) (0 : Int))))], [(0, ⟨67, false, true, false, 0, [.val (.int .i64 v0.Start), .sl (List.length v0.Dims) (encs v0.Dims), .sl (List.length v0.Steps) (encs v0.Steps)], none⟩), (1, ⟨67, false, true, false, 0, [.val (.int .i64 0), .val (.slice none 0 0), .val (.slice none 0 0)], none⟩), (2, ⟨26, false, true, false, 0, [.val (.int .i64 0)], none⟩), (9, ⟨3, true, true, true, Enc.sz Int, encs (List.replicate (Int.toNat (List.length dims0 : Int)) (0 : Int)), none⟩), (206, ⟨3, true, true, true, Enc.sz Int, encs r7, none⟩)], []⟩) [] false [206] Try.call34 rfl rfl rfl rfl (slices_Clone_ok fu dims0 r7 hr7) (by rintro _ _ ⟨rfl, rfl⟩; exact ⟨_, _, rfl, rfl, ⟨⟨rfl, rfl, rfl, rfl, rfl, rfl, rfl, rfl, rfl, rfl, rfl, rfl, rfl, rfl, rfl, rfl, rfl, rfl, rfl, rfl, rfl, rfl, rfl, rfl, rfl, rfl, rfl, rfl, rfl, rfl, rfl, rfl, rfl, rfl, rfl, rfl, rfl, trivial⟩, ⟨rfl, rfl, rfl, rfl, rfl, trivial⟩, rfl⟩⟩) rfl) ?_, Turn.e 8 rfl rfl (fun d e => by cases e; decide) (EF.alloc 11 Try.zeroValue67 rfl) ?_, trivial⟩
            · rintro _ rfl
              refine GH2.take 7 rfl (by decide +kernel) (by decide +kernel) (by decide +kernel) rfl rfl (by decide) (PY.build (out := [.val (.int .i64 v0.Start), .osl 206 (Enc.sz Int) 0 (List.length r7), .osl 9 (Enc.sz Int) 0 (List.length (List.replicate (Int.toNat (List.length dims0 : Int)) (0 : Int)))]) Try.underlying67 build67.1 (build67.2 _ Try.underlying67) rfl rfl) ?_
              refine GH2.one 8 (by decide +kernel) rfl rfl (fun d e => by cases e; decide) (EF.alloc 11 Try.zeroValue67 rfl) ?_
              rintro _ rfl
              refine GH2.one 9 (by decide +kernel) rfl rfl (fun d e => by cases e) (EF.storeN (cells' := [.val (.int .i64 v0.Start), .osl 206 (Enc.sz Int) 0 (List.length r7), .osl 9 (Enc.sz Int) 0 (List.length (List.replicate (Int.toNat (List.length dims0 : Int)) (0 : Int)))]) rfl rfl rfl rfl rfl rfl rfl rfl Try.sizeOf67 (Nat.le_of_ble_eq_true rfl) rfl rfl) ?_
              rintro _ rfl
              refine GH2.done (by decide +kernel) ?_
              exact And.intro rfl ⟨⟨rfl, rfl, rfl, rfl, rfl, rfl, trivial⟩, ⟨rfl, rfl, rfl, rfl, rfl, rfl, trivial⟩, rfl⟩
            · rintro _ rfl
              refine GH2.one 3 (by decide +kernel) rfl rfl (fun d e => by cases e; decide) (EF.lend (s1 := ⟨[(0, .agg [.val (.int .i64 v0.Start), .sl (List.length v0.Dims) (encs v0.Dims), .sl (List.length v0.Steps) (encs v0.Steps)]), (1, .sl (List.length dims0) (encs dims0)), (2, .loc 0 0), (4, .loc 1 0), (5, .loc 2 0), (6, .val (.int .i64 r1)), (7, .val (.int .i64 r3.1)), (8, .val (.int .i64 r3.2)), (9, .val (.int .i64 r5.1)), (10, .val (.int .i64 r5.2)), (11, .loc 11 0), (16, .agg [.val (.int .i64 v0.Start), .sl (List.length v0.Dims) (encs v0.Dims), .sl (List.length v0.Steps) (encs v0.Steps)]), (17, .val (.int .i64 r1)), (18, .val (.int .i64 r1)), (19, .val (.bool (r1 != 0))), (22, .tup [.val (.int .i64 r3.1), .val (.int .i64 r3.2)]), (23, .sl (List.length dims0) (encs dims0)), (24, .tup [.val (.int .i64 r3.1), .val (.int .i64 r3.2)]), (25, .val (.int .i64 r3.1)), (26, .val (.int .i64 r3.2)), (27, .val (.int .i64 r3.2)), (28, .val (.bool (r3.2 != 0))), (31, .tup [.val (.int .i64 r5.1), .val (.int .i64 r5.2)]), (32, .loc 0 1), (33, .sl (List.length v0.Dims) (encs v0.Dims)), (34, .tup [.val (.int .i64 r5.1), .val (.int .i64 r5.2)]), (35, .val (.int .i64 r5.1)), (36, .val (.int .i64 r5.2)), (37, .val (.int .i64 r5.1)), (38, .val (.int .i64 r3.1)), (39, .val (.bool (r5.1 != r3.1))), (41, .loc 0 0), (42, .val (.int .i64 v0.Start)), (43, .sl (List.length dims0) (encs dims0)), (44, .osl 206 (Enc.sz Int) 0 (List.length r7)), (45, .sl (List.length dims0) (encs dims0)), (46, .val (.int .i64 (List.length dims0 : Int))), (47, .osl 9 (Enc.sz Int) 0 (List.length (List.replicate (Int.toNat (List.length dims0 : Int)) (0 : Int))))], [(0, ⟨67, false, true, false, 0, [.val (.int .i64 v0.Start), .sl (List.length v0.Dims) (encs v0.Dims), .sl (List.length v0.Steps) (encs v0.Steps)], none⟩), (1, ⟨67, false, true, false, 0, [.val (.int .i64 0), .val (.slice none 0 0), .val (.slice none 0 0)], none⟩), (2, ⟨26, false, true, false, 0, [.val (.int .i64 0)], none⟩), (9, ⟨3, true, true, true, Enc.sz Int, encs (List.replicate (Int.toNat (List.length dims0 : Int)) (0 : Int)), none⟩), (11, ⟨67, false, true, false, 0, [.val (.int .i64 0), .val (.slice none 0 0), .val (.slice none 0 0)], none⟩), (206, ⟨3, true, true, true, Enc.sz Int, encs r7, none⟩)], []⟩) [] false [206] Try.call34 rfl rfl rfl rfl (slices_Clone_ok fu dims0 r7 hr7) (by rintro _ _ ⟨rfl, rfl⟩; exact ⟨_, _, rfl, rfl, ⟨⟨rfl, rfl, rfl, rfl, rfl, rfl, rfl, rfl, rfl, rfl, rfl, rfl, rfl, rfl, rfl, rfl, rfl, rfl, rfl, rfl, rfl, rfl, rfl, rfl, rfl, rfl, rfl, rfl, rfl, rfl, rfl, rfl, rfl, rfl, rfl, rfl, rfl, rfl, trivial⟩, ⟨rfl, rfl, rfl, rfl, rfl, rfl, trivial⟩, rfl⟩⟩) rfl) ?_
              rintro _ rfl
              refine GH2.take 7 rfl (by decide +kernel) (by decide +kernel) (by decide +kernel) rfl rfl (by decide) (PY.build (out := [.val (.int .i64 v0.Start), .osl 206 (Enc.sz Int) 0 (List.length r7), .osl 9 (Enc.sz Int) 0 (List.length (List.replicate (Int.toNat (List.length dims0 : Int)) (0 : Int)))]) Try.underlying67 build67.1 (build67.2 _ Try.underlying67) rfl rfl) ?_
              refine GH2.one 9 (by decide +kernel) rfl rfl (fun d e => by cases e) (EF.storeN (cells' := [.val (.int .i64 v0.Start), .osl 206 (Enc.sz Int) 0 (List.length r7), .osl 9 (Enc.sz Int) 0 (List.length (List.replicate (Int.toNat (List.length dims0 : Int)) (0 : Int)))]) rfl rfl rfl rfl rfl rfl rfl rfl Try.sizeOf67 (Nat.le_of_ble_eq_true rfl) rfl rfl) ?_
              rintro _ rfl
              refine GH2.done (by decide +kernel) ?_
              exact And.intro rfl ⟨⟨rfl, rfl, rfl, rfl, rfl, rfl, trivial⟩, ⟨rfl, rfl, rfl, rfl, rfl, rfl, trivial⟩, rfl⟩
          · rintro _ rfl
            refine GH2.any 3 [6] (by decide +kernel) ⟨Turn.e 3 rfl rfl (fun d e => by cases e; decide) (EF.lend (s1 := ⟨[(0, .agg [.val (.int .i64 v0.Start), .sl (List.length v0.Dims) (encs v0.Dims), .sl (List.length v0.Steps) (encs v0.Steps)]), (1, .sl (List.length dims0) (encs dims0)), (2, .loc 0 0), (4, .loc 1 0), (5, .loc 2 0), (6, .val (.int .i64 r1)), (7, .val (.int .i64 r3.1)), (8, .val (.int .i64 r3.2)), (9, .val (.int .i64 r5.1)), (10, .val (.int .i64 r5.2)), (11, .loc 11 0), (16, .agg [.val (.int .i64 v0.Start), .sl (List.length v0.Dims) (encs v0.Dims), .sl (List.length v0.Steps) (encs v0.Steps)]), (17, .val (.int .i64 r1)), (18, .val (.int .i64 r1)), (19, .val (.bool (r1 != 0))), (22, .tup [.val (.int .i64 r3.1), .val (.int .i64 r3.2)]), (23, .sl (List.length dims0) (encs dims0)), (24, .tup [.val (.int .i64 r3.1), .val (.int .i64 r3.2)]), (25, .val (.int .i64 r3.1)), (26, .val (.int .i64 r3.2)), (27, .val (.int .i64 r3.2)), (28, .val (.bool (r3.2 != 0))), (31, .tup [.val (.int .i64 r5.1), .val (.int .i64 r5.2)]), (32, .loc 0 1), (33, .sl (List.length v0.Dims) (encs v0.Dims)), (34, .tup [.val (.int .i64 r5.1), .val (.int .i64 r5.2)]), (35, .val (.int .i64 r5.1)), (36, .val (.int .i64 r5.2)), (37, .val (.int .i64 r5.1)), (38, .val (.int .i64 r3.1)), (39, .val (.bool (r5.1 != r3.1))), (41, .loc 0 0), (42, .val (.int .i64 v0.Start)), (43, .sl (List.length dims0) (encs dims0)), (44, .osl 206 (Enc.sz Int) 0 (List.length r7)), (45, .sl (List.length dims0) (encs dims0)), (46, .val (.int .i64 (List.length dims0 : Int)))], [(0, ⟨67, false, true, false, 0, [.val (.int .i64 v0.Start), .sl (List.length v0.Dims) (encs v0.Dims), .sl (List.length v0.Steps) (encs v0.Steps)], none⟩), (1, ⟨67, false, true, false, 0, [.val (.int .i64 0), .val (.slice none 0 0), .val (.slice none 0 0)], none⟩), (2, ⟨26, false, true, false, 0, [.val (.int .i64 0)], none⟩), (11, ⟨67, false, true, false, 0, [.val (.int .i64 0), .val (.slice none 0 0), .val (.slice none 0 0)], none⟩), (206, ⟨3, true, true, true, Enc.sz Int, encs r7, none⟩)], []⟩) [] false [206] Try.call34 rfl rfl rfl rfl (slices_Clone_ok fu dims0 r7 hr7) (by rintro _ _ ⟨rfl, rfl⟩; exact ⟨_, _, rfl, rfl, ⟨⟨rfl, rfl, rfl, rfl, rfl, rfl, rfl, rfl, rfl, rfl, rfl, rfl, rfl, rfl, rfl, rfl, rfl, rfl, rfl, rfl, rfl, rfl, rfl, rfl, rfl, rfl, rfl, rfl, rfl, rfl, rfl, rfl, rfl, rfl, rfl, rfl, rfl, trivial⟩, ⟨rfl, rfl, rfl, rfl, rfl, trivial⟩, rfl⟩⟩) rfl) ?_, Turn.e 6 rfl rfl (fun d e => by cases e; decide) (ET.make (α := Int) (x := (0 : Int)) 9 rfl rfl Try.underlying22 info3 rfl rfl hm4.1 hm4.2.1 hm4.2.2 rfl) ?_, trivial⟩
            · rintro _ rfl
              refine GH2.one 6 (by decide +kernel) rfl rfl (fun d e => by cases e; decide) (ET.make (α := Int) (x := (0 : Int)) 9 rfl rfl Try.underlying22 info3 rfl rfl hm4.1 hm4.2.1 hm4.2.2 rfl) ?_
              rintro _ rfl
              refine GH2.take 7 rfl (by decide +kernel) (by decide +kernel) (by decide +kernel) rfl rfl (by decide) (PY.build (out := [.val (.int .i64 v0.Start), .osl 206 (Enc.sz Int) 0 (List.length r7), .osl 9 (Enc.sz Int) 0 (List.length (List.replicate (Int.toNat (List.length dims0 : Int)) (0 : Int)))]) Try.underlying67 build67.1 (build67.2 _ Try.underlying67) rfl rfl) ?_
              refine GH2.one 9 (by decide +kernel) rfl rfl (fun d e => by cases e) (EF.storeN (cells' := [.val (.int .i64 v0.Start), .osl 206 (Enc.sz Int) 0 (List.length r7), .osl 9 (Enc.sz Int) 0 (List.length (List.replicate (Int.toNat (List.length dims0 : Int)) (0 : Int)))]) rfl rfl rfl rfl rfl rfl rfl rfl Try.sizeOf67 (Nat.le_of_ble_eq_true rfl) rfl rfl) ?_
              rintro _ rfl
              refine GH2.done (by decide +kernel) ?_
              exact And.intro rfl ⟨⟨rfl, rfl, rfl, rfl, rfl, rfl, trivial⟩, ⟨rfl, rfl, rfl, rfl, rfl, rfl, trivial⟩, rfl⟩
            · rintro _ rfl
              refine GH2.one 3 (by decide +kernel) rfl rfl (fun d e => by cases e; decide) (EF.lend (s1 := ⟨[(0, .agg [.val (.int .i64 v0.Start), .sl (List.length v0.Dims) (encs v0.Dims), .sl (List.length v0.Steps) (encs v0.Steps)]), (1, .sl (List.length dims0) (encs dims0)), (2, .loc 0 0), (4, .loc 1 0), (5, .loc 2 0), (6, .val (.int .i64 r1)), (7, .val (.int .i64 r3.1)), (8, .val (.int .i64 r3.2)), (9, .val (.int .i64 r5.1)), (10, .val (.int .i64 r5.2)), (11, .loc 11 0), (16, .agg [.val (.int .i64 v0.Start), .sl (List.length v0.Dims) (encs v0.Dims), .sl (List.length v0.Steps) (encs v0.Steps)]), (17, .val (.int .i64 r1)), (18, .val (.int .i64 r1)), (19, .val (.bool (r1 != 0))), (22, .tup [.val (.int .i64 r3.1), .val (.int .i64 r3.2)]), (23, .sl (List.length dims0) (encs dims0)), (24, .tup [.val (.int .i64 r3.1), .val (.int .i64 r3.2)]), (25, .val (.int .i64 r3.1)), (26, .val (.int .i64 r3.2)), (27, .val (.int .i64 r3.2)), (28, .val (.bool (r3.2 != 0))), (31, .tup [.val (.int .i64 r5.1), .val (.int .i64 r5.2)]), (32, .loc 0 1), (33, .sl (List.length v0.Dims) (encs v0.Dims)), (34, .tup [.val (.int .i64 r5.1), .val (.int .i64 r5.2)]), (35, .val (.int .i64 r5.1)), (36, .val (.int .i64 r5.2)), (37, .val (.int .i64 r5.1)), (38, .val (.int .i64 r3.1)), (39, .val (.bool (r5.1 != r3.1))), (41, .loc 0 0), (42, .val (.int .i64 v0.Start)), (43, .sl (List.length dims0) (encs dims0)), (44, .osl 206 (Enc.sz Int) 0 (List.length r7)), (45, .sl (List.length dims0) (encs dims0)), (46, .val (.int .i64 (List.length dims0 : Int))), (47, .osl 9 (Enc.sz Int) 0 (List.length (List.replicate (Int.toNat (List.length dims0 : Int)) (0 : Int))))], [(0, ⟨67, false, true, false, 0, [.val (.int .i64 v0.Start), .sl (List.length v0.Dims) (encs v0.Dims), .sl (List.length v0.Steps) (encs v0.Steps)], none⟩), (1, ⟨67, false, true, false, 0, [.val (.int .i64 0), .val (.slice none 0 0), .val (.slice none 0 0)], none⟩), (2, ⟨26, false, true, false, 0, [.val (.int .i64 0)], none⟩), (9, ⟨3, true, true, true, Enc.sz Int, encs (List.replicate (Int.toNat (List.length dims0 : Int)) (0 : Int)), none⟩), (11, ⟨67, false, true, false, 0, [.val (.int .i64 0), .val (.slice none 0 0), .val (.slice none 0 0)], none⟩), (206, ⟨3, true, true, true, Enc.sz Int, encs r7, none⟩)], []⟩) [] false [206] Try.call34 rfl rfl rfl rfl (slices_Clone_ok fu dims0 r7 hr7) (by rintro _ _ ⟨rfl, rfl⟩; exact ⟨_, _, rfl, rfl, ⟨⟨rfl, rfl, rfl, rfl, rfl, rfl, rfl, rfl, rfl, rfl, rfl, rfl, rfl, rfl, rfl, rfl, rfl, rfl, rfl, rfl, rfl, rfl, rfl, rfl, rfl, rfl, rfl, rfl, rfl, rfl, rfl, rfl, rfl, rfl, rfl, rfl, rfl, rfl, trivial⟩, ⟨rfl, rfl, rfl, rfl, rfl, rfl, trivial⟩, rfl⟩⟩) rfl) ?_
              rintro _ rfl
              refine GH2.take 7 rfl (by decide +kernel) (by decide +kernel) (by decide +kernel) rfl rfl (by decide) (PY.build (out := [.val (.int .i64 v0.Start), .osl 206 (Enc.sz Int) 0 (List.length r7), .osl 9 (Enc.sz Int) 0 (List.length (List.replicate (Int.toNat (List.length dims0 : Int)) (0 : Int)))]) Try.underlying67 build67.1 (build67.2 _ Try.underlying67) rfl rfl) ?_
              refine GH2.one 9 (by decide +kernel) rfl rfl (fun d e => by cases e) (EF.storeN (cells' := [.val (.int .i64 v0.Start), .osl 206 (Enc.sz Int) 0 (List.length r7), .osl 9 (Enc.sz Int) 0 (List.length (List.replicate (Int.toNat (List.length dims0 : Int)) (0 : Int)))]) rfl rfl rfl rfl rfl rfl rfl rfl Try.sizeOf67 (Nat.le_of_ble_eq_true rfl) rfl rfl) ?_
              rintro _ rfl
              refine GH2.done (by decide +kernel) ?_
              exact And.intro rfl ⟨⟨rfl, rfl, rfl, rfl, rfl, rfl, trivial⟩, ⟨rfl, rfl, rfl, rfl, rfl, rfl, trivial⟩, rfl⟩
        · rintro _ s2 ⟨rfl, hs⟩
          refine GW.weak _ hs ?_
          refine GW.weak ⟨[(1, .sl (List.length dims0) (encs dims0)), (2, .loc 0 0), (4, .loc 1 0), (5, .loc 2 0), (7, .val (.int .i64 r3.1)), (11, .loc 11 0)], [(0, ⟨67, false, true, false, 0, [.val (.int .i64 v0.Start), .sl (List.length v0.Dims) (encs v0.Dims), .sl (List.length v0.Steps) (encs v0.Steps)], none⟩), (1, ⟨67, false, true, false, 0, [.val (.int .i64 0), .val (.slice none 0 0), .val (.slice none 0 0)], none⟩), (2, ⟨26, false, true, false, 0, [.val (.int .i64 0)], none⟩), (9, ⟨3, true, true, true, Enc.sz Int, encs (List.replicate (Int.toNat (List.length dims0 : Int)) (0 : Int)), none⟩), (11, ⟨67, false, true, false, 0, [.val (.int .i64 v0.Start), .osl 206 (Enc.sz Int) 0 (List.length r7), .osl 9 (Enc.sz Int) 0 (List.length (List.replicate (Int.toNat (List.length dims0 : Int)) (0 : Int)))], none⟩), (206, ⟨3, true, true, true, Enc.sz Int, encs r7, none⟩)], []⟩ ⟨⟨rfl, rfl, rfl, rfl, rfl, rfl, trivial⟩, ⟨rfl, rfl, rfl, rfl, rfl, rfl, trivial⟩, rfl⟩ ?_
          apply GW.seq
          apply GW.seq
          apply GW.region
          refine GL.py (PY.move rfl) rfl rfl ?_
          refine GL.py (PY.bin rfl rfl rfl) rfl rfl ?_
          apply GL.nil
          refine GW.cond rfl (fun hc27 => ?_) (fun hc27 => ?_)
          · have H := condT hc27 H
            apply GW.seq
            apply GW.region
            refine GL.y (YL.loadAgg rfl rfl rfl Try.isAgg67 Try.sizeOf67 (Nat.le_of_ble_eq_true rfl) rfl) rfl rfl ?_
            refine GL.e0 (EF.storeN (W := [1]) (cells' := [.val (.int .i64 v0.Start), .osl 206 (Enc.sz Int) 0 (List.length r7), .osl 9 (Enc.sz Int) 0 (List.length (List.replicate (Int.toNat (List.length dims0 : Int)) (0 : Int)))]) rfl rfl rfl rfl rfl rfl rfl rfl Try.sizeOf67 (Nat.le_of_ble_eq_true rfl) rfl rfl) rfl ?_
            refine GL.e0 (EF.storeN (W := [2]) (cells' := [.val (.int .i64 0)]) rfl rfl rfl rfl rfl rfl rfl rfl Try.sizeOf26 (Nat.le_of_ble_eq_true rfl) rfl rfl) rfl ?_
            apply GL.nil
            refine GW.ret ?_
            have H := Option.some.inj H
            subst H
            exact RetQ.mk (.inl rfl) [.agg [.val (.int .i64 v0.Start), .osl 206 (Enc.sz Int) 0 (List.length r7), .osl 9 (Enc.sz Int) 0 (List.length (List.replicate (Int.toNat (List.length dims0 : Int)) (0 : Int)))], .val (.int .i64 0)] _ [] ⟨Res.cellA rfl rfl rfl Try.isAgg67 Try.sizeOf67 rfl rfl, Res.cell rfl rfl rfl Try.isAgg26 rfl, trivial⟩ trivial (fz_tup (fz_go (fz_agg (fz_go rfl (fz_go (fz_vec (α := Int) (l := r7) rfl rfl rfl rfl rfl rfl) (fz_go (fz_vec (α := Int) (l := List.replicate (Int.toNat (List.length dims0 : Int)) (0 : Int)) rfl rfl rfl rfl rfl rfl) rfl)))) (fz_go rfl rfl))) ⟨rfl, rfl⟩
          · have H := condF hc27 H
            apply GW.skip
            apply GW.seq
            obtain ⟨r8, hr8, H⟩ := bind_some H
            apply GW.region
            refine GL.y (YL.loadAgg rfl rfl rfl Try.isAgg67 Try.sizeOf67 (Nat.le_of_ble_eq_true rfl) rfl) rfl rfl ?_
            refine GL.e1 (EF.lend (s1 := ⟨[(1, .sl (List.length dims0) (encs dims0)), (4, .loc 1 0), (5, .loc 2 0), (11, .loc 11 0), (53, .osl 408 (Enc.sz SBlock) 0 (List.length r8))], [(1, ⟨67, false, true, false, 0, [.val (.int .i64 0), .val (.slice none 0 0), .val (.slice none 0 0)], none⟩), (2, ⟨26, false, true, false, 0, [.val (.int .i64 0)], none⟩), (9, ⟨3, true, true, true, Enc.sz Int, encs (List.replicate (Int.toNat (List.length dims0 : Int)) (0 : Int)), none⟩), (11, ⟨67, false, true, false, 0, [.val (.int .i64 v0.Start), .osl 206 (Enc.sz Int) 0 (List.length r7), .osl 9 (Enc.sz Int) 0 (List.length (List.replicate (Int.toNat (List.length dims0 : Int)) (0 : Int)))], none⟩), (206, ⟨3, true, true, true, Enc.sz Int, encs r7, none⟩), (408, ⟨111, true, true, true, Enc.sz SBlock, encs r8, none⟩)], []⟩) (W := []) [] false [408] Try.call86 rfl rfl rfl rfl (view_blocks_ok fu v0 r8 hr8) (by rintro _ _ ⟨rfl, rfl⟩; exact ⟨_, _, rfl, rfl, ⟨⟨rfl, rfl, rfl, rfl, rfl, trivial⟩, ⟨rfl, rfl, rfl, rfl, rfl, rfl, trivial⟩, rfl⟩⟩) rfl) rfl rfl ?_
            refine GL.e1 (W := []) (EF.alloc 209 Try.zeroValue104 rfl) rfl rfl ?_
            refine GL.e0 (EF.storeN (W := [209]) (cells' := [.osl 408 (Enc.sz SBlock) 0 (List.length r8)]) rfl rfl rfl rfl rfl rfl rfl rfl Try.sizeOf104 (Nat.le_of_ble_eq_true rfl) rfl rfl) rfl ?_
            apply GL.nil
            apply GW.seq
            apply GW.seq
            obtain ⟨r9, hr9, H⟩ := bind_some H
            apply GW.region
            refine GL.py (PY.move rfl) rfl rfl ?_
            refine GL.e (W := []) (EF.callA Try.call87 rfl (mapO_cons rfl rfl) (slices_Backward_ok fu dims0 r9 hr9) (by rintro _ _ ⟨rfl, rfl⟩; exact ⟨rfl, rfl⟩)) rfl rfl ?_
            rintro _ ⟨_, _, ⟨rfl, rfl⟩, rfl⟩
            apply GL.nil
            apply GW.block
            obtain ⟨r16, hr16, H⟩ := bind_some H
            obtain ⟨o11, o12, o13, o14, o15⟩ := r16
            refine GW.rangeFunc hro view_Reform_y1_lp 409 [4, 5, 11, 12] [409, 1, 2, 11, 206, 9, 209, 408] false [409, 1, 2, 11, 206, 9, 209, 408] (fun _ _ => rfl) rfl Try.call107 rfl rfl (fun _ => rfl) rfl (by simp) (fun fn => slices_Backward_1_ok fn fu r9 (⟨0, [], []⟩ : SView) 0 v0.Start r7 (List.replicate (Int.toNat (List.length dims0 : Int)) (0 : Int)) r8 (o11, o12, o13, o14, o15) hr16) (fun _ => rfl) ?_
            rintro fn _ _ ⟨rfl, rfl⟩
            refine (Bool.eq_false_or_eq_true (Jp.isRt o11)).elim (fun hj28 => ?_) (fun hj28 => ?_)
            · have H := condT hj28 H
              refine ⟨_, ⟨[(4, .loc 1 0), (5, .loc 2 0), (11, .loc 11 0)], [(1, ⟨67, false, true, false, 0, [.val (.int .i64 o12.Start), .sl (List.length o12.Dims) (encs o12.Dims), .sl (List.length o12.Steps) (encs o12.Steps)], none⟩), (2, ⟨26, false, true, false, 0, [.val (.int .i64 o13)], none⟩), (9, ⟨3, true, true, true, Enc.sz Int, encs o14, none⟩), (11, ⟨67, false, true, false, 0, [.val (.int .i64 v0.Start), .osl 206 (Enc.sz Int) 0 (List.length r7), .osl 9 (Enc.sz Int) 0 (List.length o14)], none⟩), (206, ⟨3, true, true, true, Enc.sz Int, encs r7, none⟩)], []⟩, _, _, rfl, rfl, rfl, rfl, ⟨⟨rfl, rfl, rfl, trivial⟩, ⟨rfl, rfl, rfl, rfl, rfl, trivial⟩, rfl⟩, rfl, LoopR.rt hj28 ?_⟩
              have H := Option.some.inj H
              subst H
              exact RetQ.mk (.inl rfl) [.agg [.val (.int .i64 o12.Start), .sl (List.length o12.Dims) (encs o12.Dims), .sl (List.length o12.Steps) (encs o12.Steps)], .val (.int .i64 o13)] _ [] ⟨Res.cellA rfl rfl rfl Try.isAgg67 Try.sizeOf67 rfl rfl, Res.cell rfl rfl rfl Try.isAgg26 rfl, trivial⟩ trivial (fz_tup (fz_go (fz_agg (fz_go rfl (fz_go rfl (fz_go rfl rfl)))) (fz_go rfl rfl))) ⟨rfl, rfl⟩
            · have H := condF hj28 H
              refine ⟨_, ⟨[(4, .loc 1 0), (5, .loc 2 0), (11, .loc 11 0)], [(1, ⟨67, false, true, false, 0, [.val (.int .i64 o12.Start), .sl (List.length o12.Dims) (encs o12.Dims), .sl (List.length o12.Steps) (encs o12.Steps)], none⟩), (2, ⟨26, false, true, false, 0, [.val (.int .i64 o13)], none⟩), (9, ⟨3, true, true, true, Enc.sz Int, encs o14, none⟩), (11, ⟨67, false, true, false, 0, [.val (.int .i64 v0.Start), .osl 206 (Enc.sz Int) 0 (List.length r7), .osl 9 (Enc.sz Int) 0 (List.length o14)], none⟩), (206, ⟨3, true, true, true, Enc.sz Int, encs r7, none⟩)], []⟩, _, _, rfl, rfl, rfl, rfl, ⟨⟨rfl, rfl, rfl, trivial⟩, ⟨rfl, rfl, rfl, rfl, rfl, trivial⟩, rfl⟩, rfl, LoopR.on hj28 ?_⟩
              apply GW.seq
              obtain ⟨r17, hr17, H⟩ := bind_some H
              apply GW.region
              refine GL.y (YL.loadAgg rfl rfl rfl Try.isAgg67 Try.sizeOf67 (Nat.le_of_ble_eq_true rfl) rfl) rfl rfl ?_
              refine GL.freeze ⟨[(4, .loc 1 0), (5, .loc 2 0), (106, .agg [.val (.int .i64 v0.Start), .fr (.sl (List.length r7) (encs r7)), .fr (.sl (List.length o14) (encs o14))])], [(1, ⟨67, false, true, false, 0, [.val (.int .i64 o12.Start), .sl (List.length o12.Dims) (encs o12.Dims), .sl (List.length o12.Steps) (encs o12.Steps)], none⟩), (2, ⟨26, false, true, false, 0, [.val (.int .i64 o13)], none⟩)], []⟩ ⟨⟨_, rfl, rfl, rfl, rfl, rfl, rfl, rfl, .inr ⟨rfl, ⟨.inr rfl, .inr rfl, .inr rfl, trivial⟩⟩⟩, ⟨_, rfl, rfl, rfl, rfl, rfl, rfl, rfl, .inr ⟨rfl, ⟨.inr rfl, trivial⟩⟩⟩, trivial⟩ ⟨⟨_, rfl, .inr rfl⟩, ⟨_, rfl, .inr rfl⟩, ⟨_, rfl, .inl (fz_agg (fz_go rfl (fz_go (fz_vec (α := Int) (l := r7) rfl rfl rfl rfl rfl rfl) (fz_go (fz_vec (α := Int) (l := o14) rfl rfl rfl rfl rfl rfl) rfl))))⟩, trivial⟩ ?_
              refine GL.e (W := []) (EF.callA Try.call88 rfl (mapO_cons rfl rfl) (view_done_ok fu (⟨v0.Start, r7, o14⟩ : SView) r17 hr17) (by rintro _ _ ⟨rfl, rfl⟩; exact ⟨rfl, rfl⟩)) rfl rfl ?_
              rintro _ ⟨_, _, ⟨rfl, rfl⟩, rfl⟩
              refine GL.py (PY.extract rfl rfl) rfl rfl ?_
              refine GL.py (PY.extract rfl rfl) rfl rfl ?_
              refine GL.e0 (EF.storeN (W := [1]) (cells' := [.val (.int .i64 r17.1.Start), .sl (List.length r17.1.Dims) (encs r17.1.Dims), .sl (List.length r17.1.Steps) (encs r17.1.Steps)]) rfl rfl rfl rfl rfl rfl rfl rfl Try.sizeOf67 (Nat.le_of_ble_eq_true rfl) rfl rfl) rfl ?_
              refine GL.e0 (EF.storeN (W := [2]) (cells' := [.val (.int .i64 r17.2)]) rfl rfl rfl rfl rfl rfl rfl rfl Try.sizeOf26 (Nat.le_of_ble_eq_true rfl) rfl rfl) rfl ?_
              apply GL.nil
              refine GW.ret ?_
              have H := Option.some.inj H
              subst H
              exact RetQ.mk (.inl rfl) [.agg [.val (.int .i64 r17.1.Start), .sl (List.length r17.1.Dims) (encs r17.1.Dims), .sl (List.length r17.1.Steps) (encs r17.1.Steps)], .val (.int .i64 r17.2)] _ [] ⟨Res.cellA rfl rfl rfl Try.isAgg67 Try.sizeOf67 rfl rfl, Res.cell rfl rfl rfl Try.isAgg26 rfl, trivial⟩ trivial (fz_tup (fz_go (fz_agg (fz_go rfl (fz_go rfl (fz_go rfl rfl)))) (fz_go rfl rfl))) ⟨rfl, rfl⟩
noncomputable def view_rowMajor_y1_lp (fn : FuncId) (j : Option Code) : Lp := ⟨fn, 27, [1, 3, 4], #[14, 15], cAsg (cBlk (cSeqR (cSeqL (cSeqR (cSeqR (cSeqR (cSeqR (cOf Try.f83)))))))), cBody (cBlk (cSeqR (cSeqL (cSeqR (cSeqR (cSeqR (cSeqR (cOf Try.f83)))))))), j⟩
theorem view_rowMajor_y1_ok (fn : FuncId) (fu : Nat) (a0 : Int) (a00 : Int) (c0 : (List Int)) (l0 : (List Int)) (c00 : Int) (r : ((List Int) × Int)) (H : F.view_rowMajor_y1 fu a0 a00 c0 l0 c00 = some r) : GY Try.prog (view_rowMajor_y1_lp fn none) [.loc 1000 0, .loc 1001 0, .loc 1003 0] [.val (.int .i64 a0), .val (.int .i64 a00)] [(1000, ⟨22, false, false, false, 0, [.sl (List.length c0) (encs c0)], none⟩), (1001, ⟨22, false, false, false, 0, [.osl 1002 (Enc.sz Int) 0 (List.length l0)], none⟩), (1002, ⟨3, true, false, false, Enc.sz Int, encs l0, none⟩), (1003, ⟨3, false, false, false, 0, [.val (.int .i64 c00)], none⟩)] (fun j st => j = none ∧ st = [(1000, ⟨22, false, false, false, 0, [.sl (List.length c0) (encs c0)], none⟩), (1001, ⟨22, false, false, false, 0, [.osl 1002 (Enc.sz Int) 0 (List.length r.1)], none⟩), (1002, ⟨3, true, false, true, Enc.sz Int, encs r.1, none⟩), (1003, ⟨3, false, false, false, 0, [.val (.int .i64 r.2)], none⟩)]) := by
 unfold F.view_rowMajor_y1 at H
 refine GY.of rfl rfl (fun cx => ?_)
 change GW _ 27 _ _ _ _
 refine GW.weak ⟨[(1, .loc 1000 0), (3, .loc 1001 0), (4, .loc 1003 0), (14, .val (.int .i64 a0)), (15, .val (.int .i64 a00))], [(1000, ⟨22, false, false, false, 0, [.sl (List.length c0) (encs c0)], none⟩), (1001, ⟨22, false, false, false, 0, [.osl 1002 (Enc.sz Int) 0 (List.length l0)], none⟩), (1002, ⟨3, true, false, false, Enc.sz Int, encs l0, none⟩), (1003, ⟨3, false, false, false, 0, [.val (.int .i64 c00)], none⟩)], []⟩ ⟨⟨rfl, rfl, rfl, rfl, rfl, trivial⟩, ⟨rfl, rfl, rfl, rfl, trivial⟩, rfl⟩ ?_
 refine GW.refresh (α := Int) (l := l0) 1002 rfl rfl rfl ?_
 apply GW.region
 refine GL.py (PY.assign rfl) rfl rfl ?_
 apply GL.nil
 refine ⟨rfl, fun cx2 => ?_⟩
 change GW _ 27 _ _ _ _
 apply GW.block
 apply GW.seq
 obtain ⟨x1, hx1, H⟩ := bind_some H
 apply GW.region
 refine GL.y (YL.loadN rfl rfl rfl Try.isAgg22 rfl rfl) rfl rfl ?_
 refine GL.py (PY.move rfl) rfl rfl ?_
 refine GL.y (YL.loadN rfl rfl rfl Try.isAgg3 rfl rfl) rfl rfl ?_
 refine GL.py (PY.index rfl rfl rfl (idx_spec hx1).1 (idx_spec hx1).2.1 Try.underlying22 Try.sizeOf3) rfl rfl ?_
 refine GL.e0 (ET.set (α := Int) (x := c00) (W := [1002]) rfl rfl rfl rfl rfl rfl rfl rfl rfl (idx_spec hx1).1 (idx_spec hx1).2.1 Try.sizeOf3 rfl) rfl ?_
 refine GL.resl 16 rfl (show List.length l0 = List.length (List.set l0 (Int.toNat a0) c00) from List.length_set.symm) ?_
 refine GL.resC 1001 0 rfl rfl (show List.length l0 = List.length (List.set l0 (Int.toNat a0) c00) from List.length_set.symm) ?_
 apply GL.nil
 obtain ⟨x2, hx2, H⟩ := bind_some H
 refine GW.draws [1003] mixed ?_
 change GH1 _ _ _ _ _ _ 7 _ _
 refine GH1.take 1 rfl (by decide +kernel) (by decide +kernel) (by decide +kernel) rfl rfl (by decide) (YL.loadN rfl rfl rfl Try.isAgg22 rfl rfl) ?_
 refine GH1.take 2 rfl (by decide +kernel) (by decide +kernel) (by decide +kernel) rfl rfl (by decide) ((PY.move rfl).yield _) ?_
 refine GH1.take 3 rfl (by decide +kernel) (by decide +kernel) (by decide +kernel) rfl rfl (by decide) ((PY.index rfl rfl rfl (idx_spec hx2).1 (idx_spec hx2).2.1 Try.underlying22 Try.sizeOf3).yield _) ?_
 refine GH1.take 4 rfl (by decide +kernel) (by decide +kernel) (by decide +kernel) rfl rfl (by decide) (YT.elt (α := Int) rfl hx2 rfl Try.isAgg3) ?_
 refine GH1.later ?_
 refine GH2.oneY 0 (by decide +kernel) rfl rfl rfl (by decide) (YL.loadN rfl rfl rfl Try.isAgg3 rfl rfl) ?_
 refine GH2.take 5 rfl (by decide +kernel) (by decide +kernel) (by decide +kernel) rfl rfl (by decide) (PY.bin rfl rfl rfl) ?_
 refine GH2.one 6 (by decide +kernel) rfl rfl (fun d e => by cases e) (EF.storeN (cells' := [.val (.int .i64 (IntKind.i64.wrap (c00 * x2)))]) rfl rfl rfl rfl rfl rfl rfl rfl Try.sizeOf3 (Nat.le_of_ble_eq_true rfl) rfl rfl) ?_
 rintro _ rfl
 refine GH2.done (by decide +kernel) ?_
 have H := Option.some.inj H
 subst H
 exact ⟨rfl, [(1000, ⟨22, false, false, false, 0, [.sl (List.length c0) (encs c0)], none⟩), (1001, ⟨22, false, false, false, 0, [.osl 1002 (Enc.sz Int) 0 (List.length (List.set l0 (Int.toNat a0) c00))], none⟩), (1002, ⟨3, true, false, true, Enc.sz Int, encs (List.set l0 (Int.toNat a0) c00), none⟩), (1003, ⟨3, false, false, false, 0, [.val (.int .i64 (IntKind.i64.wrap (c00 * x2)))], none⟩)], ⟨rfl, rfl, rfl, rfl, trivial⟩, rfl, rfl⟩
theorem slices_Backward_1_2_ok (fn : FuncId) (fu : Nat) (a0 : (List Int)) (c0 : (List Int)) (l0 : (List Int)) (c00 : Int) (r : ((List Int) × Int)) (H : F.slices_Backward_1_2 fu a0 c0 l0 c00 = some r) : GM Try.prog 107 [.yld 1000, .ptr [.sl (List.length a0) (encs a0)]] [(1000, (loopB [.loc 1001 0, .loc 1002 0, .loc 1004 0] (view_rowMajor_y1_lp fn (jmpc 0 Jp.go)))), (1001, ⟨22, false, false, false, 0, [.sl (List.length c0) (encs c0)], none⟩), (1002, ⟨22, false, false, false, 0, [.osl 1003 (Enc.sz Int) 0 (List.length l0)], none⟩), (1003, ⟨3, true, false, false, Enc.sz Int, encs l0, none⟩), (1004, ⟨3, false, false, false, 0, [.val (.int .i64 c00)], none⟩)] (fun g st => g = .tup [] ∧ st = [(1000, (loopB [.loc 1001 0, .loc 1002 0, .loc 1004 0] (view_rowMajor_y1_lp fn (jmpc 0 Jp.go)))), (1001, ⟨22, false, false, false, 0, [.sl (List.length c0) (encs c0)], none⟩), (1002, ⟨22, false, false, false, 0, [.osl 1003 (Enc.sz Int) 0 (List.length r.1)], none⟩), (1003, ⟨3, true, false, true, Enc.sz Int, encs r.1, none⟩), (1004, ⟨3, false, false, false, 0, [.val (.int .i64 r.2)], none⟩)]) := by
  unfold F.slices_Backward_1_2 at H
  refine GM.of (N := 19) Try.func107 rfl rfl rfl (fun cx hro => ?_)
  refine GW.refresh (α := Int) (l := l0) 1003 rfl rfl rfl ?_
  apply GW.seq
  apply GW.region
  refine GL.y (YL.ptr rfl rfl Try.isAgg22) rfl rfl ?_
  refine GL.py (PY.len rfl rfl Try.underlying22) rfl rfl ?_
  refine GL.py (PY.bin rfl rfl rfl) rfl rfl ?_
  refine GL.py (PY.assign rfl) rfl rfl ?_
  apply GL.nil
  apply GW.block
  obtain ⟨e3, he3, Hb, Hr⟩ := bindE_some H
  refine GW.weak ((fun (q : Int × (List Int) × Int) => (⟨[(0, .yld 1000), (1, .ptr [.sl (List.length a0) (encs a0)]), (3, .val (.int .i64 q.1))], [(1000, (loopB [.loc 1001 0, .loc 1002 0, .loc 1004 0] (view_rowMajor_y1_lp fn (jmpc 0 Jp.go)))), (1001, ⟨22, false, false, false, 0, [.sl (List.length c0) (encs c0)], none⟩), (1002, ⟨22, false, false, false, 0, [.osl 1003 (Enc.sz Int) 0 (List.length q.2.1)], none⟩), (1003, ⟨3, true, false, true, Enc.sz Int, encs q.2.1, none⟩), (1004, ⟨3, false, false, false, 0, [.val (.int .i64 q.2.2)], none⟩)], []⟩ : St)) (IntKind.i64.wrap ((List.length a0 : Int) - 1), l0, c00)) ⟨⟨rfl, rfl, rfl, trivial⟩, ⟨rfl, rfl, rfl, rfl, rfl, trivial⟩, rfl⟩ ?_
  refine GW.loopF (fun (q : Int × (List Int) × Int) => (⟨[(0, .yld 1000), (1, .ptr [.sl (List.length a0) (encs a0)]), (3, .val (.int .i64 q.1))], [(1000, (loopB [.loc 1001 0, .loc 1002 0, .loc 1004 0] (view_rowMajor_y1_lp fn (jmpc 0 Jp.go)))), (1001, ⟨22, false, false, false, 0, [.sl (List.length c0) (encs c0)], none⟩), (1002, ⟨22, false, false, false, 0, [.osl 1003 (Enc.sz Int) 0 (List.length q.2.1)], none⟩), (1003, ⟨3, true, false, true, Enc.sz Int, encs q.2.1, none⟩), (1004, ⟨3, false, false, false, 0, [.val (.int .i64 q.2.2)], none⟩)], []⟩ : St)) (QJ (.exit 0) (fun (q : (List Int) × Int) => (⟨[], [(1000, (loopB [.loc 1001 0, .loc 1002 0, .loc 1004 0] (view_rowMajor_y1_lp fn (jmpc 0 Jp.go)))), (1001, ⟨22, false, false, false, 0, [.sl (List.length c0) (encs c0)], none⟩), (1002, ⟨22, false, false, false, 0, [.osl 1003 (Enc.sz Int) 0 (List.length q.1)], none⟩), (1003, ⟨3, true, false, true, Enc.sz Int, encs q.1, none⟩), (1004, ⟨3, false, false, false, 0, [.val (.int .i64 q.2)], none⟩)], []⟩ : St)) (fun r2 _ s2 => RetQ Try.prog Try.f107 (fun g st => g = .tup [] ∧ st = [(1000, (loopB [.loc 1001 0, .loc 1002 0, .loc 1004 0] (view_rowMajor_y1_lp fn (jmpc 0 Jp.go)))), (1001, ⟨22, false, false, false, 0, [.sl (List.length c0) (encs c0)], none⟩), (1002, ⟨22, false, false, false, 0, [.osl 1003 (Enc.sz Int) 0 (List.length r2.1)], none⟩), (1003, ⟨3, true, false, true, Enc.sz Int, encs r2.1, none⟩), (1004, ⟨3, false, false, false, 0, [.val (.int .i64 r2.2)], none⟩)]) .ret s2)) he3 (fun x o hb => ?_) (fun ex s2 _ hx => ?_)
  · obtain ⟨i1, l2, c3⟩ := x
    have H := hb
    unfold F.slices_Backward_1_2_l1 at H
    try dsimp only at H
    refine GW.weak ⟨[(0, .yld 1000), (1, .ptr [.sl (List.length a0) (encs a0)]), (3, .val (.int .i64 i1))], [(1000, (loopB [.loc 1001 0, .loc 1002 0, .loc 1004 0] (view_rowMajor_y1_lp fn (jmpc 0 Jp.go)))), (1001, ⟨22, false, false, false, 0, [.sl (List.length c0) (encs c0)], none⟩), (1002, ⟨22, false, false, false, 0, [.osl 1003 (Enc.sz Int) 0 (List.length l2)], none⟩), (1003, ⟨3, true, false, true, Enc.sz Int, encs l2, none⟩), (1004, ⟨3, false, false, false, 0, [.val (.int .i64 c3)], none⟩)], []⟩ ⟨⟨rfl, rfl, rfl, trivial⟩, ⟨rfl, rfl, rfl, rfl, rfl, trivial⟩, rfl⟩ ?_
    apply GW.seq
    apply GW.seq
    apply GW.region
    refine GL.py (PY.move rfl) rfl rfl ?_
    refine GL.py (PY.bin rfl rfl rfl) rfl rfl ?_
    apply GL.nil
    refine GW.cond rfl (fun hc1 => ?_) (fun hc1 => ?_)
    · have H := condT hc1 H
      apply GW.skip
      apply GW.seq
      apply GW.block
      apply GW.seq
      obtain ⟨x6, hx6, H⟩ := bind_some H
      obtain ⟨r9, hr9, H⟩ := bind_some H
      obtain ⟨o7, o8⟩ := r9
      apply GW.region
      refine GL.py (PY.move rfl) rfl rfl ?_
      refine GL.py (PY.move rfl) rfl rfl ?_
      refine GL.y (YL.ptr rfl rfl Try.isAgg22) rfl rfl ?_
      refine GL.py (PY.move rfl) rfl rfl ?_
      refine GL.py (PY.index rfl rfl rfl (idx_spec hx6).1 (idx_spec hx6).2.1 Try.underlying22 Try.sizeOf3) rfl rfl ?_
      refine GL.y (YT.elt (α := Int) rfl hx6 rfl Try.isAgg3) rfl rfl ?_
      refine GL.yld [1001, 1002, 1003, 1004] [1001, 1002, 1003, 1004] rfl rfl rfl rfl rfl rfl rfl rfl rfl rfl rfl rfl rfl (view_rowMajor_y1_ok fn fu i1 x6 c0 l2 c3 (o7, o8) hr9) rfl rfl ?_
      rintro _ _ ⟨rfl, rfl⟩
      refine ⟨_, rfl, _, rfl, rfl, _, rfl, ?_⟩
      refine GL.weak ⟨[(0, .yld 1000), (1, .ptr [.sl (List.length a0) (encs a0)]), (3, .val (.int .i64 i1)), (17, .val (.bool true))], [(1000, (loopB [.loc 1001 0, .loc 1002 0, .loc 1004 0] (view_rowMajor_y1_lp fn (jmpc 0 Jp.go)))), (1001, ⟨22, false, false, false, 0, [.sl (List.length c0) (encs c0)], none⟩), (1002, ⟨22, false, false, false, 0, [.osl 1003 (Enc.sz Int) 0 (List.length o7)], none⟩), (1003, ⟨3, true, false, true, Enc.sz Int, encs o7, none⟩), (1004, ⟨3, false, false, false, 0, [.val (.int .i64 o8)], none⟩)], []⟩ ⟨⟨rfl, rfl, rfl, rfl, trivial⟩, ⟨rfl, rfl, rfl, rfl, rfl, trivial⟩, rfl⟩ ?_
      refine GL.py (PY.un rfl rfl) rfl rfl ?_
      apply GL.nil
      refine GW.cond rfl (fun hc2 => ?_) (fun hc2 => ?_)
      · have H := condT hc2 H
        refine GW.ret ?_
        cases H
        exact And.intro ret_ne (And.intro rfl (RetQ.mk (.inl rfl) [] _ [(1000, (loopB [.loc 1001 0, .loc 1002 0, .loc 1004 0] (view_rowMajor_y1_lp fn (jmpc 0 Jp.go)))), (1001, ⟨22, false, false, false, 0, [.sl (List.length c0) (encs c0)], none⟩), (1002, ⟨22, false, false, false, 0, [.osl 1003 (Enc.sz Int) 0 (List.length o7)], none⟩), (1003, ⟨3, true, false, true, Enc.sz Int, encs o7, none⟩), (1004, ⟨3, false, false, false, 0, [.val (.int .i64 o8)], none⟩)] trivial ⟨rfl, rfl, rfl, rfl, rfl, trivial⟩ rfl ⟨rfl, rfl⟩))
      · have H := condF hc2 H
        apply GW.skip
        apply GW.region
        refine GL.py (PY.move rfl) rfl rfl ?_
        refine GL.py (PY.bin rfl rfl rfl) rfl rfl ?_
        refine GL.py (PY.assign rfl) rfl rfl ?_
        apply GL.nil
        cases H
        exact And.intro rfl ⟨⟨rfl, rfl, rfl, trivial⟩, ⟨rfl, rfl, rfl, rfl, rfl, trivial⟩, rfl⟩
    · have H := condF hc1 H
      refine GW.exit ?_
      cases H
      exact And.intro exit_ne (And.intro rfl ⟨trivial, ⟨rfl, rfl, rfl, rfl, rfl, trivial⟩, rfl⟩)
  · cases e3 with
    | ret r2 =>
      obtain ⟨rfl, hx⟩ := hx
      have H := Hr r2 rfl
      subst H
      exact hx
    | brk b2 =>
      obtain ⟨rfl, hs⟩ := hx
      have H := Hb b2 rfl
      obtain ⟨l4, c5⟩ := b2
      refine Eblock_hit ?_
      refine RetQ.weak0 hs rfl ?_
      refine RetQ.weak0 (s' := ⟨[], [(1000, (loopB [.loc 1001 0, .loc 1002 0, .loc 1004 0] (view_rowMajor_y1_lp fn (jmpc 0 Jp.go)))), (1001, ⟨22, false, false, false, 0, [.sl (List.length c0) (encs c0)], none⟩), (1002, ⟨22, false, false, false, 0, [.osl 1003 (Enc.sz Int) 0 (List.length l4)], none⟩), (1003, ⟨3, true, false, true, Enc.sz Int, encs l4, none⟩), (1004, ⟨3, false, false, false, 0, [.val (.int .i64 c5)], none⟩)], []⟩) ⟨trivial, ⟨rfl, rfl, rfl, rfl, rfl, trivial⟩, rfl⟩ rfl ?_
      have H := Option.some.inj H
      subst H
      exact RetQ.mk (.inr rfl) [] _ [(1000, (loopB [.loc 1001 0, .loc 1002 0, .loc 1004 0] (view_rowMajor_y1_lp fn (jmpc 0 Jp.go)))), (1001, ⟨22, false, false, false, 0, [.sl (List.length c0) (encs c0)], none⟩), (1002, ⟨22, false, false, false, 0, [.osl 1003 (Enc.sz Int) 0 (List.length l4)], none⟩), (1003, ⟨3, true, false, true, Enc.sz Int, encs l4, none⟩), (1004, ⟨3, false, false, false, 0, [.val (.int .i64 c5)], none⟩)] trivial ⟨rfl, rfl, rfl, rfl, rfl, trivial⟩ rfl ⟨rfl, rfl⟩
theorem view_rowMajor_ok (fu : Nat) (dims0 : (List Int)) (r : (List Int)) (H : F.view_rowMajor fu dims0 = some r) : GM Try.prog 83 [.sl (List.length dims0) (encs dims0)] [] (fun g st => g = .fr (.sl (List.length r) (encs r)) ∧ st = []) := by
  unfold F.view_rowMajor at H
  refine GM.of (N := 27) Try.func83 rfl rfl rfl (fun cx hro => ?_)
  apply GW.seq
  apply GW.region
  refine GL.e1 (W := []) (EF.box 0 rfl rfl rfl) rfl rfl ?_
  refine GL.py (PY.assign rfl) rfl rfl ?_
  apply GL.nil
  apply GW.seq
  obtain ⟨_, hm1, H⟩ := bind_some H
  replace hm1 := chk_spec hm1
  apply GW.region
  refine GL.y (YL.loadN rfl rfl rfl Try.isAgg22 rfl rfl) rfl rfl ?_
  refine GL.py (PY.len rfl rfl Try.underlying22) rfl rfl ?_
  refine GL.e1 (W := []) (ET.make (α := Int) (x := (0 : Int)) 3 rfl rfl Try.underlying22 info3 rfl rfl hm1.1 hm1.2.1 hm1.2.2 rfl) rfl rfl ?_
  refine GL.e1 (W := []) (EF.alloc 4 Try.zeroValue22 rfl) rfl rfl ?_
  refine GL.e0 (EF.storeN (W := [4]) (cells' := [.osl 3 (Enc.sz Int) 0 (List.length (List.replicate (Int.toNat (List.length dims0 : Int)) (0 : Int)))]) rfl rfl rfl rfl rfl rfl rfl rfl Try.sizeOf22 (Nat.le_of_ble_eq_true rfl) rfl rfl) rfl ?_
  apply GL.nil
  apply GW.seq
  apply GW.seq
  obtain ⟨r1, hr1, H⟩ := bind_some H
  apply GW.region
  refine GL.y (YL.loadN rfl rfl rfl Try.isAgg22 rfl rfl) rfl rfl ?_
  refine GL.e (W := []) (EF.call 4 Try.call50 rfl (mapO_cons rfl (mapO_cons rfl rfl)) (slices_Contains_ok fu dims0 0 r1 hr1) (by rintro _ _ ⟨rfl, rfl⟩; rfl)) rfl rfl ?_
  rintro _ ⟨_, _, ⟨rfl, rfl⟩, rfl⟩
  apply GL.nil
  refine GW.cond rfl (fun hc3 => ?_) (fun hc3 => ?_)
  · have H := condT hc3 H
    apply GW.seq
    apply GW.region
    refine GL.y (YL.loadN rfl rfl rfl Try.isAgg22 rfl rfl) rfl rfl ?_
    refine GL.py (PY.assign rfl) rfl rfl ?_
    apply GL.nil
    refine GW.ret ?_
    have H := Option.some.inj H
    subst H
    exact RetQ.mk (.inl rfl) [.osl 3 (Enc.sz Int) 0 (List.length (List.replicate (Int.toNat (List.length dims0 : Int)) (0 : Int)))] _ [] ⟨Res.tmp rfl, trivial⟩ trivial (fz_vec (α := Int) (l := List.replicate (Int.toNat (List.length dims0 : Int)) (0 : Int)) rfl rfl rfl rfl rfl rfl) ⟨rfl, rfl⟩
  · have H := condF hc3 H
    apply GW.skip
    apply GW.seq
    apply GW.region
    refine GL.e1 (W := []) (EF.alloc 5 Try.zeroValue3 rfl) rfl rfl ?_
    refine GL.e0 (EF.storeN (W := [5]) (cells' := [.val (.int .i64 1)]) rfl rfl rfl rfl rfl rfl rfl rfl Try.sizeOf3 (Nat.le_of_ble_eq_true rfl) rfl rfl) rfl ?_
    apply GL.nil
    apply GW.seq
    apply GW.seq
    obtain ⟨r3, hr3, H⟩ := bind_some H
    apply GW.region
    refine GL.y (YL.loadN rfl rfl rfl Try.isAgg22 rfl rfl) rfl rfl ?_
    refine GL.e (W := []) (EF.callA Try.call87 rfl (mapO_cons rfl rfl) (slices_Backward_ok fu dims0 r3 hr3) (by rintro _ _ ⟨rfl, rfl⟩; exact ⟨rfl, rfl⟩)) rfl rfl ?_
    rintro _ ⟨_, _, ⟨rfl, rfl⟩, rfl⟩
    apply GL.nil
    apply GW.block
    obtain ⟨r7, hr7, H⟩ := bind_some H
    obtain ⟨o5, o6⟩ := r7
    refine GW.rangeFunc hro view_rowMajor_y1_lp 6 [1, 3, 4] [6, 0, 4, 3, 5] false [6, 0, 4, 3, 5] (fun _ _ => rfl) rfl Try.call107 rfl rfl (fun _ => rfl) rfl (by simp) (fun fn => slices_Backward_1_2_ok fn fu r3 dims0 (List.replicate (Int.toNat (List.length dims0 : Int)) (0 : Int)) 1 (o5, o6) hr7) (fun _ => rfl) ?_
    rintro fn _ _ ⟨rfl, rfl⟩
    refine ⟨_, ⟨[(3, .loc 4 0)], [(3, ⟨3, true, true, true, Enc.sz Int, encs o5, none⟩), (4, ⟨22, false, true, false, 0, [.osl 3 (Enc.sz Int) 0 (List.length o5)], none⟩)], []⟩, _, _, rfl, rfl, rfl, rfl, ⟨⟨rfl, trivial⟩, ⟨rfl, rfl, trivial⟩, rfl⟩, rfl, LoopR.on (j := Jp.go) rfl ?_⟩
    apply GW.seq
    apply GW.region
    refine GL.y (YL.loadN rfl rfl rfl Try.isAgg22 rfl rfl) rfl rfl ?_
    refine GL.py (PY.assign rfl) rfl rfl ?_
    apply GL.nil
    refine GW.ret ?_
    have H := Option.some.inj H
    subst H
    exact RetQ.mk (.inl rfl) [.osl 3 (Enc.sz Int) 0 (List.length o5)] _ [] ⟨Res.tmp rfl, trivial⟩ trivial (fz_vec (α := Int) (l := o5) rfl rfl rfl rfl rfl rfl) ⟨rfl, rfl⟩
theorem slices_Grow_ok (fu : Nat) (n0 : Int) (r : (List Int)) (H : F.slices_Grow fu n0 = some r) : GM Try.prog 55 [.val (.slice none 0 0), .val (.int .i64 n0)] [] (fun g st => g = .osl 600 (Enc.sz Int) 0 (List.length r) ∧ st = [(600, ⟨3, true, true, true, Enc.sz Int, encs r, none⟩)]) := by
  unfold F.slices_Grow at H
  refine GM.of (N := 27) Try.func55 rfl rfl rfl (fun cx hro => ?_)
  apply GW.seq
  apply GW.region
  refine GL.py (PY.assign rfl) rfl rfl ?_
  apply GL.nil
  apply GW.seq
  apply GW.seq
  apply GW.region
  refine GL.py (PY.move rfl) rfl rfl ?_
  refine GL.py (PY.bin rfl rfl rfl) rfl rfl ?_
  apply GL.nil
  obtain ⟨e2, he2, H⟩ := bind_some H
  refine GW.mono (Q := QB .normal (fun (q : Unit) => (⟨[(0, .val (.slice none 0 0)), (1, .val (.int .i64 n0))], [], []⟩ : St)) ()) ?_ ?_
  · have H := he2
    refine GW.cond rfl (fun hc1 => ?_) (fun hc1 => ?_)
    · have H := condT hc1 H
      cases H
    · have H := condF hc1 H
      apply GW.skip
      cases H
      exact And.intro rfl ⟨⟨rfl, rfl, trivial⟩, trivial, rfl⟩
  · rintro _ s2 ⟨rfl, hs⟩
    refine GW.weak _ hs ?_
    refine GW.weak ⟨[(0, .val (.slice none 0 0)), (1, .val (.int .i64 n0))], [], []⟩ ⟨⟨rfl, rfl, trivial⟩, trivial, rfl⟩ ?_
    apply GW.seq
    apply GW.seq
    apply GW.region
    refine GL.py (PY.move rfl) rfl rfl ?_
    refine GL.py (PY.move rfl) rfl rfl ?_
    refine GL.py (PY.capN rfl Try.underlying22) rfl rfl ?_
    refine GL.py (PY.move rfl) rfl rfl ?_
    refine GL.py (PY.len rfl rfl Try.underlying22) rfl rfl ?_
    refine GL.py (PY.bin rfl rfl rfl) rfl rfl ?_
    refine GL.py (PY.bin rfl rfl rfl) rfl rfl ?_
    refine GL.py (PY.assign rfl) rfl rfl ?_
    apply GL.nil
    apply GW.seq
    apply GW.region
    refine GL.py (PY.move rfl) rfl rfl ?_
    refine GL.py (PY.bin rfl rfl rfl) rfl rfl ?_
    apply GL.nil
    refine GW.cond rfl (fun hc3 => ?_) (fun hc3 => ?_)
    · have H := condT hc3 H
      obtain ⟨_, hm4, H⟩ := bind_some H
      replace hm4 := chk_spec hm4
      obtain ⟨_, hs5, H⟩ := bind_some H
      replace hs5 := chk_spec hs5
      apply GW.region
      refine GL.py (PY.move rfl) rfl rfl ?_
      refine GL.py (PY.move rfl) rfl rfl ?_
      refine GL.py (PY.capN rfl Try.underlying22) rfl rfl ?_
      refine GL.py (PY.sliceN (α := Int) rfl rfl Try.underlying22 Try.sizeOf3) rfl rfl ?_
      refine GL.py (PY.move rfl) rfl rfl ?_
      refine GL.e1 (W := []) (ET.appendZ (α := Int) (x := (0 : Int)) 5 rfl rfl Try.underlying22 Try.underlying3 info3 rfl rfl rfl hm4.1 hm4.2.1 hm4.2.2 rfl) rfl rfl ?_
      refine GL.py (PY.move rfl) rfl rfl ?_
      refine GL.py (PY.len rfl rfl Try.underlying22) rfl rfl ?_
      refine GL.py (PY.sliceO (α := Int) rfl rfl Try.underlying22 Try.sizeOf3 hs5.1 hs5.2) rfl rfl ?_
      refine GL.trunc (α := Int) (l := List.replicate (Int.toNat (IntKind.i64.wrap (n0 - (IntKind.i64.wrap (0 - 0))))) (0 : Int)) 5 rfl rfl (Int.toNat 0) ?_
      refine GL.resl 25 rfl (take_len hs5.1 hs5.2) ?_
      refine GL.py (PY.assign rfl) rfl rfl ?_
      apply GL.nil
      apply GW.seq
      apply GW.region
      refine GL.py (PY.move rfl) rfl rfl ?_
      refine GL.py (PY.assign rfl) rfl rfl ?_
      apply GL.nil
      refine GW.move 5 600 rfl rfl ?_
      refine GW.ret ?_
      have H := Option.some.inj H
      subst H
      exact RetQ.mk (.inl rfl) [.osl 600 (Enc.sz Int) 0 (List.length (List.take (Int.toNat 0) (List.replicate (Int.toNat (IntKind.i64.wrap (n0 - (IntKind.i64.wrap (0 - 0))))) (0 : Int))))] _ [(600, ⟨3, true, true, true, Enc.sz Int, encs (List.take (Int.toNat 0) (List.replicate (Int.toNat (IntKind.i64.wrap (n0 - (IntKind.i64.wrap (0 - 0))))) (0 : Int))), none⟩)] ⟨Res.tmp rfl, trivial⟩ ⟨rfl, trivial⟩ rfl ⟨rfl, rfl⟩
    · have H := condF hc3 H
      apply GW.skip
      apply GW.seq
      apply GW.region
      refine GL.py (PY.move rfl) rfl rfl ?_
      refine GL.py (PY.assign rfl) rfl rfl ?_
      apply GL.nil
      refine GW.adopt 4 600 3 (Enc.sz Int) rfl rfl ?_
      refine GW.ret ?_
      have H := Option.some.inj H
      subst H
      exact RetQ.mk (.inl rfl) [.osl 600 (Enc.sz Int) 0 (List.length ([] : (List Int)))] _ [(600, ⟨3, true, true, true, Enc.sz Int, encs ([] : (List Int)), none⟩)] ⟨Res.tmp rfl, trivial⟩ ⟨rfl, trivial⟩ rfl ⟨rfl, rfl⟩
theorem slices_Concat_ok (fu : Nat) (slices0 : (List (List Int))) (r : (List Int)) (H : F.slices_Concat fu slices0 = some r) : GM Try.prog 39 [.sl (List.length slices0) (encs slices0)] [] (fun g st => g = .fr (.sl (List.length r) (encs r)) ∧ st = []) := by
  unfold F.slices_Concat at H
  refine GM.of (N := 36) Try.func39 rfl rfl rfl (fun cx hro => ?_)
  apply GW.seq
  apply GW.region
  refine GL.py (PY.assign rfl) rfl rfl ?_
  apply GL.nil
  apply GW.seq
  apply GW.region
  refine GL.py (PY.assign rfl) rfl rfl ?_
  apply GL.nil
  apply GW.seq
  apply GW.seq
  apply GW.region
  refine GL.py (PY.move rfl) rfl rfl ?_
  refine GL.py (PY.len rfl rfl Try.underlying32) rfl rfl ?_
  refine GL.py (PY.move rfl) rfl rfl ?_
  apply GL.nil
  apply GW.block
  obtain ⟨e3, he3, H⟩ := bind_some H
  refine GW.weak ((fun (q : Int × Int) => (⟨[(0, .sl (List.length slices0) (encs slices0)), (3, .val (.int .i64 q.1)), (9, .sl (List.length slices0) (encs slices0)), (10, .val (.int .i64 (List.length slices0 : Int))), (11, .val (.int .i64 q.2))], [], []⟩ : St)) (0, 0)) ⟨⟨rfl, rfl, rfl, rfl, rfl, trivial⟩, trivial, rfl⟩ ?_
  refine GW.loopF (fun (q : Int × Int) => (⟨[(0, .sl (List.length slices0) (encs slices0)), (3, .val (.int .i64 q.1)), (9, .sl (List.length slices0) (encs slices0)), (10, .val (.int .i64 (List.length slices0 : Int))), (11, .val (.int .i64 q.2))], [], []⟩ : St)) (QB (.exit 0) (fun (q : Int) => (⟨[(0, .sl (List.length slices0) (encs slices0)), (3, .val (.int .i64 q))], [], []⟩ : St))) he3 (fun x o hb => ?_) (fun ex s2 _ hx => ?_)
  · obtain ⟨size1, i2⟩ := x
    have H := hb
    unfold F.slices_Concat_l1 at H
    try dsimp only at H
    refine GW.weak ⟨[(0, .sl (List.length slices0) (encs slices0)), (3, .val (.int .i64 size1)), (9, .sl (List.length slices0) (encs slices0)), (10, .val (.int .i64 (List.length slices0 : Int))), (11, .val (.int .i64 i2))], [], []⟩ ⟨⟨rfl, rfl, rfl, rfl, rfl, trivial⟩, trivial, rfl⟩ ?_
    apply GW.seq
    apply GW.region
    refine GL.py (PY.bin rfl rfl rfl) rfl rfl ?_
    apply GL.nil
    apply GW.seq
    refine GW.cond rfl (fun hc1 => ?_) (fun hc1 => ?_)
    · have H := condT hc1 H
      apply GW.skip
      apply GW.seq
      apply GW.block
      apply GW.seq
      obtain ⟨x4, hx4, H⟩ := bind_some H
      apply GW.region
      refine GL.py (PY.index rfl rfl rfl (idx_spec hx4).1 (idx_spec hx4).2.1 Try.underlying32 Try.sizeOf22) rfl rfl ?_
      refine GL.y (YT.elt (α := (List Int)) rfl hx4 rfl Try.isAgg22) rfl rfl ?_
      refine GL.py (PY.assign rfl) rfl rfl ?_
      apply GL.nil
      apply GW.seq
      apply GW.region
      refine GL.py (PY.move rfl) rfl rfl ?_
      refine GL.py (PY.move rfl) rfl rfl ?_
      refine GL.py (PY.len rfl rfl Try.underlying22) rfl rfl ?_
      refine GL.py (PY.bin rfl rfl rfl) rfl rfl ?_
      refine GL.py (PY.assign rfl) rfl rfl ?_
      apply GL.nil
      apply GW.seq
      apply GW.region
      refine GL.py (PY.move rfl) rfl rfl ?_
      refine GL.py (PY.bin rfl rfl rfl) rfl rfl ?_
      apply GL.nil
      refine GW.cond rfl (fun hc2 => ?_) (fun hc2 => ?_)
      · have H := condT hc2 H
        cases H
      · have H := condF hc2 H
        apply GW.skip
        apply GW.region
        refine GL.py (PY.bin rfl rfl rfl) rfl rfl ?_
        refine GL.py (PY.move rfl) rfl rfl ?_
        apply GL.nil
        cases H
        exact And.intro rfl ⟨⟨rfl, rfl, rfl, rfl, rfl, trivial⟩, trivial, rfl⟩
    · have H := condF hc1 H
      refine GW.exit ?_
      cases H
      exact And.intro exit_ne (And.intro rfl ⟨⟨rfl, rfl, trivial⟩, trivial, rfl⟩)
  · obtain ⟨rfl, hs⟩ := hx
    obtain ⟨size3, rfl⟩ : ∃ z, z = e3 := ⟨_, rfl⟩
    refine GW.weak _ hs ?_
    refine GW.weak ⟨[(0, .sl (List.length slices0) (encs slices0)), (3, .val (.int .i64 size3))], [], []⟩ ⟨⟨rfl, rfl, trivial⟩, trivial, rfl⟩ ?_
    apply GW.seq
    obtain ⟨r5, hr5, H⟩ := bind_some H
    apply GW.region
    refine GL.py (PY.move rfl) rfl rfl ?_
    refine GL.e1 (EF.lendW [true, false] (s1 := ⟨[(0, .sl (List.length slices0) (encs slices0)), (24, .osl 201 (Enc.sz Int) 0 (List.length r5))], [(201, ⟨3, true, true, true, Enc.sz Int, encs r5, none⟩)], []⟩) (W := []) [] false [201] Try.call55 rfl rfl rfl rfl (slices_Grow_ok fu size3 r5 hr5) (by rintro _ _ ⟨rfl, rfl⟩; exact ⟨_, _, rfl, rfl, ⟨⟨rfl, rfl, trivial⟩, ⟨rfl, trivial⟩, rfl⟩⟩) rfl) rfl rfl ?_
    refine GL.py (PY.assign rfl) rfl rfl ?_
    apply GL.nil
    apply GW.seq
    apply GW.seq
    apply GW.region
    refine GL.py (PY.move rfl) rfl rfl ?_
    refine GL.py (PY.len rfl rfl Try.underlying32) rfl rfl ?_
    refine GL.py (PY.move rfl) rfl rfl ?_
    apply GL.nil
    apply GW.block
    obtain ⟨e7, he7, H⟩ := bind_some H
    refine GW.weak ((fun (q : Int × (List Int)) => (⟨[(6, .osl 201 (Enc.sz Int) 0 (List.length q.2)), (25, .sl (List.length slices0) (encs slices0)), (26, .val (.int .i64 (List.length slices0 : Int))), (27, .val (.int .i64 q.1))], [(201, ⟨3, true, true, true, Enc.sz Int, encs q.2, none⟩)], []⟩ : St)) (0, r5)) ⟨⟨rfl, rfl, rfl, rfl, trivial⟩, ⟨rfl, trivial⟩, rfl⟩ ?_
    refine GW.loopF (fun (q : Int × (List Int)) => (⟨[(6, .osl 201 (Enc.sz Int) 0 (List.length q.2)), (25, .sl (List.length slices0) (encs slices0)), (26, .val (.int .i64 (List.length slices0 : Int))), (27, .val (.int .i64 q.1))], [(201, ⟨3, true, true, true, Enc.sz Int, encs q.2, none⟩)], []⟩ : St)) (QB (.exit 2) (fun (q : (List Int)) => (⟨[(6, .osl 201 (Enc.sz Int) 0 (List.length q))], [(201, ⟨3, true, true, true, Enc.sz Int, encs q, none⟩)], []⟩ : St))) he7 (fun x o hb => ?_) (fun ex s2 _ hx => ?_)
    · obtain ⟨i6, newslice7⟩ := x
      have H := hb
      unfold F.slices_Concat_l2 at H
      try dsimp only at H
      refine GW.weak ⟨[(6, .osl 201 (Enc.sz Int) 0 (List.length newslice7)), (25, .sl (List.length slices0) (encs slices0)), (26, .val (.int .i64 (List.length slices0 : Int))), (27, .val (.int .i64 i6))], [(201, ⟨3, true, true, true, Enc.sz Int, encs newslice7, none⟩)], []⟩ ⟨⟨rfl, rfl, rfl, rfl, trivial⟩, ⟨rfl, trivial⟩, rfl⟩ ?_
      apply GW.seq
      apply GW.region
      refine GL.py (PY.bin rfl rfl rfl) rfl rfl ?_
      apply GL.nil
      apply GW.seq
      refine GW.cond rfl (fun hc4 => ?_) (fun hc4 => ?_)
      · have H := condT hc4 H
        apply GW.skip
        apply GW.seq
        apply GW.block
        apply GW.seq
        obtain ⟨x9, hx9, H⟩ := bind_some H
        apply GW.region
        refine GL.py (PY.index rfl rfl rfl (idx_spec hx9).1 (idx_spec hx9).2.1 Try.underlying32 Try.sizeOf22) rfl rfl ?_
        refine GL.y (YT.elt (α := (List Int)) rfl hx9 rfl Try.isAgg22) rfl rfl ?_
        refine GL.py (PY.assign rfl) rfl rfl ?_
        apply GL.nil
        obtain ⟨_, ha5, H⟩ := bind_some H
        replace ha5 := chk_spec ha5
        apply GW.region
        refine GL.py (PY.move rfl) rfl rfl ?_
        refine GL.py (PY.move rfl) rfl rfl ?_
        refine GL.e1 (ET.append (α := Int) (m := x9) (W := [201]) rfl rfl rfl rfl rfl rfl rfl rfl rfl Try.underlying22 info3 rfl ha5.1 ha5.2 rfl) rfl rfl ?_
        refine GL.refresh (α := Int) (l := newslice7 ++ x9) 201 rfl rfl rfl ?_
        refine GL.py (PY.assign rfl) rfl rfl ?_
        apply GL.nil
        apply GW.region
        refine GL.py (PY.bin rfl rfl rfl) rfl rfl ?_
        refine GL.py (PY.move rfl) rfl rfl ?_
        apply GL.nil
        cases H
        exact And.intro rfl ⟨⟨rfl, rfl, rfl, rfl, trivial⟩, ⟨rfl, trivial⟩, rfl⟩
      · have H := condF hc4 H
        refine GW.exit ?_
        cases H
        exact And.intro exit_ne (And.intro rfl ⟨⟨rfl, trivial⟩, ⟨rfl, trivial⟩, rfl⟩)
    · obtain ⟨rfl, hs⟩ := hx
      obtain ⟨newslice8, rfl⟩ : ∃ z, z = e7 := ⟨_, rfl⟩
      refine GW.weak _ hs ?_
      refine GW.weak ⟨[(6, .osl 201 (Enc.sz Int) 0 (List.length newslice8))], [(201, ⟨3, true, true, true, Enc.sz Int, encs newslice8, none⟩)], []⟩ ⟨⟨rfl, trivial⟩, ⟨rfl, trivial⟩, rfl⟩ ?_
      apply GW.seq
      apply GW.region
      refine GL.py (PY.move rfl) rfl rfl ?_
      refine GL.py (PY.assign rfl) rfl rfl ?_
      apply GL.nil
      refine GW.ret ?_
      have H := Option.some.inj H
      subst H
      exact RetQ.mk (.inl rfl) [.osl 201 (Enc.sz Int) 0 (List.length newslice8)] _ [] ⟨Res.tmp rfl, trivial⟩ trivial (fz_vec (α := Int) (l := newslice8) rfl rfl rfl rfl rfl rfl) ⟨rfl, rfl⟩
end Go.Proofs.Ytcbaolgciiieeaa
